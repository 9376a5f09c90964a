/- The reference's find (chapter 18). -/
import Derived.Test.YtegejmbkpdlekaaHdScan
namespace Go.Proofs.Ytegejmbkpdlekaa
open Go.RowKit
theorem find_hit {s p : ByteArray} {k : Nat} (hk : k + p.size ≤ s.size) (hno : Lib.NoOcc s.data.toList p.data.toList k) (h : Lib.occAt s.data.toList p.data.toList k = true) : (k : Int) = Lib.index s.data.toList p.data.toList :=
  (Lib.index_first (by rw [size_toList]; omega) h (fun j hj => hno j hj)).symm
theorem find_none {s p : ByteArray} {k : Nat} (h0 : 0 < p.size) (hk : ¬ k + p.size ≤ s.size) (hno : Lib.NoOcc s.data.toList p.data.toList k) : (-1 : Int) = Lib.index s.data.toList p.data.toList := by
  refine (Lib.index_none fun j hj => ?_).symm
  by_cases hjk : j < k
  · exact hno j hjk
  · cases h : Lib.occAt s.data.toList p.data.toList j with
    | false => rfl
    | true =>
      rcases Lib.occAt_room h with h1 | h1
      · rw [size_toList, size_toList] at h1; omega
      · rw [← size_toList, h1] at h0; cases h0
theorem find_next {s p : ByteArray} {k : Nat} (hno : Lib.NoOcc s.data.toList p.data.toList k) (h : Lib.occAt s.data.toList p.data.toList k = false) : Lib.NoOcc s.data.toList p.data.toList (k + 1) := by
  intro j hj
  by_cases e : j = k
  · subst e; exact h
  · exact hno j (by omega)
theorem occ_ext {s p : ByteArray} {k : Nat} (hk : k + p.size ≤ s.size) : ((s.extract k (k + p.size)).toList == p.toList) = Lib.occAt s.data.toList p.data.toList k := by
  rw [Lib.occAt_iff_take _ _ _ (by rw [size_toList, size_toList]; exact hk), size_toList]
  have e : (s.extract k (k + p.size)).toList = (s.data.toList.drop k).take p.size := by
    rw [ByteArray.toList_eq]
    simp [List.take_drop]
  rw [e, ByteArray.toList_eq]

set_option maxHeartbeats 1000000 in
theorem rFind_c (s p : ByteArray) (hs : s.size ≤ 1000000) (h0 : 0 < p.size) (hp : p.size ≤ 1000) (w : World) :
    Calls Try.prog 55 #[.string s, .string p] w fun e w' => e = .returned (.int .i64 (Lib.index s.data.toList p.data.toList)) ∧ w = w' := by
  go_enter Try.func55, Try.ntmps55
  go_wp2_with fail
  go_loop [5] (fun i => ∃ k : Nat, k ≤ s.size ∧ i = .int .i64 k ∧ Lib.NoOcc s.data.toList p.data.toList k) (fun i => s.size - (intOf i).toNat)
  case atStart => exact ⟨0, Nat.zero_le _, rfl, Lib.NoOcc.zero _ _⟩
  case round =>
    obtain ⟨k, hk, rfl, hn⟩ := hrel
    have HN := Lib.hid hn
    clear hn
    by_cases hlt : k + p.size ≤ s.size
    · have hx := occ_ext hlt
      by_cases hd : Lib.occAt s.data.toList p.data.toList k = true
      · rw [hd] at hx
        have HD := Lib.hid hd
        clear hd
        go_wp2_with fail
        go_ret
        exact ⟨ret_i (find_hit hlt HN.out HD.out), rfl⟩
      · have hd' : Lib.occAt s.data.toList p.data.toList k = false := by simpa using hd
        rw [hd'] at hx
        have HD := Lib.hid hd'
        clear hd hd'
        go_wp2_with fail
        go_round
        case rel => exact ⟨k + 1, by omega, by go_num, find_next HN.out HD.out⟩
        case measure => simp [intOf]; omega
    · go_wp2_with fail
      go_ret
      exact ⟨ret_i (find_none h0 hlt HN.out), rfl⟩
end Go.Proofs.Ytegejmbkpdlekaa
