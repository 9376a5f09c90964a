/- Contracts of the functions of chapter 1 on strings (program and reference). -/
import Derived.Test.YtaopehogpdgkgaaGreatRows
import Derived.WalkKit
import Derived.WalkSpells
import Derived.WalkLawsBesides
import Derived.Test.YtaopehogpdgkgaaGreatMem
import Derived.Test.YtaopehogpdgkgaaGreatBytes
namespace Go.Proofs.YtaopehogpdgkgaaGreat
open Go.RowKit

theorem ret_s {a b : ByteArray} (h : a = b) : Ending.returned (.string a) = .returned (.string b) := by rw [h]

set_option maxHeartbeats 400000 in
theorem lower_c (s : ByteArray) (hs : s.size ≤ 9223372036854775807) (w : World) :
    Calls Tryz.prog 28 #[.string s] w fun e w' => e = .returned (.string (S (lowerL s.data.toList))) ∧ Below w.heap.size w w' := by
  have hcv := fun w => Lib.run_convert_string_bytes (P := Tryz.prog) w 9 67 5 s Tryz.underlying9 Tryz.underlying67 Tryz.underlying5
  go_enter Tryz.func28, Tryz.ntmps28
  go_wp2
  clear hcv
  have hB0 := BytesAt.new w 5 s
  have hW0 := below_bytes w 5 s
  have hl : s.data.toList.length = s.size := rfl
  have Hl := Lib.hid hl
  clear hl
  generalize Lib.bytesWorld w 5 s = w0 at *
  go_loopw [10] (fun i wr => ∃ k : Nat, k ≤ s.size ∧ i = .int .i64 k ∧ BytesAt wr w.heap.size 5 (lowK s.data.toList k) ∧ Below w.heap.size w wr) (fun i _ => s.size - (intOf i).toNat)
  case atStart => exact ⟨0, Nat.zero_le _, rfl, by rw [lowK_zero]; exact hB0, hW0⟩
  case round =>
    clear hB0 hW0
    obtain ⟨k, hk, rfl, hB, hW⟩ := hrel
    by_cases hlt : k < s.size
    · have hkl : k < (lowK s.data.toList k).length := by rw [lowK_len]; exact hlt
      have hc := hB.cell hkl
      have hf := hB.frozen hkl
      rw [lowK_at _ _ hlt] at hc
      have hset := hB.set hkl (lowerB (s.data.toList[k]'hlt))
      rw [← lowK_succ _ _ hlt] at hset
      go_wp2
      · go_roundw
        case rel =>
          rw [lowerB_up ‹_› ‹_›] at hset
          exact ⟨k + 1, by omega, by go_num, hset, hW.setCell (Nat.le_refl _) _⟩
        case measure => simp [intOf]; omega
      · go_roundw
        case rel =>
          have e : lowK s.data.toList (k + 1) = lowK s.data.toList k := by
            rw [lowK_succ _ _ hlt, lowerB_not (by simp; omega), ← lowK_at _ _ hlt]; exact List.set_getElem_self _
          exact ⟨k + 1, by omega, by go_num, e ▸ hB, hW⟩
        case measure => simp [intOf]; omega
      · go_roundw
        case rel =>
          have e : lowK s.data.toList (k + 1) = lowK s.data.toList k := by
            rw [lowK_succ _ _ hlt, lowerB_not (by simp; omega), ← lowK_at _ _ hlt]; exact List.set_getElem_self _
          exact ⟨k + 1, by omega, by go_num, e ▸ hB, hW⟩
        case measure => simp [intOf]; omega
    · have hcv := fun cap => (lowK_all s.data.toList k (Nat.le_of_not_lt hlt) ▸ hB).back (P := Tryz.prog) 67 9 cap s.size (by rw [lowerL_len]; exact Hl.out.symm) Tryz.underlying67 Tryz.underlying5 Tryz.underlying9
      go_wp2
      go_ret
      exact ⟨rfl, hW⟩

set_option maxHeartbeats 400000 in
theorem rLower_c (s : ByteArray) (hs : s.size ≤ 9223372036854775807) (w : World) :
    Calls Tryz.prog 51 #[.string s] w fun e w' => e = .returned (.string (S (lowerL s.data.toList))) ∧ Below w.heap.size w w' := by
  have hcv := fun w => Lib.run_convert_string_bytes (P := Tryz.prog) w 9 67 5 s Tryz.underlying9 Tryz.underlying67 Tryz.underlying5
  go_enter Tryz.func51, Tryz.ntmps51
  go_wp2
  clear hcv
  have hB0 := BytesAt.new w 5 s
  have hW0 := below_bytes w 5 s
  have hl : s.data.toList.length = s.size := rfl
  have Hl := Lib.hid hl
  clear hl
  generalize Lib.bytesWorld w 5 s = w0 at *
  go_loopw [9] (fun i wr => ∃ k : Nat, k ≤ s.size ∧ i = .int .i64 k ∧ BytesAt wr w.heap.size 5 (lowK s.data.toList k) ∧ Below w.heap.size w wr) (fun i _ => s.size - (intOf i).toNat)
  case atStart => exact ⟨0, Nat.zero_le _, rfl, by rw [lowK_zero]; exact hB0, hW0⟩
  case round =>
    clear hB0 hW0
    obtain ⟨k, hk, rfl, hB, hW⟩ := hrel
    by_cases hlt : k < s.size
    · have hkl : k < (lowK s.data.toList k).length := by rw [lowK_len]; exact hlt
      have hc := hB.cell hkl
      have hf := hB.frozen hkl
      rw [lowK_at _ _ hlt] at hc
      have hset := hB.set hkl (lowerB (s.data.toList[k]'hlt))
      rw [← lowK_succ _ _ hlt] at hset
      go_wp2
      · go_roundw
        case rel =>
          rw [lowerB_up ‹_› ‹_›] at hset
          exact ⟨k + 1, by omega, by go_num, hset, hW.setCell (Nat.le_refl _) _⟩
        case measure => simp [intOf]; omega
      · go_roundw
        case rel =>
          have e : lowK s.data.toList (k + 1) = lowK s.data.toList k := by
            rw [lowK_succ _ _ hlt, lowerB_not (by simp; omega), ← lowK_at _ _ hlt]; exact List.set_getElem_self _
          exact ⟨k + 1, by omega, by go_num, e ▸ hB, hW⟩
        case measure => simp [intOf]; omega
      · go_roundw
        case rel =>
          have e : lowK s.data.toList (k + 1) = lowK s.data.toList k := by
            rw [lowK_succ _ _ hlt, lowerB_not (by simp; omega), ← lowK_at _ _ hlt]; exact List.set_getElem_self _
          exact ⟨k + 1, by omega, by go_num, e ▸ hB, hW⟩
        case measure => simp [intOf]; omega
    · have hcv := fun cap => (lowK_all s.data.toList k (Nat.le_of_not_lt hlt) ▸ hB).back (P := Tryz.prog) 67 9 cap s.size (by rw [lowerL_len]; exact Hl.out.symm) Tryz.underlying67 Tryz.underlying5 Tryz.underlying9
      go_wp2
      go_ret
      exact ⟨rfl, hW⟩

theorem beq_str (a b : List UInt8) : ((S a).data.toList == (S b).data.toList) = (a == b) := rfl

set_option maxHeartbeats 400000 in
theorem equal_c (a b : ByteArray) (ha : a.size ≤ 9223372036854775807) (hb : b.size ≤ 9223372036854775807) (w : World) :
    Calls Tryz.prog 40 #[.string a, .string b] w fun e w' => e = .returned (.bool (lowerL a.data.toList == lowerL b.data.toList)) ∧ Below w.heap.size w w' := by
  go_enter Tryz.func40, Tryz.ntmps40
  go_wp2_with fail
  refine (lower_c _ ha _).mono ?_
  rintro e w1 ⟨rfl, hb1⟩
  go_wp2_with fail
  refine (lower_c _ hb _).mono ?_
  rintro e w2 ⟨rfl, hb2⟩
  go_wp2_with fail
  go_ret
  exact ⟨ret_b (by rw [S_toList, S_toList]), hb1.trans (hb2.mono hb1.size)⟩

set_option maxHeartbeats 400000 in
theorem rEqual_c (a b : ByteArray) (ha : a.size ≤ 9223372036854775807) (hb : b.size ≤ 9223372036854775807) (w : World) :
    Calls Tryz.prog 41 #[.string a, .string b] w fun e w' => e = .returned (.bool (lowerL a.data.toList == lowerL b.data.toList)) ∧ Below w.heap.size w w' := by
  go_enter Tryz.func41, Tryz.ntmps41
  go_wp2_with fail
  refine (rLower_c _ ha _).mono ?_
  rintro e w1 ⟨rfl, hb1⟩
  go_wp2_with fail
  refine (rLower_c _ hb _).mono ?_
  rintro e w2 ⟨rfl, hb2⟩
  go_wp2_with fail
  go_ret
  exact ⟨ret_b (by rw [S_toList, S_toList]), hb1.trans (hb2.mono hb1.size)⟩

end Go.Proofs.YtaopehogpdgkgaaGreat
