/- Contracts of the reference's readers of header values: Skip, Token (webfingerref20). -/
import Derived.Test.YtaopehogpdgkgaaGreatValue
namespace Go.Proofs.YtaopehogpdgkgaaGreat
open Go.RowKit
/-- what a reader at offset k answers -/
def RD (s : ByteArray) (k : Nat) (x : Option (List UInt8 × List UInt8)) (e : Ending) : Prop :=
  (x = none ∧ e = .returned (.tuple #[.string ⟨#[]⟩, .int .i64 0, .bool false])) ∨
  ∃ v r k', x = some (v, r) ∧ k < k' ∧ k' ≤ s.size ∧ s.data.toList.drop k' = r ∧ e = .returned (.tuple #[.string (S v), .int .i64 (k' : Int), .bool true])
set_option maxHeartbeats 400000 in
theorem rSkip_c (s : ByteArray) (k : Nat) (hk : k ≤ s.size) (hs : s.size ≤ 1000000) (w : World) :
    Calls Tryz.prog 50 #[.string s, .int .i64 (k : Int)] w fun e w' => (∃ k', k ≤ k' ∧ k' ≤ s.size ∧ s.data.toList.drop k' = blankL (s.data.toList.drop k) ∧ e = .returned (.int .i64 (k' : Int))) ∧ w = w' := by
  have HL := Lib.hid (tw_le blankN s k hk)
  have HD := Lib.hid (tw_dropS blankN s k)
  generalize hK : k + twN blankN (s.data.toList.drop k) = K at *
  go_enter Tryz.func50, Tryz.ntmps50
  go_wp2_with fail
  go_loop [1] (fun i => ∃ j : Nat, k ≤ j ∧ j ≤ s.size ∧ i = .int .i64 (j : Int) ∧ j + twN blankN (s.data.toList.drop j) = K) (fun i => s.size - (intOf i).toNat)
  case atStart => exact ⟨k, Nat.le_refl _, hk, rfl, hK⟩
  case round =>
    obtain ⟨j, hkj, hj, rfl, hJ⟩ := hrel
    have HJ := Lib.hid hJ
    clear hJ
    have HK := Lib.hid hK
    clear hK
    by_cases hlt : j < s.size
    · have hb := byte_lt s[j]
      by_cases hp : blankN s[j].toNat = true
      · go_wp2_with (go_at_call 67; refine (rBlank_c _ (by omega) (by omega) _).mono ?_; rintro e w' ⟨rfl, rfl⟩)
        go_round
        case rel => exact ⟨j + 1, by omega, by omega, by go_num, by have := HJ.out; rw [tw_hit hlt hp] at this; omega⟩
        case measure => simp [intOf]; omega
      · have hp' : blankN s[j].toNat = false := by simpa using hp
        have e : j = K := by have := HJ.out; rw [tw_miss hlt hp'] at this; omega
        subst e
        clear hp
        go_wp2_with (go_at_call 67; refine (rBlank_c _ (by omega) (by omega) _).mono ?_; rintro e w' ⟨rfl, rfl⟩)
        go_ret
        exact ⟨⟨j, hkj, hj, HD.out, rfl⟩, rfl⟩
    · have e : j = K := by have := HJ.out; rw [tw_end hlt] at this; omega
      subst e
      go_wp2_with fail
      go_ret
      exact ⟨⟨j, hkj, hj, HD.out, rfl⟩, rfl⟩
theorem tok_none {s : ByteArray} {k : Nat} (h : twN tokenN (s.data.toList.drop k) = 0) : tokO (s.data.toList.drop k) = none := by
  unfold tokO
  have : tokL (s.data.toList.drop k) = [] := List.eq_nil_of_length_eq_zero h
  rw [this]; rfl
theorem tok_some {s : ByteArray} {k : Nat} (h : 0 < twN tokenN (s.data.toList.drop k)) : tokO (s.data.toList.drop k) = some (tokL (s.data.toList.drop k), tokR (s.data.toList.drop k)) := by
  unfold tokO
  rw [if_neg]
  intro he
  have : tokL (s.data.toList.drop k) = [] := by simpa using he
  unfold twN at h
  rw [show (s.data.toList.drop k).takeWhile (fun x => tokenN x.toNat) = [] from this] at h
  cases h
theorem tok_rd {s : ByteArray} {k K : Nat} (hK : k + twN tokenN (s.data.toList.drop k) = K) (hlt : k < K) (hL : K ≤ s.size) : RD s k (tokO (s.data.toList.drop k)) (.returned (.tuple #[.string (s.extract k K), .int .i64 (K : Int), .bool true])) := by
  subst hK
  refine .inr ⟨_, _, _, tok_some (by omega), hlt, hL, tw_dropS _ _ _, ?_⟩
  rw [ext_tw]; rfl
set_option maxHeartbeats 400000 in
theorem rToken_c (s : ByteArray) (k : Nat) (hk : k ≤ s.size) (hs : s.size ≤ 1000000) (w : World) :
    Calls Tryz.prog 49 #[.string s, .int .i64 (k : Int)] w fun e w' => RD s k (tokO (s.data.toList.drop k)) e ∧ w = w' := by
  have HL := Lib.hid (tw_le tokenN s k hk)
  generalize hK : k + twN tokenN (s.data.toList.drop k) = K at *
  go_enter Tryz.func49, Tryz.ntmps49
  go_wp2_with fail
  go_loop [7] (fun i => ∃ j : Nat, k ≤ j ∧ j ≤ s.size ∧ i = .int .i64 (j : Int) ∧ j + twN tokenN (s.data.toList.drop j) = K) (fun i => s.size - (intOf i).toNat)
  case atStart => exact ⟨k, Nat.le_refl _, hk, rfl, hK⟩
  case round =>
    obtain ⟨j, hkj, hj, rfl, hJ⟩ := hrel
    have HJ := Lib.hid hJ
    clear hJ
    have HK := Lib.hid hK
    clear hK
    by_cases hlt : j < s.size
    · have hb := byte_lt s[j]
      by_cases hp : tokenN s[j].toNat = true
      · go_wp2_with (go_at_call 66; refine (rIsToken_c _ (by omega) (by omega) _).mono ?_; rintro e w' ⟨rfl, rfl⟩)
        go_round
        case rel => exact ⟨j + 1, by omega, by omega, by go_num, by have := HJ.out; rw [tw_hit hlt hp] at this; omega⟩
        case measure => simp [intOf]; omega
      · have hp' : tokenN s[j].toNat = false := by simpa using hp
        have e : j = K := by have := HJ.out; rw [tw_miss hlt hp'] at this; omega
        subst e
        clear hp
        by_cases hjk : j ≤ k
        · have HX := Lib.hid (tok_none (s := s) (k := k) (by have := HK.out; omega))
          go_wp2_with (go_at_call 66; refine (rIsToken_c _ (by omega) (by omega) _).mono ?_; rintro e w' ⟨rfl, rfl⟩)
          go_ret3
          exact ⟨.inl ⟨HX.out, rfl⟩, rfl⟩
        · go_wp2_with (go_at_call 66; refine (rIsToken_c _ (by omega) (by omega) _).mono ?_; rintro e w' ⟨rfl, rfl⟩)
          go_ret3
          exact ⟨tok_rd HK.out (by omega) hj, rfl⟩
    · have e : j = K := by have := HJ.out; rw [tw_end hlt] at this; omega
      subst e
      by_cases hjk : j ≤ k
      · have HX := Lib.hid (tok_none (s := s) (k := k) (by have := HK.out; omega))
        go_wp2_with fail
        go_ret3
        exact ⟨.inl ⟨HX.out, rfl⟩, rfl⟩
      · go_wp2_with fail
        go_ret3
        exact ⟨tok_rd HK.out (by omega) hj, rfl⟩
end Go.Proofs.YtaopehogpdgkgaaGreat
