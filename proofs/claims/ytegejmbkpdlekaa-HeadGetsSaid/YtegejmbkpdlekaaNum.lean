/- Contracts of chapter 4 (numbers). -/
import Derived.Test.YtegejmbkpdlekaaStrs
import Derived.Test.YtegejmbkpdlekaaNumPlain
namespace Go.Proofs.Ytegejmbkpdlekaa
open Go.RowKit

theorem ret_v {a b : Value} (h : b = a) : Ending.returned a = .returned b := by rw [h]
def U (a : Int) : Prop := 0 ≤ a ∧ a ≤ 18446744073709551615
theorem wadd_lt {a b : Int} (ha : U a) (hb : U b) (h : IntKind.u64.wrap (a + b) < a) : 18446744073709551615 = satA a b := by
  unfold U at ha hb; rw [IntKind.wrap_u64] at h; unfold satA; split <;> omega
theorem wadd_ge {a b : Int} (ha : U a) (hb : U b) (h : a ≤ IntKind.u64.wrap (a + b)) : IntKind.u64.wrap (a + b) = satA a b := by
  unfold U at ha hb; rw [IntKind.wrap_u64] at h ⊢; unfold satA; split <;> omega
theorem radd_lt {a b : Int} (ha : U a) (hb : U b) (h : IntKind.u64.wrap (18446744073709551615 - b) < a) : 18446744073709551615 = satA a b := by
  unfold U at ha hb; rw [IntKind.wrap_u64] at h; unfold satA; split <;> omega
theorem radd_ge {a b : Int} (ha : U a) (hb : U b) (h : a ≤ IntKind.u64.wrap (18446744073709551615 - b)) : IntKind.u64.wrap (a + b) = satA a b := by
  unfold U at ha hb; rw [IntKind.wrap_u64] at h ⊢; unfold satA; split <;> omega
theorem wsub_gt {a b : Int} (ha : U a) (hb : U b) (h : a < IntKind.u64.wrap (a - b)) : 0 = satS a b := by
  unfold U at ha hb; rw [IntKind.wrap_u64] at h; unfold satS; split <;> omega
theorem wsub_le {a b : Int} (ha : U a) (hb : U b) (h : IntKind.u64.wrap (a - b) ≤ a) : IntKind.u64.wrap (a - b) = satS a b := by
  unfold U at ha hb; rw [IntKind.wrap_u64] at h ⊢; unfold satS; split <;> omega
theorem rsub_lt {a b : Int} (h : a < b) : 0 = satS a b := by unfold satS; rw [if_pos h]
theorem rsub_ge {a b : Int} (ha : U a) (hb : U b) (h : b ≤ a) : IntKind.u64.wrap (a - b) = satS a b := by
  unfold U at ha hb; rw [IntKind.wrap_u64]; unfold satS; split <;> omega
theorem satA_U {a b : Int} (ha : U a) (hb : U b) : U (satA a b) := by unfold U at *; unfold satA; split <;> omega
theorem satS_U {a b : Int} (ha : U a) (hb : U b) : U (satS a b) := by unfold U at *; unfold satS; split <;> omega

set_option maxHeartbeats 400000 in
theorem sub_c (a b : Int) (ha : U a) (hb : U b) (w : World) :
    Calls Try.prog 45 #[.int .u64 a, .int .u64 b] w fun e w' => e = .returned (.int .u64 (satS a b)) ∧ w = w' := by
  have HA := Lib.hid ha
  have HB := Lib.hid hb
  clear ha hb
  go_enter Try.func45, Try.ntmps45
  go_wp2
  · go_ret
    exact ⟨ret_i (wsub_gt HA.out HB.out ‹_›), rfl⟩
  · go_ret
    exact ⟨ret_i (wsub_le HA.out HB.out ‹_›), rfl⟩

set_option maxHeartbeats 400000 in
theorem rSub_c (a b : Int) (ha : U a) (hb : U b) (w : World) :
    Calls Try.prog 47 #[.int .u64 a, .int .u64 b] w fun e w' => e = .returned (.int .u64 (satS a b)) ∧ w = w' := by
  have HA := Lib.hid ha
  have HB := Lib.hid hb
  clear ha hb
  go_enter Try.func47, Try.ntmps47
  go_wp2
  · go_ret
    exact ⟨ret_i (rsub_lt ‹_›), rfl⟩
  · go_ret
    exact ⟨ret_i (rsub_ge HA.out HB.out ‹_›), rfl⟩

theorem val_dig : ∀ n : Fin 256, digitN ((n.val : Int)).toNat = true → ((n.val : Int) - 48) % 256 = (hexV ((n.val : Int)).toNat : Int) := by decide +kernel
theorem val_hex : ∀ n : Fin 256, hexN ((n.val : Int)).toNat = true → digitN ((n.val : Int)).toNat = false → (bits .or .u8 (n.val : Int) 32 - 97) % 256 + 10 = (hexV ((n.val : Int)).toNat : Int) := by decide +kernel
set_option maxHeartbeats 400000 in
theorem value_c (c : Int) (h0 : 0 ≤ c) (h1 : c ≤ 255) (hh : hexN c.toNat = true) (w : World) :
    Calls Try.prog 107 #[.int .u8 c] w fun e w' => e = .returned (.int .u64 (hexV c.toNat)) ∧ w = w' := by
  obtain ⟨n, rfl⟩ := byte_cases h0 h1
  have HH := Lib.hid hh
  clear hh
  go_enter Try.func107, Try.ntmps107
  go_wp2_with (go_at_call 95; refine (isDigit_c _ (by omega) (by omega) _).mono ?_; rintro e w' ⟨rfl, rfl⟩)
  · go_ret
    exact ⟨ret_i (val_dig n ‹_›), rfl⟩
  · go_ret
    exact ⟨ret_i (val_hex n HH.out ‹_›), rfl⟩

set_option maxHeartbeats 1000000 in
theorem parse10_c (s : ByteArray) (hs : s.size ≤ 1000000) (most : Nat) (hm : U most) (w : World) :
    Calls Try.prog 94 #[.string s, .int .u64 10, .int .u64 most, .func (.func 95) #[] #[]] w
      fun e w' => e = .returned (.tuple #[.int .u64 (parseL digitN 10 most s.data.toList).1, .int .i64 (parseL digitN 10 most s.data.toList).2]) ∧ w = w' := by
  unfold U at hm
  have HM := Lib.hid hm
  clear hm
  by_cases he : s.toList = []
  · have HP := Lib.hid (parse_empty (p := digitN) (base := 10) (most := most) he)
    rw [HP.out]
    go_enter Try.func94, Try.ntmps94
    go_wp2_with fail
    go_ret2
    exact ⟨rfl, rfl⟩
  · have he' : s.toList.isEmpty = false := by simpa using he
    have HE := Lib.hid he
    go_enter Try.func94, Try.ntmps94
    go_wp2_with fail
    go_loop [18] (fun i => ∃ k : Nat, k ≤ s.size ∧ i = .int .i64 k ∧ allB digitN (s.data.toList.drop k) = allB digitN s.data.toList) (fun i => s.size - (intOf i).toNat)
    case atStart => exact ⟨0, Nat.zero_le _, rfl, rfl⟩
    case round =>
      obtain ⟨k, hk, rfl, hn⟩ := hrel
      have HN := Lib.hid hn
      clear hn
      by_cases hlt : k < s.size
      · have hb := byte_lt s[k]
        by_cases hd : digitN s[k].toNat = true
        · go_wp2_with (go_at_call 95; refine (isDigit_c _ (by omega) (by omega) _).mono ?_; rintro e w' ⟨rfl, rfl⟩)
          go_round
          case rel => exact ⟨k + 1, by omega, by go_num, all_hit hlt HN.out hd⟩
          case measure => simp [intOf]; omega
        · have hd' : digitN s[k].toNat = false := by simpa using hd
          clear hd
          have HP := Lib.hid (parse_char (base := 10) (most := most) HE.out (all_miss hlt HN.out hd').symm)
          go_wp2_with (go_at_call 95; refine (isDigit_c _ (by omega) (by omega) _).mono ?_; rintro e w' ⟨rfl, rfl⟩)
          go_ret2
          rw [HP.out]
          exact ⟨rfl, rfl⟩
      · have HA := Lib.hid (all_end hlt HN.out).symm
        clear HN
        go_wp2_with fail
        go_loop [11, 30] (fun u i => ∃ k n : Nat, k ≤ s.size ∧ i = .int .i64 k ∧ u = .int .u64 n ∧ n ≤ most ∧ foldV 10 most n (s.data.toList.drop k) = foldV 10 most 0 s.data.toList) (fun _ i => s.size - (intOf i).toNat)
        case atStart => exact ⟨0, 0, Nat.zero_le _, rfl, rfl, Nat.zero_le _, rfl⟩
        case round =>
          obtain ⟨k, n, hk, rfl, rfl, hnm, hn⟩ := hrel
          have HN := Lib.hid hn
          clear hn
          have hm := HM.out
          by_cases hlt : k < s.size
          · have hb := byte_lt s[k]
            have hx : hexN s[k].toNat = true := digit_hex (all_at HA.out hlt)
            have hx15 := hexV_le hx
            have HX := Lib.hid hx
            clear hx
            by_cases hov : most < n * 10 + hexV s[k].toNat
            · have HP := Lib.hid (parse_none HE.out HA.out (fold_over hlt hov HN.out))
              by_cases hA : (18446744073709551615 - (hexV s[k].toNat : Int)) / 10 < n
              · go_wp2_with (go_at_call 107; refine (value_c _ (by omega) (by omega) (by simpa using HX.out) _).mono ?_; rintro e w' ⟨rfl, rfl⟩)
                go_ret2
                rw [HP.out]
                exact ⟨rfl, rfl⟩
              · go_wp2_with (go_at_call 107; refine (value_c _ (by omega) (by omega) (by simpa using HX.out) _).mono ?_; rintro e w' ⟨rfl, rfl⟩)
                go_ret2
                rw [HP.out]
                exact ⟨rfl, rfl⟩
            · have HF := Lib.hid (fold_step hlt hov HN.out)
              have hq : (n : Int) ≤ (18446744073709551615 - (hexV s[k].toNat : Int)) / 10 := by omega
              go_wp2_with (go_at_call 107; refine (value_c _ (by omega) (by omega) (by simpa using HX.out) _).mono ?_; rintro e w' ⟨rfl, rfl⟩)
              go_round
              case rel => exact ⟨k + 1, _, by omega, by go_num, by go_num, by omega, HF.out⟩
              case measure => simp [intOf]; omega
          · have HP := Lib.hid (parse_some HE.out HA.out (fold_end hlt HN.out))
            go_wp2_with fail
            go_ret2
            rw [HP.out]
            exact ⟨rfl, rfl⟩

end Go.Proofs.Ytegejmbkpdlekaa
