/- Contracts of the reference's parse (chapter 4). -/
import Derived.Test.YtegejmbkpdlekaaNum
namespace Go.Proofs.Ytegejmbkpdlekaa
open Go.RowKit

theorem hex_lo {n : Nat} (h : hexN n = true) : 48 ≤ n ∧ (n ≤ 57 → hexV n = n - 48) := by
  simp only [hexN, digitN, Bool.or_eq_true, Bool.and_eq_true, decide_eq_true_eq] at h
  constructor
  · omega
  · intro h'; unfold hexV; rw [if_pos h']
theorem hex_hi : ∀ n : Fin 256, hexN n.val = true → ¬ n.val ≤ 57 → (hexV n.val : Int) = bits .or .u8 (n.val : Int) 32 - 97 + 10 ∧ 97 ≤ bits .or .u8 (n.val : Int) 32 ∧ bits .or .u8 (n.val : Int) 32 ≤ 102 := by decide +kernel
theorem hex_hi' {b : UInt8} (h : hexN b.toNat = true) (h' : ¬ b.toNat ≤ 57) : ∃ m : Int, bits .or .u8 (b.toNat : Int) 32 = m ∧ 97 ≤ m ∧ m ≤ 102 ∧ (hexV b.toNat : Int) = m - 97 + 10 := by
  obtain ⟨h1, h2, h3⟩ := hex_hi ⟨b.toNat, b.toNat_lt⟩ h h'
  exact ⟨_, rfl, h2, h3, h1⟩

set_option maxHeartbeats 1000000 in
theorem rparse10_c (s : ByteArray) (hs : s.size ≤ 1000000) (most : Nat) (hm : U most) (w : World) :
    Calls Try.prog 96 #[.string s, .int .u64 10, .int .u64 most] w
      fun e w' => e = .returned (.tuple #[.int .u64 (parseL digitN 10 most s.data.toList).1, .int .i64 (parseL digitN 10 most s.data.toList).2]) ∧ w = w' := by
  unfold U at hm
  have HM := Lib.hid hm
  clear hm
  by_cases he : s.toList = []
  · have HP := Lib.hid (parse_empty (p := digitN) (base := 10) (most := most) he)
    rw [HP.out]
    go_enter Try.func96, Try.ntmps96
    go_wp2_with fail
    go_ret2
    exact ⟨rfl, rfl⟩
  · have he' : s.toList.isEmpty = false := by simpa using he
    have HE := Lib.hid he
    go_enter Try.func96, Try.ntmps96
    go_wp2_with fail
    go_loop [8] (fun i => ∃ k : Nat, k ≤ s.size ∧ i = .int .i64 k ∧ allB digitN (s.data.toList.drop k) = allB digitN s.data.toList) (fun i => s.size - (intOf i).toNat)
    case atStart => exact ⟨0, Nat.zero_le _, rfl, rfl⟩
    case round =>
      obtain ⟨k, hk, rfl, hn⟩ := hrel
      have HN := Lib.hid hn
      clear hn
      by_cases hlt : k < s.size
      · have hb := byte_lt s[k]
        by_cases hd : digitN s[k].toNat = true
        · go_wp2_with (go_at_call 93; refine (rIsDigit_c _ (by omega) (by omega) _).mono ?_; rintro e w' ⟨rfl, rfl⟩)
          go_round
          case rel => exact ⟨k + 1, by omega, by go_num, all_hit hlt HN.out hd⟩
          case measure => simp [intOf]; omega
        · have hd' : digitN s[k].toNat = false := by simpa using hd
          clear hd
          have HP := Lib.hid (parse_char (base := 10) (most := most) HE.out (all_miss hlt HN.out hd').symm)
          go_wp2_with (go_at_call 93; refine (rIsDigit_c _ (by omega) (by omega) _).mono ?_; rintro e w' ⟨rfl, rfl⟩)
          go_ret2
          rw [HP.out]
          exact ⟨rfl, rfl⟩
      · have HA := Lib.hid (all_end hlt HN.out).symm
        clear HN
        go_wp2_with fail
        go_loop [9, 10] (fun u i => ∃ k n : Nat, k ≤ s.size ∧ i = .int .i64 k ∧ u = .int .u64 n ∧ n ≤ most ∧ foldV 10 most n (s.data.toList.drop k) = foldV 10 most 0 s.data.toList) (fun _ i => s.size - (intOf i).toNat)
        case atStart => exact ⟨0, 0, Nat.zero_le _, rfl, rfl, Nat.zero_le _, rfl⟩
        case round =>
          obtain ⟨k, n, hk, rfl, rfl, hnm, hn⟩ := hrel
          have HN := Lib.hid hn
          clear hn
          have hm := HM.out
          by_cases hlt : k < s.size
          · have hb := byte_lt s[k]
            have hx : hexN s[k].toNat = true := digit_hex (all_at HA.out hlt)
            by_cases h57 : s[k].toNat ≤ 57
            · obtain ⟨hlo, hvv⟩ := hex_lo hx
              have HVV := Lib.hid (hvv h57)
              clear hvv hx
              have i57 : (s[k].toNat : Int) ≤ 57 := by omega
              have i48 : 48 ≤ (s[k].toNat : Int) := by omega
              by_cases hov : (most : Int) < (n : Int) * 10 + ((s[k].toNat : Int) - 48)
              · have HP := Lib.hid (parse_none HE.out HA.out (fold_over hlt (by rw [Nat.lt_iff_add_one_le]; have := HVV.out; omega) HN.out))
                clear HN
                by_cases hA : (most : Int) / 10 < n
                · have hA' := hA
                  go_wp2_with fail
                  all_goals
                    go_ret2
                    rw [HP.out]
                    exact ⟨rfl, rfl⟩
                · by_cases hB : (most : Int) < (s[k].toNat : Int) - 48
                  · have HT := hB
                    go_wp2_with fail
                    all_goals
                      go_ret2
                      rw [HP.out]
                      exact ⟨rfl, rfl⟩
                  · have HT := hB
                    go_wp2_with fail
                    all_goals
                      go_ret2
                      rw [HP.out]
                      exact ⟨rfl, rfl⟩
              · have HF := Lib.hid (fold_step hlt (by have := HVV.out; omega) HN.out)
                have HLE := Lib.hid (show n * 10 + hexV s[k].toNat ≤ most from by have := HVV.out; omega)
                have hq : (n : Int) ≤ (most : Int) / 10 := by omega
                have hd2 : ((s[k].toNat : Int) - 48) ≤ (most : Int) := by omega
                have hq2 : (n : Int) * 10 ≤ (most : Int) - ((s[k].toNat : Int) - 48) := by omega
                have HV2 := Lib.hid (show (n : Int) * 10 + ((s[k].toNat : Int) - 48) = ((n * 10 + hexV s[k].toNat : Nat) : Int) from by have := HVV.out; omega)
                go_wp2_with fail
                go_round
                case rel => exact ⟨k + 1, _, by omega, by go_num, congrArg _ HV2.out, HLE.out, HF.out⟩
                case measure => simp [intOf]; omega
            · obtain ⟨m, hor, hm1, hm2, hvv⟩ := hex_hi' hx h57
              have HVV := Lib.hid hvv
              clear hvv hx
              have i57 : 57 < (s[k].toNat : Int) := by omega
              by_cases hov : (most : Int) < (n : Int) * 10 + (m - 97 + 10)
              · have HP := Lib.hid (parse_none HE.out HA.out (fold_over hlt (by rw [Nat.lt_iff_add_one_le]; have := HVV.out; omega) HN.out))
                clear HN
                by_cases hA : (most : Int) / 10 < n
                · have hA' := hA
                  go_wp2_with fail
                  all_goals
                    go_ret2
                    rw [HP.out]
                    exact ⟨rfl, rfl⟩
                · by_cases hB : (most : Int) < m - 97 + 10
                  · have HT := hB
                    go_wp2_with fail
                    all_goals
                      go_ret2
                      rw [HP.out]
                      exact ⟨rfl, rfl⟩
                  · have HT := hB
                    go_wp2_with fail
                    all_goals
                      go_ret2
                      rw [HP.out]
                      exact ⟨rfl, rfl⟩
              · have HF := Lib.hid (fold_step hlt (by have := HVV.out; omega) HN.out)
                have HLE := Lib.hid (show n * 10 + hexV s[k].toNat ≤ most from by have := HVV.out; omega)
                have hq : (n : Int) ≤ (most : Int) / 10 := by omega
                have hd2 : (m - 97 + 10) ≤ (most : Int) := by omega
                have hq2 : (n : Int) * 10 ≤ (most : Int) - (m - 97 + 10) := by omega
                have HV2 := Lib.hid (show (n : Int) * 10 + (m - 97 + 10) = ((n * 10 + hexV s[k].toNat : Nat) : Int) from by have := HVV.out; omega)
                go_wp2_with fail
                go_round
                case rel => exact ⟨k + 1, _, by omega, by go_num, congrArg _ HV2.out, HLE.out, HF.out⟩
                case measure => simp [intOf]; omega
          · have HP := Lib.hid (parse_some HE.out HA.out (fold_end hlt HN.out))
            go_wp2_with fail
            go_ret2
            rw [HP.out]
            exact ⟨rfl, rfl⟩

set_option maxHeartbeats 1000000 in
theorem rparse16_c (s : ByteArray) (hs : s.size ≤ 1000000) (most : Nat) (hm : U most) (w : World) :
    Calls Try.prog 96 #[.string s, .int .u64 16, .int .u64 most] w
      fun e w' => e = .returned (.tuple #[.int .u64 (parseL hexN 16 most s.data.toList).1, .int .i64 (parseL hexN 16 most s.data.toList).2]) ∧ w = w' := by
  unfold U at hm
  have HM := Lib.hid hm
  clear hm
  by_cases he : s.toList = []
  · have HP := Lib.hid (parse_empty (p := hexN) (base := 16) (most := most) he)
    rw [HP.out]
    go_enter Try.func96, Try.ntmps96
    go_wp2_with fail
    go_ret2
    exact ⟨rfl, rfl⟩
  · have he' : s.toList.isEmpty = false := by simpa using he
    have HE := Lib.hid he
    go_enter Try.func96, Try.ntmps96
    go_wp2_with fail
    go_loop [8] (fun i => ∃ k : Nat, k ≤ s.size ∧ i = .int .i64 k ∧ allB hexN (s.data.toList.drop k) = allB hexN s.data.toList) (fun i => s.size - (intOf i).toNat)
    case atStart => exact ⟨0, Nat.zero_le _, rfl, rfl⟩
    case round =>
      obtain ⟨k, hk, rfl, hn⟩ := hrel
      have HN := Lib.hid hn
      clear hn
      by_cases hlt : k < s.size
      · have hb := byte_lt s[k]
        by_cases hd : hexN s[k].toNat = true
        · go_wp2_with (go_at_call 108; refine (rIsHex_c _ (by omega) (by omega) _).mono ?_; rintro e w' ⟨rfl, rfl⟩)
          go_round
          case rel => exact ⟨k + 1, by omega, by go_num, all_hit hlt HN.out hd⟩
          case measure => simp [intOf]; omega
        · have hd' : hexN s[k].toNat = false := by simpa using hd
          clear hd
          have HP := Lib.hid (parse_char (base := 16) (most := most) HE.out (all_miss hlt HN.out hd').symm)
          go_wp2_with (go_at_call 108; refine (rIsHex_c _ (by omega) (by omega) _).mono ?_; rintro e w' ⟨rfl, rfl⟩)
          go_ret2
          rw [HP.out]
          exact ⟨rfl, rfl⟩
      · have HA := Lib.hid (all_end hlt HN.out).symm
        clear HN
        go_wp2_with fail
        go_loop [9, 10] (fun u i => ∃ k n : Nat, k ≤ s.size ∧ i = .int .i64 k ∧ u = .int .u64 n ∧ n ≤ most ∧ foldV 16 most n (s.data.toList.drop k) = foldV 16 most 0 s.data.toList) (fun _ i => s.size - (intOf i).toNat)
        case atStart => exact ⟨0, 0, Nat.zero_le _, rfl, rfl, Nat.zero_le _, rfl⟩
        case round =>
          obtain ⟨k, n, hk, rfl, rfl, hnm, hn⟩ := hrel
          have HN := Lib.hid hn
          clear hn
          have hm := HM.out
          by_cases hlt : k < s.size
          · have hb := byte_lt s[k]
            have hx : hexN s[k].toNat = true := all_at HA.out hlt
            by_cases h57 : s[k].toNat ≤ 57
            · obtain ⟨hlo, hvv⟩ := hex_lo hx
              have HVV := Lib.hid (hvv h57)
              clear hvv hx
              have i57 : (s[k].toNat : Int) ≤ 57 := by omega
              have i48 : 48 ≤ (s[k].toNat : Int) := by omega
              by_cases hov : (most : Int) < (n : Int) * 16 + ((s[k].toNat : Int) - 48)
              · have HP := Lib.hid (parse_none HE.out HA.out (fold_over hlt (by rw [Nat.lt_iff_add_one_le]; have := HVV.out; omega) HN.out))
                clear HN
                by_cases hA : (most : Int) / 16 < n
                · have hA' := hA
                  go_wp2_with fail
                  all_goals
                    go_ret2
                    rw [HP.out]
                    exact ⟨rfl, rfl⟩
                · by_cases hB : (most : Int) < (s[k].toNat : Int) - 48
                  · have HT := hB
                    go_wp2_with fail
                    all_goals
                      go_ret2
                      rw [HP.out]
                      exact ⟨rfl, rfl⟩
                  · have HT := hB
                    go_wp2_with fail
                    all_goals
                      go_ret2
                      rw [HP.out]
                      exact ⟨rfl, rfl⟩
              · have HF := Lib.hid (fold_step hlt (by have := HVV.out; omega) HN.out)
                have HLE := Lib.hid (show n * 16 + hexV s[k].toNat ≤ most from by have := HVV.out; omega)
                have hq : (n : Int) ≤ (most : Int) / 16 := by omega
                have hd2 : ((s[k].toNat : Int) - 48) ≤ (most : Int) := by omega
                have hq2 : (n : Int) * 16 ≤ (most : Int) - ((s[k].toNat : Int) - 48) := by omega
                have HV2 := Lib.hid (show (n : Int) * 16 + ((s[k].toNat : Int) - 48) = ((n * 16 + hexV s[k].toNat : Nat) : Int) from by have := HVV.out; omega)
                go_wp2_with fail
                go_round
                case rel => exact ⟨k + 1, _, by omega, by go_num, congrArg _ HV2.out, HLE.out, HF.out⟩
                case measure => simp [intOf]; omega
            · obtain ⟨m, hor, hm1, hm2, hvv⟩ := hex_hi' hx h57
              have HVV := Lib.hid hvv
              clear hvv hx
              have i57 : 57 < (s[k].toNat : Int) := by omega
              by_cases hov : (most : Int) < (n : Int) * 16 + (m - 97 + 10)
              · have HP := Lib.hid (parse_none HE.out HA.out (fold_over hlt (by rw [Nat.lt_iff_add_one_le]; have := HVV.out; omega) HN.out))
                clear HN
                by_cases hA : (most : Int) / 16 < n
                · have hA' := hA
                  go_wp2_with fail
                  all_goals
                    go_ret2
                    rw [HP.out]
                    exact ⟨rfl, rfl⟩
                · by_cases hB : (most : Int) < m - 97 + 10
                  · have HT := hB
                    go_wp2_with fail
                    all_goals
                      go_ret2
                      rw [HP.out]
                      exact ⟨rfl, rfl⟩
                  · have HT := hB
                    go_wp2_with fail
                    all_goals
                      go_ret2
                      rw [HP.out]
                      exact ⟨rfl, rfl⟩
              · have HF := Lib.hid (fold_step hlt (by have := HVV.out; omega) HN.out)
                have HLE := Lib.hid (show n * 16 + hexV s[k].toNat ≤ most from by have := HVV.out; omega)
                have hq : (n : Int) ≤ (most : Int) / 16 := by omega
                have hd2 : (m - 97 + 10) ≤ (most : Int) := by omega
                have hq2 : (n : Int) * 16 ≤ (most : Int) - (m - 97 + 10) := by omega
                have HV2 := Lib.hid (show (n : Int) * 16 + (m - 97 + 10) = ((n * 16 + hexV s[k].toNat : Nat) : Int) from by have := HVV.out; omega)
                go_wp2_with fail
                go_round
                case rel => exact ⟨k + 1, _, by omega, by go_num, congrArg _ HV2.out, HLE.out, HF.out⟩
                case measure => simp [intOf]; omega
          · have HP := Lib.hid (parse_some HE.out HA.out (fold_end hlt HN.out))
            go_wp2_with fail
            go_ret2
            rw [HP.out]
            exact ⟨rfl, rfl⟩

/-! ### the functions above them -/

set_option maxHeartbeats 400000 in
theorem nParse_c (s : ByteArray) (hs : s.size ≤ 1000000) (most : Nat) (hm : U most) (w : World) :
    Calls Try.prog 75 #[.string s, .int .u64 most] w
      fun e w' => e = .returned (.tuple #[.int .u64 (parseL digitN 10 most s.data.toList).1, .int .i64 (parseL digitN 10 most s.data.toList).2]) ∧ w = w' := by
  have HM := Lib.hid hm
  clear hm
  go_enter Try.func75, Try.ntmps75
  go_wp2_with fail
  refine (parse10_c s hs most HM.out _).mono ?_
  rintro e w' ⟨rfl, rfl⟩
  go_wp2_with fail
  go_ret2
  exact ⟨rfl, rfl⟩

set_option maxHeartbeats 400000 in
theorem rnParse_c (s : ByteArray) (hs : s.size ≤ 1000000) (most : Nat) (hm : U most) (w : World) :
    Calls Try.prog 76 #[.string s, .int .u64 most] w
      fun e w' => e = .returned (.tuple #[.int .u64 (parseL digitN 10 most s.data.toList).1, .int .i64 (parseL digitN 10 most s.data.toList).2]) ∧ w = w' := by
  have HM := Lib.hid hm
  clear hm
  go_enter Try.func76, Try.ntmps76
  go_wp2_with fail
  refine (rparse10_c s hs most HM.out _).mono ?_
  rintro e w' ⟨rfl, rfl⟩
  go_wp2_with fail
  go_ret2
  exact ⟨rfl, rfl⟩

end Go.Proofs.Ytegejmbkpdlekaa
