/- Contracts of the functions of chapter 1 on strings (program and reference). -/
import Derived.Test.YtegejmbkpdlekaaRows
import Derived.WalkKit
import Derived.WalkSpells
import Derived.WalkLawsBesides
import Derived.Test.YtegejmbkpdlekaaMem
import Derived.Test.YtegejmbkpdlekaaBytes
namespace Go.Proofs.Ytegejmbkpdlekaa
open Go.RowKit

theorem ret_s {a b : ByteArray} (h : a = b) : Ending.returned (.string a) = .returned (.string b) := by rw [h]

set_option maxHeartbeats 400000 in
theorem lower_c (s : ByteArray) (hs : s.size ≤ 9223372036854775807) (w : World) :
    Calls Try.prog 37 #[.string s] w fun e w' => e = .returned (.string (S (lowerL s.data.toList))) ∧ Below w.heap.size w w' := by
  have hcv := fun w => Lib.run_convert_string_bytes (P := Try.prog) w 9 69 5 s Try.underlying9 Try.underlying69 Try.underlying5
  go_enter Try.func37, Try.ntmps37
  go_wp2
  clear hcv
  have hB0 := BytesAt.new w 5 s
  have hW0 := below_bytes w 5 s
  have hl : s.data.toList.length = s.size := rfl
  have Hl := Lib.hid hl
  clear hl
  generalize Lib.bytesWorld w 5 s = w0 at *
  go_loopw [10] (fun i wr => ∃ k : Nat, k ≤ s.size ∧ i = .int .i64 k ∧ BytesAt wr w.heap.size 5 (lowK s.data.toList k) ∧ Below w.heap.size w wr) (fun i _ => s.size - (intOf i).toNat)
  case atStart => exact ⟨0, Nat.zero_le _, rfl, by rw [lowK_zero]; exact hB0, hW0⟩
  case round =>
    clear hB0 hW0
    obtain ⟨k, hk, rfl, hB, hW⟩ := hrel
    by_cases hlt : k < s.size
    · have hkl : k < (lowK s.data.toList k).length := by rw [lowK_len]; exact hlt
      have hc := hB.cell hkl
      have hf := hB.frozen hkl
      rw [lowK_at _ _ hlt] at hc
      have hset := hB.set hkl (lowerB (s.data.toList[k]'hlt))
      rw [← lowK_succ _ _ hlt] at hset
      go_wp2
      · go_roundw
        case rel =>
          rw [lowerB_up ‹_› ‹_›] at hset
          exact ⟨k + 1, by omega, by go_num, hset, hW.setCell (Nat.le_refl _) _⟩
        case measure => simp [intOf]; omega
      · go_roundw
        case rel =>
          have e : lowK s.data.toList (k + 1) = lowK s.data.toList k := by
            rw [lowK_succ _ _ hlt, lowerB_not (by simp; omega), ← lowK_at _ _ hlt]; exact List.set_getElem_self _
          exact ⟨k + 1, by omega, by go_num, e ▸ hB, hW⟩
        case measure => simp [intOf]; omega
      · go_roundw
        case rel =>
          have e : lowK s.data.toList (k + 1) = lowK s.data.toList k := by
            rw [lowK_succ _ _ hlt, lowerB_not (by simp; omega), ← lowK_at _ _ hlt]; exact List.set_getElem_self _
          exact ⟨k + 1, by omega, by go_num, e ▸ hB, hW⟩
        case measure => simp [intOf]; omega
    · have hcv := fun cap => (lowK_all s.data.toList k (Nat.le_of_not_lt hlt) ▸ hB).back (P := Try.prog) 69 9 cap s.size (by rw [lowerL_len]; exact Hl.out.symm) Try.underlying69 Try.underlying5 Try.underlying9
      go_wp2
      go_ret
      exact ⟨rfl, hW⟩

set_option maxHeartbeats 400000 in
theorem rLower_c (s : ByteArray) (hs : s.size ≤ 9223372036854775807) (w : World) :
    Calls Try.prog 41 #[.string s] w fun e w' => e = .returned (.string (S (lowerL s.data.toList))) ∧ Below w.heap.size w w' := by
  have hcv := fun w => Lib.run_convert_string_bytes (P := Try.prog) w 9 69 5 s Try.underlying9 Try.underlying69 Try.underlying5
  go_enter Try.func41, Try.ntmps41
  go_wp2
  clear hcv
  have hB0 := BytesAt.new w 5 s
  have hW0 := below_bytes w 5 s
  have hl : s.data.toList.length = s.size := rfl
  have Hl := Lib.hid hl
  clear hl
  generalize Lib.bytesWorld w 5 s = w0 at *
  go_loopw [9] (fun i wr => ∃ k : Nat, k ≤ s.size ∧ i = .int .i64 k ∧ BytesAt wr w.heap.size 5 (lowK s.data.toList k) ∧ Below w.heap.size w wr) (fun i _ => s.size - (intOf i).toNat)
  case atStart => exact ⟨0, Nat.zero_le _, rfl, by rw [lowK_zero]; exact hB0, hW0⟩
  case round =>
    clear hB0 hW0
    obtain ⟨k, hk, rfl, hB, hW⟩ := hrel
    by_cases hlt : k < s.size
    · have hkl : k < (lowK s.data.toList k).length := by rw [lowK_len]; exact hlt
      have hc := hB.cell hkl
      have hf := hB.frozen hkl
      rw [lowK_at _ _ hlt] at hc
      have hset := hB.set hkl (lowerB (s.data.toList[k]'hlt))
      rw [← lowK_succ _ _ hlt] at hset
      go_wp2
      · go_roundw
        case rel =>
          rw [lowerB_up ‹_› ‹_›] at hset
          exact ⟨k + 1, by omega, by go_num, hset, hW.setCell (Nat.le_refl _) _⟩
        case measure => simp [intOf]; omega
      · go_roundw
        case rel =>
          have e : lowK s.data.toList (k + 1) = lowK s.data.toList k := by
            rw [lowK_succ _ _ hlt, lowerB_not (by simp; omega), ← lowK_at _ _ hlt]; exact List.set_getElem_self _
          exact ⟨k + 1, by omega, by go_num, e ▸ hB, hW⟩
        case measure => simp [intOf]; omega
      · go_roundw
        case rel =>
          have e : lowK s.data.toList (k + 1) = lowK s.data.toList k := by
            rw [lowK_succ _ _ hlt, lowerB_not (by simp; omega), ← lowK_at _ _ hlt]; exact List.set_getElem_self _
          exact ⟨k + 1, by omega, by go_num, e ▸ hB, hW⟩
        case measure => simp [intOf]; omega
    · have hcv := fun cap => (lowK_all s.data.toList k (Nat.le_of_not_lt hlt) ▸ hB).back (P := Try.prog) 69 9 cap s.size (by rw [lowerL_len]; exact Hl.out.symm) Try.underlying69 Try.underlying5 Try.underlying9
      go_wp2
      go_ret
      exact ⟨rfl, hW⟩

theorem beq_str (a b : List UInt8) : ((S a).data.toList == (S b).data.toList) = (a == b) := rfl

set_option maxHeartbeats 400000 in
theorem equal_c (a b : ByteArray) (ha : a.size ≤ 9223372036854775807) (hb : b.size ≤ 9223372036854775807) (w : World) :
    Calls Try.prog 62 #[.string a, .string b] w fun e w' => e = .returned (.bool (lowerL a.data.toList == lowerL b.data.toList)) ∧ Below w.heap.size w w' := by
  go_enter Try.func62, Try.ntmps62
  go_wp2_with fail
  refine (lower_c _ ha _).mono ?_
  rintro e w1 ⟨rfl, hb1⟩
  go_wp2_with fail
  refine (lower_c _ hb _).mono ?_
  rintro e w2 ⟨rfl, hb2⟩
  go_wp2_with fail
  go_ret
  exact ⟨ret_b (by rw [S_toList, S_toList]), hb1.trans (hb2.mono hb1.size)⟩

set_option maxHeartbeats 400000 in
theorem rEqual_c (a b : ByteArray) (ha : a.size ≤ 9223372036854775807) (hb : b.size ≤ 9223372036854775807) (w : World) :
    Calls Try.prog 63 #[.string a, .string b] w fun e w' => e = .returned (.bool (lowerL a.data.toList == lowerL b.data.toList)) ∧ Below w.heap.size w w' := by
  go_enter Try.func63, Try.ntmps63
  go_wp2_with fail
  refine (rLower_c _ ha _).mono ?_
  rintro e w1 ⟨rfl, hb1⟩
  go_wp2_with fail
  refine (rLower_c _ hb _).mono ?_
  rintro e w2 ⟨rfl, hb2⟩
  go_wp2_with fail
  go_ret
  exact ⟨ret_b (by rw [S_toList, S_toList]), hb1.trans (hb2.mono hb1.size)⟩

set_option maxHeartbeats 400000 in
theorem trim_c (s : ByteArray) (hs : s.size ≤ 1000000) (w : World) :
    Calls Try.prog 54 #[.string s] w fun e w' => e = .returned (.string (S (trimL s.data.toList))) ∧ w = w' := by
  go_enter Try.func54, Try.ntmps54
  go_wp2
  go_loop [0] (fun v => ∃ t : ByteArray, v = .string t ∧ t.size ≤ s.size ∧ trimF t.data.toList = trimF s.data.toList) (fun v => strLen v)
  case atStart => exact ⟨s, rfl, Nat.le_refl _, rfl⟩
  case round =>
    obtain ⟨t, rfl, ht, hr⟩ := hrel
    have HR := Lib.hid hr
    clear hr
    have HF : Hid (trimF t.data.toList = t.data.toList → trimF t.data.toList.reverse = trimF (trimF s.data.toList).reverse) := fun h => by rw [← HR.out, h]
    by_cases h0 : 0 < t.size
    · have hb := byte_lt t[0]
      by_cases hbl : blankN t[0].toNat = true
      · go_wp2_with (go_at_call 81; refine (blank_c _ (by omega) (by omega) _).mono ?_; rintro e w' ⟨rfl, rfl⟩)
        go_round
        case rel => exact ⟨_, rfl, by rw [ByteArray.size_extract]; omega, by rw [drop1_list, trimF_blank h0 hbl]; exact HR.out⟩
        case measure => simp [strLen]; omega
      · have hbl' : blankN t[0].toNat = false := by simpa using hbl
        clear hbl
        go_wp2_with (go_at_call 81; refine (blank_c _ (by omega) (by omega) _).mono ?_; rintro e w' ⟨rfl, rfl⟩)
        have H2 := HF.out (trimF_stop h0 hbl')
        go_loop [0] (fun v => ∃ u : ByteArray, v = .string u ∧ u.size ≤ t.size ∧ trimF u.data.toList.reverse = trimF (trimF s.data.toList).reverse) (fun v => strLen v)
        case atStart => exact ⟨t, rfl, Nat.le_refl _, H2⟩
        case round =>
          clear H2 HF
          obtain ⟨u, rfl, hu, hr2⟩ := hrel
          have HR2 := Lib.hid hr2
          clear hr2
          by_cases h1 : 0 < u.size
          · have hb := byte_lt u[u.size - 1]
            by_cases hbl2 : blankN u[u.size - 1].toNat = true
            · go_wp2_with (go_at_call 81; refine (blank_c _ (by omega) (by omega) _).mono ?_; rintro e w' ⟨rfl, rfl⟩)
              go_round
              case rel => exact ⟨_, rfl, by rw [ByteArray.size_extract]; omega, by rw [take1_list, trimR_blank h1 hbl2]; exact HR2.out⟩
              case measure => simp [strLen]; omega
            · have hbl3 : blankN u[u.size - 1].toNat = false := by simpa using hbl2
              clear hbl2
              go_wp2_with (go_at_call 81; refine (blank_c _ (by omega) (by omega) _).mono ?_; rintro e w' ⟨rfl, rfl⟩)
              go_ret
              exact ⟨ret_s (trim_fin HR2.out (trimR_stop h1 hbl3)), rfl⟩
          · go_wp2
            go_ret
            exact ⟨ret_s (trim_fin HR2.out (trimR_empty h1)), rfl⟩
    · have H2 := HF.out (trimF_empty h0)
      go_wp2
      go_loop [0] (fun v => ∃ u : ByteArray, v = .string u ∧ u.size ≤ t.size ∧ trimF u.data.toList.reverse = trimF (trimF s.data.toList).reverse) (fun v => strLen v)
      case atStart => exact ⟨t, rfl, Nat.le_refl _, H2⟩
      case round =>
        clear H2 HF
        obtain ⟨u, rfl, hu, hr2⟩ := hrel
        have HR2 := Lib.hid hr2
        clear hr2
        by_cases h1 : 0 < u.size
        · exact absurd h1 (by omega)
        · go_wp2
          go_ret
          exact ⟨ret_s (trim_fin HR2.out (trimR_empty h1)), rfl⟩

set_option maxHeartbeats 400000 in
theorem rTrim_c (s : ByteArray) (hs : s.size ≤ 1000000) (w : World) :
    Calls Try.prog 60 #[.string s] w fun e w' => e = .returned (.string (S (trimL s.data.toList))) ∧ w = w' := by
  go_enter Try.func60, Try.ntmps60
  go_wp2
  go_loop [0] (fun v => ∃ t : ByteArray, v = .string t ∧ t.size ≤ s.size ∧ trimF t.data.toList = trimF s.data.toList) (fun v => strLen v)
  case atStart => exact ⟨s, rfl, Nat.le_refl _, rfl⟩
  case round =>
    obtain ⟨t, rfl, ht, hr⟩ := hrel
    have HR := Lib.hid hr
    clear hr
    have HF : Hid (trimF t.data.toList = t.data.toList → trimF t.data.toList.reverse = trimF (trimF s.data.toList).reverse) := fun h => by rw [← HR.out, h]
    by_cases h0 : 0 < t.size
    · have hb := byte_lt t[0]
      by_cases hbl : blankN t[0].toNat = true
      · go_wp2_with (go_at_call 72; refine (rBlank_c _ (by omega) (by omega) _).mono ?_; rintro e w' ⟨rfl, rfl⟩)
        go_round
        case rel => exact ⟨_, rfl, by rw [ByteArray.size_extract]; omega, by rw [drop1_list, trimF_blank h0 hbl]; exact HR.out⟩
        case measure => simp [strLen]; omega
      · have hbl' : blankN t[0].toNat = false := by simpa using hbl
        clear hbl
        go_wp2_with (go_at_call 72; refine (rBlank_c _ (by omega) (by omega) _).mono ?_; rintro e w' ⟨rfl, rfl⟩)
        have H2 := HF.out (trimF_stop h0 hbl')
        go_loop [0] (fun v => ∃ u : ByteArray, v = .string u ∧ u.size ≤ t.size ∧ trimF u.data.toList.reverse = trimF (trimF s.data.toList).reverse) (fun v => strLen v)
        case atStart => exact ⟨t, rfl, Nat.le_refl _, H2⟩
        case round =>
          clear H2 HF
          obtain ⟨u, rfl, hu, hr2⟩ := hrel
          have HR2 := Lib.hid hr2
          clear hr2
          by_cases h1 : 0 < u.size
          · have hb := byte_lt u[u.size - 1]
            by_cases hbl2 : blankN u[u.size - 1].toNat = true
            · go_wp2_with (go_at_call 72; refine (rBlank_c _ (by omega) (by omega) _).mono ?_; rintro e w' ⟨rfl, rfl⟩)
              go_round
              case rel => exact ⟨_, rfl, by rw [ByteArray.size_extract]; omega, by rw [take1_list, trimR_blank h1 hbl2]; exact HR2.out⟩
              case measure => simp [strLen]; omega
            · have hbl3 : blankN u[u.size - 1].toNat = false := by simpa using hbl2
              clear hbl2
              go_wp2_with (go_at_call 72; refine (rBlank_c _ (by omega) (by omega) _).mono ?_; rintro e w' ⟨rfl, rfl⟩)
              go_ret
              exact ⟨ret_s (trim_fin HR2.out (trimR_stop h1 hbl3)), rfl⟩
          · go_wp2
            go_ret
            exact ⟨ret_s (trim_fin HR2.out (trimR_empty h1)), rfl⟩
    · have H2 := HF.out (trimF_empty h0)
      go_wp2
      go_loop [0] (fun v => ∃ u : ByteArray, v = .string u ∧ u.size ≤ t.size ∧ trimF u.data.toList.reverse = trimF (trimF s.data.toList).reverse) (fun v => strLen v)
      case atStart => exact ⟨t, rfl, Nat.le_refl _, H2⟩
      case round =>
        clear H2 HF
        obtain ⟨u, rfl, hu, hr2⟩ := hrel
        have HR2 := Lib.hid hr2
        clear hr2
        by_cases h1 : 0 < u.size
        · exact absurd h1 (by omega)
        · go_wp2
          go_ret
          exact ⟨ret_s (trim_fin HR2.out (trimR_empty h1)), rfl⟩

set_option maxHeartbeats 400000 in
theorem every_digit_c (s : ByteArray) (hs : s.size ≤ 1000000) (w : World) :
    Calls Try.prog 112 #[.string s, .func (.func 95) #[] #[]] w fun e w' => e = .returned (.bool (allB digitN s.data.toList)) ∧ w = w' := by
  go_enter Try.func112, Try.ntmps112
  go_wp2_with fail
  go_loop [8] (fun i => ∃ k : Nat, k ≤ s.size ∧ i = .int .i64 k ∧ allB digitN (s.data.toList.drop k) = allB digitN s.data.toList) (fun i => s.size - (intOf i).toNat)
  case atStart => exact ⟨0, Nat.zero_le _, rfl, rfl⟩
  case round =>
    obtain ⟨k, hk, rfl, hn⟩ := hrel
    have HN := Lib.hid hn
    clear hn
    by_cases hlt : k < s.size
    · have hb := byte_lt s[k]
      by_cases hd : digitN s[k].toNat = true
      · go_wp2_with (go_at_call 95; refine (isDigit_c _ (by omega) (by omega) _).mono ?_; rintro e w' ⟨rfl, rfl⟩)
        go_round
        case rel => exact ⟨k + 1, by omega, by go_num, all_hit hlt HN.out hd⟩
        case measure => simp [intOf]; omega
      · have hd' : digitN s[k].toNat = false := by simpa using hd
        clear hd
        go_wp2_with (go_at_call 95; refine (isDigit_c _ (by omega) (by omega) _).mono ?_; rintro e w' ⟨rfl, rfl⟩)
        go_ret
        exact ⟨ret_b (all_miss hlt HN.out hd'), rfl⟩
    · go_wp2
      go_ret
      exact ⟨ret_b (all_end hlt HN.out), rfl⟩

set_option maxHeartbeats 400000 in
theorem digits_c (s : ByteArray) (hs : s.size ≤ 1000000) (w : World) :
    Calls Try.prog 102 #[.string s] w fun e w' => e = .returned (.bool (digitsL s.data.toList)) ∧ w = w' := by
  by_cases he : s.toList = []
  · go_enter Try.func102, Try.ntmps102
    go_wp2
    go_ret
    exact ⟨ret_b (digits_empty he), rfl⟩
  · go_enter Try.func102, Try.ntmps102
    go_wp2_with (go_at_call 112; refine (every_digit_c _ hs _).mono ?_; rintro e w' ⟨rfl, rfl⟩)
    go_ret
    exact ⟨ret_b (digits_of s), rfl⟩

set_option maxHeartbeats 400000 in
theorem rDigits_c (s : ByteArray) (hs : s.size ≤ 1000000) (w : World) :
    Calls Try.prog 82 #[.string s] w fun e w' => e = .returned (.bool (digitsL s.data.toList)) ∧ w = w' := by
  go_enter Try.func82, Try.ntmps82
  go_wp2_with fail
  go_loop [3] (fun i => ∃ k : Nat, k ≤ s.size ∧ i = .int .i64 k ∧ allB digitN (s.data.toList.drop k) = allB digitN s.data.toList) (fun i => s.size - (intOf i).toNat)
  case atStart => exact ⟨0, Nat.zero_le _, rfl, rfl⟩
  case round =>
    obtain ⟨k, hk, rfl, hn⟩ := hrel
    have HN := Lib.hid hn
    clear hn
    by_cases hlt : k < s.size
    · have hb := byte_lt s[k]
      by_cases hd : digitN s[k].toNat = true
      · go_wp2_with (go_at_call 93; refine (rIsDigit_c _ (by omega) (by omega) _).mono ?_; rintro e w' ⟨rfl, rfl⟩)
        go_round
        case rel => exact ⟨k + 1, by omega, by go_num, all_hit hlt HN.out hd⟩
        case measure => simp [intOf]; omega
      · have hd' : digitN s[k].toNat = false := by simpa using hd
        clear hd
        go_wp2_with (go_at_call 93; refine (rIsDigit_c _ (by omega) (by omega) _).mono ?_; rintro e w' ⟨rfl, rfl⟩)
        go_ret
        exact ⟨ret_b (digits_hit (all_miss hlt HN.out hd').symm), rfl⟩
    · go_wp2
      go_ret
      exact ⟨ret_b (digits_all (all_end hlt HN.out).symm), rfl⟩
end Go.Proofs.Ytegejmbkpdlekaa
