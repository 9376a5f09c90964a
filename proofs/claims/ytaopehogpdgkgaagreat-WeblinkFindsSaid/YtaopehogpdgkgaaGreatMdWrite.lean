/- grammar.Write of a token; the reference's Write; the sanity check of chapter 20. -/
import Derived.Test.YtaopehogpdgkgaaGreatMdFmt
import Derived.Test.YtaopehogpdgkgaaGreatMdKinds
namespace Go.Proofs.YtaopehogpdgkgaaGreat
open Go.RowKit
theorem tok_split {l : List UInt8} (h : tokB l = true) : tokL l = l ∧ tokR l = [] ∧ l.isEmpty = false := by
  unfold tokB at h
  rw [Bool.and_eq_true] at h
  obtain ⟨h1, h2⟩ := h
  have key : ∀ l : List UInt8, allB tokenN l = true → tokL l = l ∧ tokR l = [] := by
    intro l
    induction l with
    | nil => intro _; exact ⟨rfl, rfl⟩
    | cons c l ih =>
      intro h
      simp only [allB, List.all_cons, Bool.and_eq_true] at h
      obtain ⟨i1, i2⟩ := ih (by simpa [allB] using h.2)
      simp only [tokL, tokR, List.takeWhile_cons, List.dropWhile_cons, h.1, if_true] at i1 i2 ⊢
      exact ⟨by rw [i1], i2⟩
  exact ⟨(key l h1).1, (key l h1).2, by simpa using h2⟩
set_option maxHeartbeats 1000000 in
theorem write_tok_c (s : ByteArray) (hs : s.size ≤ 1000000) (ht : tokB s.data.toList = true) (w : World) :
    Calls Tryz.prog 37 #[.string s] w fun e w' => e = .returned (.string s) ∧ Below w.heap.size w w' := by
  obtain ⟨h1, h2, h3⟩ := tok_split ht
  have H1 := Lib.hid h1
  have H2 := Lib.hid h2
  have H3 := Lib.hid h3
  have hB0 : Below w.heap.size w (w.alloc (.cells #[.string s, .int .i64 0] 47)) := (Below.refl _ w).alloc (Nat.le_refl _) _
  have hc0 : Cur (w.alloc (.cells #[.string s, .int .i64 0] 47)) w.heap.size s 0 := heap_alloc_new w _
  have HC0 := Lib.hid hc0
  clear h1 h2 h3 ht hc0
  go_enter Tryz.func37, Tryz.ntmps37
  go_wp2_with fail
  generalize w.alloc (.cells #[.string s, .int .i64 0] 47) = w0 at *
  refine (cToken_c w.heap.size s 0 (Nat.zero_le _) hs _ HC0.out).mono ?_
  rintro e w1 ⟨rfl, ⟨k, a1, a2, a3, hc1⟩, ho1⟩
  rw [List.drop_zero, H1.out, H3.out]
  have hk : s.size ≤ k := by
    rw [List.drop_zero, H2.out] at a3
    have := congrArg List.length a3
    rw [List.length_drop, size_toList] at this
    simp at this; omega
  have HC1 := Lib.hid hc1
  have hB1 : Below w.heap.size w w1 := hB0.trans (ho1.below (Nat.le_refl _) (by have := hB0.size; omega))
  clear a3 hc1 ho1 hB0
  go_wp2_with fail
  refine (cDone_c w.heap.size s k _ HC1.out).mono ?_
  rintro e w2 ⟨rfl, m, rfl⟩
  go_wp2_with fail
  go_ret
  exact ⟨rfl, ⟨hB1.os, hB1.tape, hB1.output, hB1.size, hB1.block⟩⟩
theorem tok_miss {l : List UInt8} (h : false = allB tokenN l) : false = tokB l := by unfold tokB; rw [← h]; rfl
theorem tok_all {s : ByteArray} (h : true = allB tokenN s.data.toList) : (!s.toList.isEmpty) = tokB s.data.toList := by unfold tokB; rw [← h, ByteArray.toList_eq]; rfl
set_option maxHeartbeats 1000000 in
theorem rTokens2_c (s : ByteArray) (hs : s.size ≤ 1000000) (w : World) :
    Calls Tryz.prog 56 #[.string s] w fun e w' => e = .returned (.bool (tokB s.data.toList)) ∧ w = w' := by
  go_enter Tryz.func56, Tryz.ntmps56
  go_wp2_with fail
  go_loop [3] (fun i => ∃ k : Nat, k ≤ s.size ∧ i = .int .i64 k ∧ allB tokenN (s.data.toList.drop k) = allB tokenN s.data.toList) (fun i => s.size - (intOf i).toNat)
  case atStart => exact ⟨0, Nat.zero_le _, rfl, rfl⟩
  case round =>
    obtain ⟨k, hk, rfl, hn⟩ := hrel
    have HN := Lib.hid hn
    clear hn
    by_cases hlt : k < s.size
    · have hb := byte_lt s[k]
      by_cases hd : tokenN s[k].toNat = true
      · have HD := Lib.hid hd
        go_wp2_with (go_at_call 66; refine (rIsToken_c _ (by omega) (by omega) _).mono ?_; rintro e w' ⟨rfl, rfl⟩)
        go_round
        case rel => exact ⟨k + 1, by omega, by go_num, all_hit hlt HN.out HD.out⟩
        case measure => simp [intOf]; omega
      · have hd' : tokenN s[k].toNat = false := by simpa using hd
        clear hd
        have HD := Lib.hid hd'
        go_wp2_with (go_at_call 66; refine (rIsToken_c _ (by omega) (by omega) _).mono ?_; rintro e w' ⟨rfl, rfl⟩)
        go_ret
        exact ⟨ret_b (tok_miss (all_miss hlt HN.out HD.out)), rfl⟩
    · go_wp2_with fail
      go_ret
      exact ⟨ret_b (tok_all (all_end hlt HN.out)), rfl⟩
theorem quote_take (s : ByteArray) (k : Nat) (h : k < s.size) : quoteL (s.data.toList.take (k + 1)) = quoteL (s.data.toList.take k) ++ (if s[k].toNat = 34 ∨ s[k].toNat = 92 then [92, s[k]] else [s[k]]) := by
  have e : s.data.toList.take (k + 1) = s.data.toList.take k ++ [s[k]] := List.take_succ_eq_append_getElem (by simpa using h)
  rw [e]; unfold quoteL; rw [List.flatMap_append]; simp
theorem ext1 (s : ByteArray) (k : Nat) (h : k < s.size) : s.extract k (k + 1) = S [s[k]] := by
  apply ByteArray.ext; apply Array.toList_inj.1
  have : (s.extract k (k + 1)).data.toList = (s.data.toList.drop k).take 1 := by simp [List.take_drop]
  rw [this, drop_cons s k h]; rfl
theorem quote_esc {T s : ByteArray} {k : Nat} (h : k < s.size) (hc : s[k].toNat = 34 ∨ s[k].toNat = 92) (hT : T = S (34 :: quoteL (s.data.toList.take k))) : T ++ ⟨#[92]⟩ ++ s.extract k (k + 1) = S (34 :: quoteL (s.data.toList.take (k + 1))) := by
  rw [ext1 s k h, quote_take s k h, if_pos hc, hT]; apply ByteArray.ext; apply Array.toList_inj.1; simp [S]
theorem quote_plain {T s : ByteArray} {k : Nat} (h : k < s.size) (hc : ¬ (s[k].toNat = 34 ∨ s[k].toNat = 92)) (hT : T = S (34 :: quoteL (s.data.toList.take k))) : T ++ s.extract k (k + 1) = S (34 :: quoteL (s.data.toList.take (k + 1))) := by
  rw [ext1 s k h, quote_take s k h, if_neg hc, hT]; apply ByteArray.ext; apply Array.toList_inj.1; simp [S]
set_option maxHeartbeats 2000000 in
theorem rWrite_c (s : ByteArray) (hs : s.size ≤ 1000000) (w : World) :
    Calls Tryz.prog 38 #[.string s] w fun e w' => e = .returned (.string (S (writeL s.data.toList))) ∧ w = w' := by
  obtain ⟨x, hx⟩ : ∃ x, tokB s.data.toList = x := ⟨_, rfl⟩
  have hW : writeL s.data.toList = if x then s.data.toList else 34 :: (quoteL s.data.toList ++ [34]) := by unfold writeL; rw [hx]
  have hT := rTokens2_c s hs
  rw [hx] at hT
  have HT := Lib.hid hT
  have HW := Lib.hid hW
  clear hT hW hx
  cases x with
  | true =>
    go_enter Tryz.func38, Tryz.ntmps38
    go_wp2_with fail
    refine (HT.out _).mono ?_
    rintro e w1 ⟨rfl, rfl⟩
    go_wp2_with fail
    go_ret
    exact ⟨ret_s (by rw [HW.out]; rfl), rfl⟩
  | false =>
    go_enter Tryz.func38, Tryz.ntmps38
    go_wp2_with fail
    refine (HT.out _).mono ?_
    rintro e w1 ⟨rfl, rfl⟩
    go_wp2_with fail
    go_loop [3, 4] (fun u3 u4 => ∃ (k : Nat) (T : ByteArray), k ≤ s.size ∧ u4 = .int .i64 (k : Int) ∧ u3 = .string T ∧ T = S (34 :: quoteL (s.data.toList.take k))) (fun _ u4 => s.size - (intOf u4).toNat)
    case atStart => exact ⟨0, _, Nat.zero_le _, rfl, rfl, rfl⟩
    case round =>
      obtain ⟨k, T, hk, rfl, rfl, hT⟩ := hrel
      have hTs : T.size ≤ 3000000 := by
        have := quoteL_len (s.data.toList.take k)
        rw [List.length_take, size_toList] at this
        rw [hT, S_size]; simp only [List.length_cons]; omega
      have HTT := Lib.hid hT
      clear hT
      by_cases hkn : k < s.size
      · by_cases h34 : s[k].toNat = 34
        · have HE := Lib.hid (quote_esc hkn (.inl h34) HTT.out)
          have e1 : ((s[k].toNat : Int) == 34) = true := by rw [h34]; rfl
          clear h34
          go_wp2_with fail
          go_round
          case rel => exact ⟨k + 1, _, by omega, by go_num, rfl, HE.out⟩
          case measure => simp [intOf]; omega
        · have e1 : ((s[k].toNat : Int) == 34) = false := by rw [beq_eq_false_iff_ne]; omega
          by_cases h92 : s[k].toNat = 92
          · have HE := Lib.hid (quote_esc hkn (.inr h92) HTT.out)
            have e2 : ((s[k].toNat : Int) == 92) = true := by rw [h92]; rfl
            clear h34 h92
            go_wp2_with fail
            go_round
            case rel => exact ⟨k + 1, _, by omega, by go_num, rfl, HE.out⟩
            case measure => simp [intOf]; omega
          · have HE := Lib.hid (quote_plain hkn (by omega) HTT.out)
            have e2 : ((s[k].toNat : Int) == 92) = false := by rw [beq_eq_false_iff_ne]; omega
            clear h34 h92
            go_wp2_with fail
            go_round
            case rel => exact ⟨k + 1, _, by omega, by go_num, rfl, HE.out⟩
            case measure => simp [intOf]; omega
      · have hkk : k = s.size := by omega
        have HE := Lib.hid (show T ++ ⟨#[34]⟩ = S (writeL s.data.toList) by
          rw [HW.out, HTT.out, hkk, List.take_of_length_le (by rw [size_toList]; omega)]
          apply ByteArray.ext; apply Array.toList_inj.1; simp [S])
        clear hkk
        go_wp2_with fail
        go_ret
        exact ⟨ret_s HE.out, rfl⟩
end Go.Proofs.YtaopehogpdgkgaaGreat
