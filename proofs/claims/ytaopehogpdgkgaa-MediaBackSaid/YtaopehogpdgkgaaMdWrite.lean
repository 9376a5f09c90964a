/- grammar.Write of a token; the reference's Write; the sanity check of chapter 20. -/
import Derived.Test.YtaopehogpdgkgaaMdFmt
import Derived.Test.YtaopehogpdgkgaaMdKinds
namespace Go.Proofs.Ytaopehogpdgkgaa
open Go.RowKit
theorem tok_split {l : List UInt8} (h : tokB l = true) : tokL l = l ∧ tokR l = [] ∧ l.isEmpty = false := by
  unfold tokB at h
  rw [Bool.and_eq_true] at h
  obtain ⟨h1, h2⟩ := h
  have key : ∀ l : List UInt8, allB tokenN l = true → tokL l = l ∧ tokR l = [] := by
    intro l
    induction l with
    | nil => intro _; exact ⟨rfl, rfl⟩
    | cons c l ih =>
      intro h
      simp only [allB, List.all_cons, Bool.and_eq_true] at h
      obtain ⟨i1, i2⟩ := ih (by simpa [allB] using h.2)
      simp only [tokL, tokR, List.takeWhile_cons, List.dropWhile_cons, h.1, if_true] at i1 i2 ⊢
      exact ⟨by rw [i1], i2⟩
  exact ⟨(key l h1).1, (key l h1).2, by simpa using h2⟩
set_option maxHeartbeats 1000000 in
theorem write_tok_c (s : ByteArray) (hs : s.size ≤ 1000000) (ht : tokB s.data.toList = true) (w : World) :
    Calls Try.prog 29 #[.string s] w fun e w' => e = .returned (.string s) ∧ Below w.heap.size w w' := by
  obtain ⟨h1, h2, h3⟩ := tok_split ht
  have H1 := Lib.hid h1
  have H2 := Lib.hid h2
  have H3 := Lib.hid h3
  have hB0 : Below w.heap.size w (w.alloc (.cells #[.string s, .int .i64 0] 44)) := (Below.refl _ w).alloc (Nat.le_refl _) _
  have hc0 : Cur (w.alloc (.cells #[.string s, .int .i64 0] 44)) w.heap.size s 0 := heap_alloc_new w _
  have HC0 := Lib.hid hc0
  clear h1 h2 h3 ht hc0
  go_enter Try.func29, Try.ntmps29
  go_wp2_with fail
  generalize w.alloc (.cells #[.string s, .int .i64 0] 44) = w0 at *
  refine (cToken_c w.heap.size s 0 (Nat.zero_le _) hs _ HC0.out).mono ?_
  rintro e w1 ⟨rfl, ⟨k, a1, a2, a3, hc1⟩, ho1⟩
  rw [List.drop_zero, H1.out, H3.out]
  have hk : s.size ≤ k := by
    rw [List.drop_zero, H2.out] at a3
    have := congrArg List.length a3
    rw [List.length_drop, size_toList] at this
    simp at this; omega
  have HC1 := Lib.hid hc1
  have hB1 : Below w.heap.size w w1 := hB0.trans (ho1.below (Nat.le_refl _) (by have := hB0.size; omega))
  clear a3 hc1 ho1 hB0
  go_wp2_with fail
  refine (cDone_c w.heap.size s k _ HC1.out).mono ?_
  rintro e w2 ⟨rfl, m, rfl⟩
  go_wp2_with fail
  go_ret
  exact ⟨rfl, ⟨hB1.os, hB1.tape, hB1.output, hB1.size, hB1.block⟩⟩
theorem tok_miss {l : List UInt8} (h : false = allB tokenN l) : false = tokB l := by unfold tokB; rw [← h]; rfl
theorem tok_all {s : ByteArray} (h : true = allB tokenN s.data.toList) : (!s.toList.isEmpty) = tokB s.data.toList := by unfold tokB; rw [← h, ByteArray.toList_eq]; rfl
theorem quote_take (s : ByteArray) (k : Nat) (h : k < s.size) : quoteL (s.data.toList.take (k + 1)) = quoteL (s.data.toList.take k) ++ (if s[k].toNat = 34 ∨ s[k].toNat = 92 then [92, s[k]] else [s[k]]) := by
  have e : s.data.toList.take (k + 1) = s.data.toList.take k ++ [s[k]] := List.take_succ_eq_append_getElem (by simpa using h)
  rw [e]; unfold quoteL; rw [List.flatMap_append]; simp
theorem ext1 (s : ByteArray) (k : Nat) (h : k < s.size) : s.extract k (k + 1) = S [s[k]] := by
  apply ByteArray.ext; apply Array.toList_inj.1
  have : (s.extract k (k + 1)).data.toList = (s.data.toList.drop k).take 1 := by simp [List.take_drop]
  rw [this, drop_cons s k h]; rfl
theorem quote_esc {T s : ByteArray} {k : Nat} (h : k < s.size) (hc : s[k].toNat = 34 ∨ s[k].toNat = 92) (hT : T = S (34 :: quoteL (s.data.toList.take k))) : T ++ ⟨#[92]⟩ ++ s.extract k (k + 1) = S (34 :: quoteL (s.data.toList.take (k + 1))) := by
  rw [ext1 s k h, quote_take s k h, if_pos hc, hT]; apply ByteArray.ext; apply Array.toList_inj.1; simp [S]
theorem quote_plain {T s : ByteArray} {k : Nat} (h : k < s.size) (hc : ¬ (s[k].toNat = 34 ∨ s[k].toNat = 92)) (hT : T = S (34 :: quoteL (s.data.toList.take k))) : T ++ s.extract k (k + 1) = S (34 :: quoteL (s.data.toList.take (k + 1))) := by
  rw [ext1 s k h, quote_take s k h, if_neg hc, hT]; apply ByteArray.ext; apply Array.toList_inj.1; simp [S]
end Go.Proofs.Ytaopehogpdgkgaa
