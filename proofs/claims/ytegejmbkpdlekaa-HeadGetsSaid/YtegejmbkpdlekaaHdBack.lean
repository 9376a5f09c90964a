/- A head that was read is read again from its bytes (plain law, chapter 18). -/
import Derived.Test.YtegejmbkpdlekaaHdRPlain
import Derived.Test.YtegejmbkpdlekaaFormat
namespace Go.Proofs.Ytegejmbkpdlekaa
open Go.RowKit
/-- no byte of a list is 13 -/
def no13 (l : List UInt8) : Bool := allB (fun n => !(n == 13)) l
/-- behind each 13 of a list stands, two places on, another byte than 13 -/
def third : List UInt8 → Bool
  | _ :: c :: _ => !(c == 13)
  | _ => false
def okE : List UInt8 → Bool
  | [] => true
  | b :: l => (!(b == 13) || third l) && okE l
theorem okE_app : ∀ (x y : List UInt8), no13 x = true → okE (x ++ y) = okE y
  | [], _, _ => rfl
  | b :: x, y, h => by
    simp only [no13, allB, List.all_cons, Bool.and_eq_true, Bool.not_eq_true', beq_eq_false_iff_ne, ne_eq] at h
    have hb : (b == 13) = false := by
      rw [beq_eq_false_iff_ne]; intro e; exact h.1 (by rw [e]; rfl)
    rw [List.cons_append, okE, hb]
    simp only [Bool.not_false, Bool.true_or, Bool.true_and]
    exact okE_app x y h.2
theorem okE_crlf (c : UInt8) (y : List UInt8) (h : (c == 13) = false) : okE (13 :: 10 :: c :: y) = okE (c :: y) := by
  rw [okE, okE, third, h]
  simp
theorem index_end : ∀ (b m : List UInt8), okE b = true → Lib.index (b ++ endL ++ m) endL = (b.length : Int)
  | [], m, _ => by
    show Lib.index (13 :: 10 :: 13 :: 10 :: m) endL = 0
    unfold Lib.index
    rw [if_pos (by simp [endL, List.isPrefixOf])]
  | c :: b, m, h => by
    rw [okE, Bool.and_eq_true] at h
    have ih := index_end b m h.2
    have hp : endL.isPrefixOf (c :: (b ++ endL ++ m)) = false := by
      by_cases hc : (c == 13) = true
      · rw [hc] at h
        match b, h with
        | x :: d :: t, h =>
          have hd : (d == 13) = false := by simpa [third] using h.1
          have hd' : ((13 : UInt8) == d) = false := by rw [beq_eq_false_iff_ne] at *; exact fun e => hd e.symm
          simp [endL, List.isPrefixOf, hd']
        | [], h => simp [third] at h
        | [x], h => simp [third] at h
      · have hc' : ((13 : UInt8) == c) = false := by rw [beq_eq_false_iff_ne]; intro e; rw [← e] at hc; simp at hc
        simp [endL, List.isPrefixOf, hc']
    rw [List.cons_append, List.cons_append]
    unfold Lib.index
    rw [hp, ih]
    have h1 : ((b.length : Int) == -1) = false := by rw [beq_eq_false_iff_ne]; omega
    simp only [Bool.false_eq_true, if_false, h1, List.length_cons]; omega
theorem index_crlf : ∀ (x y : List UInt8), no13 x = true → Lib.index (x ++ 13 :: 10 :: y) crlfL = (x.length : Int)
  | [], y, _ => by
    show Lib.index (13 :: 10 :: y) crlfL = 0
    unfold Lib.index
    rw [if_pos (by simp [crlfL, List.isPrefixOf])]
  | c :: x, y, h => by
    simp only [no13, allB, List.all_cons, Bool.and_eq_true, Bool.not_eq_true', beq_eq_false_iff_ne, ne_eq] at h
    have ih := index_crlf x y (by simpa [no13, allB] using h.2)
    have hc : ((13 : UInt8) == c) = false := by rw [beq_eq_false_iff_ne]; intro e; exact h.1 (by rw [← e]; rfl)
    rw [List.cons_append]
    unfold Lib.index
    rw [show crlfL.isPrefixOf (c :: (x ++ 13 :: 10 :: y)) = false by simp [crlfL, List.isPrefixOf, hc], ih]
    have h1 : ((x.length : Int) == -1) = false := by rw [beq_eq_false_iff_ne]; omega
    simp only [Bool.false_eq_true, if_false, h1, List.length_cons]; omega
theorem index_no : ∀ (x : List UInt8), no13 x = true → Lib.index x crlfL = -1
  | [], _ => by decide
  | c :: x, h => by
    simp only [no13, allB, List.all_cons, Bool.and_eq_true, Bool.not_eq_true', beq_eq_false_iff_ne, ne_eq] at h
    have ih := index_no x (by simpa [no13, allB] using h.2)
    have hc : ((13 : UInt8) == c) = false := by rw [beq_eq_false_iff_ne]; intro e; exact h.1 (by rw [← e]; rfl)
    unfold Lib.index
    rw [show crlfL.isPrefixOf (c :: x) = false by simp [crlfL, List.isPrefixOf, hc], ih]
    rfl
theorem cut_crlf {x : List UInt8} (y : List UInt8) (h : no13 x = true) : Lib.cut (x ++ 13 :: 10 :: y) crlfL = (x, y, true) := by
  unfold Lib.cut
  rw [index_crlf x y h, if_pos (by omega), Int.toNat_natCast]
  simp [crlfL]
theorem cut_no {x : List UInt8} (h : no13 x = true) : Lib.cut x crlfL = (x, [], false) := by
  unfold Lib.cut
  rw [index_no x h, if_neg (by omega)]
/-- decimal digits of any number -/
def decL (n : Int) : List UInt8 := if n < 0 then 45 :: fmtL (-n).toNat else fmtL n.toNat
/-- a field's line -/
def fldL (f : Fld) : List UInt8 := f.1 ++ (58 :: 32 :: f.2)
def fldsL (fs : List Fld) : List UInt8 := fs.flatMap fun f => fldL f ++ crlfL
def stL (mi st : Int) : List UInt8 := preL ++ ((if mi = 0 then 48 else 49) :: 32 :: (decL st ++ [32, 45]))
/-- the bytes of a head -/
def fmtHL (mi st : Int) (fs : List Fld) : List UInt8 := stL mi st ++ crlfL ++ fldsL fs ++ crlfL
/-- the lines of the fields, each with the two bytes ahead -/
def tailL (fs : List Fld) : List UInt8 := fs.flatMap fun f => crlfL ++ fldL f
theorem tail_swap : ∀ fs : List Fld, crlfL ++ fldsL fs = tailL fs ++ crlfL
  | [] => rfl
  | f :: fs => by
    have ih := tail_swap fs
    simp only [fldsL, tailL, List.flatMap_cons, List.append_assoc] at ih ⊢
    rw [ih]
theorem fmtHL_eq (mi st : Int) (fs : List Fld) : fmtHL mi st fs = (stL mi st ++ tailL fs) ++ endL := by
  unfold fmtHL
  rw [List.append_assoc (stL mi st), tail_swap]
  simp [endL, crlfL]
/-- what a field that was read is like -/
def GoodF (f : Fld) : Prop := nameB f.1 = true ∧ lowerL f.1 = f.1 ∧ valueB f.2 = true ∧ trimL (32 :: f.2) = f.2
theorem inV_no13 {n : Nat} (h : inVN n = true) : (!(n == 13)) = true := by
  by_cases e : n = 13
  · subst e; simp [inVN] at h
  · simpa using e
theorem tok_low {b : UInt8} (h : tokenN b.toNat = true) : tokenN (lowerB b).toNat = true := by
  have : ∀ m : Fin 256, tokenN m.val = true → tokenN (lowerB (UInt8.ofNat m.val)).toNat = true := by decide +kernel
  have h2 := this ⟨b.toNat, b.toNat_lt⟩ h
  simpa using h2
theorem tok_no13 {n : Nat} (hn : n < 256) (h : tokenN n = true) : (!(n == 13)) = true ∧ notColon n = true := by
  have : ∀ m : Fin 256, tokenN m.val = true → (!(m.val == 13)) = true ∧ notColon m.val = true := by decide +kernel
  exact this ⟨n, hn⟩ h
theorem allB_map {p q : Nat → Bool} {l : List UInt8} (h : allB p l = true) (hpq : ∀ b : UInt8, p b.toNat = true → q b.toNat = true) : allB q l = true := by
  unfold allB at *
  rw [List.all_eq_true] at *
  exact fun b hb => hpq b (h b hb)
theorem trimF_sub (l : List UInt8) : ∀ b ∈ trimF l, b ∈ l := by
  induction l with
  | nil => simp [trimF]
  | cons a l ih =>
    simp only [trimF]
    split
    · intro b hb; exact List.mem_cons_of_mem _ (ih b hb)
    · intro b hb; exact hb
theorem trimL_sub (l : List UInt8) : ∀ b ∈ trimL l, b ∈ l := by
  intro b hb
  unfold trimL at hb
  exact trimF_sub l b (List.mem_reverse.1 (trimF_sub _ b (List.mem_reverse.1 hb)))
theorem trim_32 (l : List UInt8) : trimL (32 :: l) = trimL l := by
  unfold trimL
  rw [show trimF (32 :: l) = trimF l from by simp [trimF, blankN]]
theorem line_good {l : List UInt8} {f : Fld} (h : lineP l = some f) : GoodF f ∧ f.1.length + f.2.length + 1 ≤ l.length := by
  unfold lineP at h
  split at h
  · rename_i hc
    simp only [Bool.and_eq_true] at hc
    obtain ⟨⟨h1, h2⟩, h3⟩ := hc
    injection h with h
    subst h
    refine ⟨⟨?_, lower_lower _, ?_, ?_⟩, ?_⟩
    · simp only [nameB, Bool.and_eq_true] at h2 ⊢
      refine ⟨?_, ?_⟩
      · have := h2.1
        unfold allB lowerL at *
        rw [List.all_eq_true] at *
        intro b hb
        obtain ⟨a, ha, rfl⟩ := List.mem_map.1 hb
        exact tok_low (this a ha)
      · have := h2.2
        cases hq : (Lib.cut l [58]).1 with
        | nil => rw [hq] at this; simp at this
        | cons a t => simp [lowerL]
    · unfold valueB allB at *
      rw [List.all_eq_true] at *
      exact fun b hb => h3 b (trimL_sub _ b hb)
    · show trimL (32 :: trimL _) = trimL _
      rw [trim_32, trim_trim]
    · show (lowerL _).length + (trimL _).length + 1 ≤ _
      rw [lowerL_len]
      have h4 := trimL_len (Lib.cut l [58]).2.1
      have h5 : (Lib.cut l [58]).1.length + (Lib.cut l [58]).2.1.length + 1 ≤ l.length := by
        unfold Lib.cut at h1 ⊢
        split at h1
        · rename_i hi
          have hr := Lib.index_room l [58] hi
          rw [if_pos hi]
          simp only [List.length_take, List.length_drop, List.length_cons, List.length_nil] at hr ⊢
          omega
        · cases h1
      omega
  · cases h
theorem line_len (r : List UInt8) : (lineL r).length + (restL r).length + (if moreL r then 2 else 0) ≤ r.length := by
  unfold lineL restL moreL Lib.cut
  split
  · rename_i hi
    have hr := Lib.index_room r crlfL hi
    have : crlfL.length = 2 := rfl
    simp only [List.length_take, List.length_drop, if_true]
    omega
  · simp
/-- bytes of the fields -/
def wtF (fs : List Fld) : Nat := (fs.map fun f => f.1.length + f.2.length).sum
theorem hdr_good : ∀ (n k : Nat) (r : List UInt8) (m : Bool) (fs : List Fld), hdrF n k r m = .ok fs → (∀ f ∈ fs, GoodF f) ∧ k + fs.length ≤ max 64 k ∧ wtF fs + fs.length ≤ r.length
  | 0, _, _, _, _, h => by simp [hdrF] at h
  | n + 1, k, r, m, fs, h => by
    rw [hdrF] at h
    split at h
    · injection h with h; subst h; exact ⟨by simp, by simp; omega, by simp [wtF]⟩
    · split at h
      · cases h
      · rename_i h64
        split at h
        · cases h
        · rename_i f hf
          have ih := hdr_good n (k + 1) (restL r) (moreL r)
          split at h
          · cases h
          · rename_i gs hg
            injection h with h
            subst h
            obtain ⟨i1, i2, i3⟩ := ih gs hg
            obtain ⟨g1, g2⟩ := line_good hf
            have hl := line_len r
            refine ⟨?_, ?_, ?_⟩
            · intro x hx
              rcases List.mem_cons.1 hx with rfl | hx
              · exact g1
              · exact i1 x hx
            · simp only [List.length_cons]; omega
            · simp only [wtF, List.map_cons, List.sum_cons, List.length_cons] at i3 ⊢
              have : (lineL r).length + (restL r).length ≤ r.length := by omega
              omega
theorem num3_le {l : List UInt8} {n : Nat} (h : num3 l = some n) : 100 ≤ n ∧ n ≤ 599 := by
  unfold num3 at h
  split at h
  · rename_i hc
    injection h with h
    simp only [Bool.and_eq_true, decide_eq_true_eq] at hc
    omega
  · cases h
theorem status_good {l : List UInt8} {mi st : Nat} (h : statusL l = some (mi, st)) : (mi = 0 ∨ mi = 1) ∧ 100 ≤ st ∧ st ≤ 599 := by
  unfold statusL at h
  split at h
  · unfold statusR at h
    split at h
    · rename_i hc
      cases hn : num3 (((List.drop 7 l).drop 2).take 3) with
      | none => rw [hn] at h; cases h
      | some n =>
        rw [hn] at h
        simp only [Option.map_some, Option.some.injEq, Prod.mk.injEq] at h
        have := num3_le hn
        omega
    · cases h
  · cases h
theorem head_good {s : List UInt8} {mi st to : Nat} {fs : List Fld} (h : headL s = .ok (mi, st, fs, to)) :
    (mi = 0 ∨ mi = 1) ∧ 100 ≤ st ∧ st ≤ 599 ∧ (∀ f ∈ fs, GoodF f) ∧ fs.length ≤ 64 ∧ wtF fs ≤ s.length ∧ to ≤ s.length := by
  unfold headL at h
  split at h
  · cases h
  · rename_i hi
    have hr := Lib.index_room (s.take 16384) endL (by omega)
    have he : endL.length = 4 := rfl
    rw [List.length_take] at hr
    generalize Lib.index (s.take 16384) endL = N at *
    split at h
    · cases h
    · rename_i mi' st' hs
      obtain ⟨s1, s2, s3⟩ := status_good hs
      unfold finH at h
      split at h
      · cases h
      · rename_i gs hg
        simp only [Except.ok.injEq, Prod.mk.injEq] at h
        obtain ⟨rfl, rfl, rfl, rfl⟩ := h
        obtain ⟨g1, g2, g3⟩ := hdr_good _ _ _ _ _ hg
        have hl := line_len (s.take N.toNat)
        rw [List.length_take] at hl
        refine ⟨s1, s2, s3, g1, by omega, by omega, by omega⟩
theorem fmt3 {n : Nat} (h1 : 100 ≤ n) (h2 : n ≤ 599) : ∃ a b c, fmtL n = [a, b, c] ∧ num3 [a, b, c] = some n := by
  have : ∀ m : Fin 600, 100 ≤ m.val → fmtL m.val = [dig (m.val / 10 / 10), dig (m.val / 10), dig m.val] ∧ num3 [dig (m.val / 10 / 10), dig (m.val / 10), dig m.val] = some m.val := by decide +kernel
  exact ⟨_, _, _, this ⟨n, by omega⟩ h1⟩
theorem no13_app (x y : List UInt8) : no13 (x ++ y) = (no13 x && no13 y) := by simp [no13, allB, List.all_append]
theorem good_no13 {f : Fld} (h : GoodF f) : no13 (fldL f) = true := by
  obtain ⟨h1, _, h3, _⟩ := h
  unfold fldL
  rw [no13_app, Bool.and_eq_true]
  constructor
  · simp only [nameB, Bool.and_eq_true] at h1
    exact allB_map h1.1 fun b hb => (tok_no13 b.toNat_lt hb).1
  · have : no13 f.2 = true := allB_map h3 fun b hb => inV_no13 hb
    simpa [no13, allB] using this
theorem good_line {f : Fld} (h : GoodF f) : lineP (fldL f) = some f := by
  obtain ⟨h1, h2, h3, h4⟩ := h
  have ht : twN notColon (fldL f) = f.1.length := by
    have h5 : allB notColon f.1 = true := by
      simp only [nameB, Bool.and_eq_true] at h1
      exact allB_map h1.1 fun b hb => (tok_no13 b.toNat_lt hb).2
    unfold fldL
    have : ∀ (x y : List UInt8), allB notColon x = true → twN notColon (x ++ 58 :: y) = x.length := by
      intro x
      induction x with
      | nil => intro y _; simp [twN, notColon]
      | cons a x ih =>
        intro y hx
        simp only [allB, List.all_cons, Bool.and_eq_true] at hx
        have := ih y (by simpa [allB] using hx.2)
        simp only [twN, List.cons_append, List.takeWhile_cons, hx.1, if_true, List.length_cons] at this ⊢
        omega
    exact this _ _ h5
  have hl : (fldL f).length = f.1.length + f.2.length + 2 := by unfold fldL; simp; omega
  obtain ⟨c1, c2⟩ := col_cut (fldL f)
  rw [ht] at c1 c2
  have hne : f.1.length ≠ (fldL f).length := by omega
  obtain ⟨c2, c3⟩ := c2 hne
  have e2 : (fldL f).take f.1.length = f.1 := by unfold fldL; simp
  have e3 : (fldL f).drop (f.1.length + 1) = 32 :: f.2 := by
    unfold fldL
    rw [List.drop_append]
    simp
  rw [e2] at c2
  rw [e3] at c3
  rw [line_ok (c1.2 hne) (by rw [c2]; exact h1) (by rw [c3]; simpa [valueB, allB, inVN] using h3), c2, c3, h2, h4]
theorem fldL_cons {f : Fld} (h : GoodF f) : ∃ c t, fldL f = c :: t ∧ (c == 13) = false := by
  have h1 := h.1
  simp only [nameB, Bool.and_eq_true] at h1
  unfold fldL
  cases hf : f.1 with
  | nil => rw [hf] at h1; simp at h1
  | cons a t =>
    refine ⟨a, t ++ 58 :: 32 :: f.2, rfl, ?_⟩
    rw [hf] at h1
    have := h1.1
    simp only [allB, List.all_cons, Bool.and_eq_true] at this
    have h2 := (tok_no13 a.toNat_lt this.1).1
    rw [beq_eq_false_iff_ne]; intro e; subst e; revert h2; decide
theorem okE_tail : ∀ fs : List Fld, (∀ f ∈ fs, GoodF f) → okE (tailL fs) = true
  | [], _ => rfl
  | f :: fs, h => by
    have hf := h f (by simp)
    have ih := okE_tail fs fun x hx => h x (by simp [hx])
    obtain ⟨c, t, e, hc⟩ := fldL_cons hf
    have e2 : tailL (f :: fs) = 13 :: 10 :: (fldL f ++ tailL fs) := by simp [tailL, crlfL]
    rw [e2, e, List.cons_append, okE_crlf c _ hc, ← List.cons_append, ← e, okE_app _ _ (good_no13 hf), ih]
theorem cut_tail {x : List UInt8} {fs : List Fld} (h : no13 x = true) : Lib.cut (x ++ tailL fs) crlfL = match fs with
    | [] => (x, [], false)
    | f :: gs => (x, fldL f ++ tailL gs, true) := by
  cases fs with
  | nil => simp only [tailL, List.flatMap_nil, List.append_nil]; exact cut_no h
  | cons f gs =>
    have e2 : tailL (f :: gs) = 13 :: 10 :: (fldL f ++ tailL gs) := by simp [tailL, crlfL]
    rw [e2]; exact cut_crlf _ h
theorem hdr_tail : ∀ (fs : List Fld) (n k : Nat) (x : List UInt8), (∀ f ∈ fs, GoodF f) → no13 x = true → fs.length < n → k + fs.length ≤ 64 →
    hdrF n k (restL (x ++ tailL fs)) (moreL (x ++ tailL fs)) = .ok fs
  | [], n, k, x, _, hx, hn, _ => by
    obtain ⟨n, rfl⟩ : ∃ j, n = j + 1 := ⟨n - 1, by simp at hn; omega⟩
    unfold moreL restL
    rw [cut_tail hx, hdrF, if_pos rfl]
  | f :: fs, n, k, x, h, hx, hn, hk => by
    obtain ⟨n, rfl⟩ : ∃ j, n = j + 1 := ⟨n - 1, by simp at hn; omega⟩
    have hf := h f (by simp)
    have ih := hdr_tail fs n (k + 1) (fldL f) (fun x hx => h x (by simp [hx])) (good_no13 hf) (by simp at hn; omega) (by simp at hk; omega)
    have e1 : restL (x ++ tailL (f :: fs)) = fldL f ++ tailL fs := by unfold restL; rw [cut_tail hx]
    have e2 : moreL (x ++ tailL (f :: fs)) = true := by unfold moreL; rw [cut_tail hx]
    have e3 : lineL (fldL f ++ tailL fs) = fldL f := by unfold lineL; rw [cut_tail (good_no13 hf)]; cases fs <;> rfl
    simp only [List.length_cons] at hk
    rw [e1, e2, hdrF, if_neg (by simp), if_neg (by omega), e3, good_line hf, ih]
theorem wt_tail : ∀ fs : List Fld, (tailL fs).length = wtF fs + 4 * fs.length
  | [] => rfl
  | f :: fs => by
    have ih := wt_tail fs
    have e2 : tailL (f :: fs) = 13 :: 10 :: (fldL f ++ tailL fs) := by simp [tailL, crlfL]
    rw [e2]
    simp only [List.length_cons, List.length_append, ih, wtF, List.map_cons, List.sum_cons, fldL]
    omega
theorem st_facts {mi st : Nat} (hm : mi = 0 ∨ mi = 1) (h1 : 100 ≤ st) (h2 : st ≤ 599) : no13 (stL mi st) = true ∧ (stL mi st).length = 14 ∧ statusL (stL mi st) = some (mi, st) := by
  obtain ⟨a, b, c, e, hn⟩ := fmt3 h1 h2
  have hd : decL (st : Int) = [a, b, c] := by unfold decL; rw [if_neg (by omega), Int.toNat_natCast, e]
  have ha : allB digitN [a, b, c] = true := by rw [← e]; exact digs_all 19 st
  have h13 : no13 [a, b, c] = true := allB_map ha fun x hx => by
    simp only [digitN, Bool.and_eq_true, decide_eq_true_eq] at hx
    simp; omega
  refine ⟨?_, ?_, ?_⟩
  · unfold stL
    rw [hd, no13_app]
    simp only [no13, allB, List.all_cons, List.cons_append, List.nil_append, List.all_nil, Bool.and_true, Bool.and_eq_true] at h13 ⊢
    refine ⟨by decide, ?_, by decide, h13.1, h13.2.1, h13.2.2, by decide⟩
    split <;> decide
  · unfold stL; rw [hd]; simp [preL]
  · unfold stL
    rw [hd]
    unfold statusL
    rw [if_pos (by unfold Lib.hasPrefix; simp [preL, List.isPrefixOf])]
    have e7 : ∀ y : List UInt8, (preL ++ y).drop 7 = y := fun y => by simp [preL]
    rw [e7]
    unfold statusR
    rcases hm with rfl | rfl
    · rw [if_pos ⟨by simp, .inl (by rfl), by rfl, by rfl, by rfl⟩]
      simp [hn, chN]
    · rw [if_pos ⟨by simp, .inr (by rfl), by rfl, by rfl, by rfl⟩]
      simp [hn, chN]
/-- THE LAW: what was read is read again, whatever follows -/
theorem head_back {s more : List UInt8} {mi st to : Nat} {fs : List Fld} (h : headL s = .ok (mi, st, fs, to)) (hs : s.length ≤ 3000) :
    headL (fmtHL mi st fs ++ more) = .ok (mi, st, fs, (fmtHL mi st fs).length) ∧ (fmtHL mi st fs).length ≤ 4000 := by
  obtain ⟨hm, h1, h2, hg, h64, hw, _⟩ := head_good h
  obtain ⟨n13, hlen, hst⟩ := st_facts hm h1 h2
  have ht := wt_tail fs
  have hB : (stL mi st ++ tailL fs).length ≤ 3500 := by rw [List.length_append, hlen, ht]; omega
  have hl : (fmtHL mi st fs).length = (stL mi st ++ tailL fs).length + 4 := by rw [fmtHL_eq, List.length_append]; rfl
  refine ⟨?_, by omega⟩
  have hfl : fs.length ≤ (stL mi st ++ tailL fs).length := by rw [List.length_append, ht]; omega
  have hok : okE (stL mi st ++ tailL fs) = true := by rw [okE_app _ _ n13]; exact okE_tail fs hg
  have hcut : lineL (stL mi st ++ tailL fs) = stL mi st := by unfold lineL; rw [cut_tail n13]; cases fs <;> rfl
  have htk : (fmtHL mi st fs ++ more).take 16384 = (stL mi st ++ tailL fs) ++ endL ++ more.take (16384 - (fmtHL mi st fs).length) := by
    rw [List.take_append, List.take_of_length_le (by omega), fmtHL_eq]
  have hix : Lib.index ((fmtHL mi st fs ++ more).take 16384) endL = ((stL mi st ++ tailL fs).length : Int) := by rw [htk]; exact index_end _ _ hok
  have hbd : (fmtHL mi st fs ++ more).take (stL mi st ++ tailL fs).length = stL mi st ++ tailL fs := by
    rw [fmtHL_eq, List.append_assoc, List.take_left]
  unfold headL
  rw [hix, if_neg (by omega), Int.toNat_natCast, hbd, hcut, hst]
  simp only
  rw [hdr_tail fs _ _ _ hg n13 (by rw [List.length_append]; omega) (by omega)]
  unfold finH
  simp only [hl]
end Go.Proofs.Ytegejmbkpdlekaa
