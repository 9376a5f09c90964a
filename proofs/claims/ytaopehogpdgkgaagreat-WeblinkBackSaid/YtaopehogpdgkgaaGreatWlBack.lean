/- Reading links back from their text: the plain law (chapter 22). -/
import Derived.Test.YtaopehogpdgkgaaGreatMdBack
import Derived.Test.YtaopehogpdgkgaaGreatWlPlain
namespace Go.Proofs.YtaopehogpdgkgaaGreat
open Go.RowKit
def parW (f : Fld) : List UInt8 := 59 :: 32 :: (f.1 ++ if f.2.isEmpty then [] else 61 :: writeL f.2)
def parsW (fs : List Fld) : List UInt8 := fs.flatMap parW
def lnkL (x : Lnk) : List UInt8 := 60 :: (x.1 ++ 62 :: parsW x.2.2)
def fmtT : List Lnk → List UInt8
  | [] => []
  | x :: t => 44 :: 32 :: (lnkL x ++ fmtT t)
def fmtWL : List Lnk → List UInt8
  | [] => []
  | x :: t => lnkL x ++ fmtT t
def GoodT (t : List UInt8) : Prop := ∀ c ∈ t, inVN c.toNat = true ∧ c.toNat ≠ 62
def GoodX (x : Lnk) : Prop := GoodT x.1 ∧ (∀ f ∈ x.2.2, GoodP f) ∧ x.2.1 = relsL x.2.2
def wtX (x : Lnk) : Nat := x.1.length + wtP x.2.2 + x.2.2.length + 1
theorem tgt_good : ∀ (l t r : List UInt8), tgtL l = some (t, r) → GoodT t ∧ t.length + 1 + r.length = l.length
  | [], t, r, h => by simp [tgtL] at h
  | c :: l, t, r, h => by
    rw [tgtL] at h
    split at h
    · rename_i hv
      split at h
      · injection h with h; injection h with h1 h2; subst h1; subst h2
        exact ⟨(fun f hf => by cases hf), by simp; omega⟩
      · rename_i hc
        cases ht : tgtL l with
        | none => rw [ht] at h; simp at h
        | some y =>
          rw [ht] at h
          simp only [Option.map_some, Option.some.injEq, Prod.mk.injEq] at h
          obtain ⟨rfl, rfl⟩ := h
          obtain ⟨i1, i2⟩ := tgt_good l y.1 y.2 ht
          refine ⟨fun b hb => ?_, by simp only [List.length_cons]; omega⟩
          rcases List.mem_cons.1 hb with rfl | hb
          · exact ⟨hv, hc⟩
          · exact i1 b hb
    · cases h
theorem par_tok {l : List UInt8} (h : (tokL l).isEmpty = false) : tokO l = some (tokL l, tokR l) := by unfold tokO; rw [h]; rfl
theorem param_good {l r : List UInt8} {f : Fld} (h : paramL l = some (f, r)) : GoodP f ∧ f.1.length + f.2.length + r.length ≤ l.length := by
  unfold paramL at h
  split at h
  · cases h
  · rename_i ht
    have ht' := par_tok (by simpa using ht)
    have hl := tokO_len ht'
    have hb := blank_len (tokR l)
    split at h
    · injection h with h; injection h with h1 h2; subst h1; subst h2
      exact ⟨⟨good_word ht', rfl⟩, by simp [lowerL_len]; omega⟩
    · rename_i c t hc
      rw [hc, List.length_cons] at hb
      split at h
      · cases hv : valueL (blankL t) with
        | none => rw [hv] at h; simp at h
        | some y =>
          rw [hv] at h
          simp only [Option.map_some, Option.some.injEq, Prod.mk.injEq] at h
          obtain ⟨rfl, rfl⟩ := h
          have h2 := valueL_len (v := y.1) (r := y.2) hv
          have h3 := blank_len t
          exact ⟨⟨good_word ht', valueL_in (v := y.1) (r := y.2) hv⟩, by simp only [lowerL_len]; omega⟩
      · injection h with h; injection h with h1 h2; subst h1; subst h2
        exact ⟨⟨good_word ht', rfl⟩, by simp [lowerL_len]; omega⟩
theorem pars_good : ∀ (n : Nat) (l r : List UInt8) (fs : List Fld), paramsF n l = some (fs, r) → (∀ f ∈ fs, GoodP f) ∧ wtP fs + fs.length + r.length ≤ l.length
  | 0, _, _, _, h => by simp [paramsF] at h
  | n + 1, l, r, fs, h => by
    have hb := blank_len l
    rw [paramsF] at h
    split at h
    · injection h with h; injection h with h1 h2; subst h1; subst h2
      exact ⟨(fun f hf => by cases hf), by simp [wtP]⟩
    · rename_i c t hc
      rw [hc, List.length_cons] at hb
      split at h
      · split at h
        · cases h
        · rename_i f r0 hp
          cases hm : paramsF n r0 with
          | none => rw [hm] at h; simp at h
          | some y =>
            rw [hm] at h
            simp only [Option.map_some, Option.some.injEq, Prod.mk.injEq] at h
            obtain ⟨rfl, rfl⟩ := h
            obtain ⟨i1, i2⟩ := pars_good n r0 y.2 y.1 hm
            obtain ⟨g1, g2⟩ := param_good hp
            have h3 := blank_len t
            refine ⟨fun x hx => ?_, ?_⟩
            · rcases List.mem_cons.1 hx with rfl | hx
              · exact g1
              · exact i1 x hx
            · simp only [wtP, List.map_cons, List.sum_cons, List.length_cons] at i2 ⊢; omega
      · injection h with h; injection h with h1 h2; subst h1; subst h2
        exact ⟨(fun f hf => by cases hf), by simp [wtP]; omega⟩
theorem link_good {l r : List UInt8} {x : Lnk} (h : linkL l = some (x, r)) : GoodX x ∧ wtX x + r.length ≤ l.length := by
  unfold linkL at h
  split at h
  · cases h
  · rename_i t r0 ht
    obtain ⟨g1, g2⟩ := tgt_good _ _ _ ht
    cases hm : paramsF (r0.length + 1) r0 with
    | none => rw [hm] at h; simp at h
    | some y =>
      rw [hm] at h
      simp only [Option.map_some, Option.some.injEq, Prod.mk.injEq] at h
      obtain ⟨rfl, rfl⟩ := h
      obtain ⟨i1, i2⟩ := pars_good _ r0 y.2 y.1 hm
      exact ⟨⟨g1, i1, rfl⟩, by simp only [wtX]; omega⟩
theorem wl_good : ∀ (n k : Nat) (l : List UInt8) (xs : List Lnk), wlF n k l = .ok xs → (∀ x ∈ xs, GoodX x) ∧ (xs.map wtX).sum + xs.length ≤ l.length ∧ (xs = [] ∨ xs.length + k ≤ 64)
  | 0, _, _, _, h => by simp [wlF] at h
  | n + 1, k, l, xs, h => by
    have hb := blank_len l
    rw [wlF] at h
    split at h
    · injection h with h; subst h; exact ⟨(fun f hf => by cases hf), by simp, .inl rfl⟩
    · rename_i c t hc
      rw [hc, List.length_cons] at hb
      split at h
      · obtain ⟨i1, i2, i3⟩ := wl_good n k t xs h
        exact ⟨i1, by omega, i3⟩
      · split at h
        · split at h
          · cases h
          · rename_i h64
            split at h
            · cases h
            · rename_i x hL
              injection h with h; subst h
              obtain ⟨g1, g2⟩ := link_good hL
              refine ⟨fun y hy => ?_, by simp; simp at g2; omega, .inr (by simp; omega)⟩
              rcases List.mem_cons.1 hy with rfl | hy
              · exact g1
              · cases hy
            · rename_i x d r hL
              obtain ⟨g1, g2⟩ := link_good hL
              split at h
              · cases hm : wlF n (k + 1) r with
                | error e => rw [hm] at h; cases h
                | ok ys =>
                  rw [hm] at h
                  injection h with h; subst h
                  obtain ⟨i1, i2, i3⟩ := wl_good n (k + 1) r ys hm
                  simp only [List.length_cons] at g2
                  refine ⟨fun y hy => ?_, by simp only [List.map_cons, List.sum_cons, List.length_cons]; omega, .inr ?_⟩
                  · rcases List.mem_cons.1 hy with rfl | hy
                    · exact g1
                    · exact i1 y hy
                  · rcases i3 with rfl | i3
                    · simp; omega
                    · simp only [List.length_cons]; omega
              · cases h
        · cases h
theorem tgt_back : ∀ (t r : List UInt8), GoodT t → tgtL (t ++ 62 :: r) = some (t, r)
  | [], r, _ => by
    show tgtL (62 :: r) = _
    rw [tgtL, if_pos (by decide), if_pos (by decide)]
  | c :: t, r, h => by
    obtain ⟨h1, h2⟩ := h c (by simp)
    show tgtL (c :: (t ++ 62 :: r)) = _
    rw [tgtL, if_pos h1, if_neg h2, tgt_back t r (fun b hb => h b (by simp [hb]))]; rfl
/-- what may stand behind a parameter: nothing, ';' or ',' -/
def stopP (r : List UInt8) : Prop := ∀ c t, r = c :: t → c.toNat = 59 ∨ c.toNat = 44
theorem stopP_tok {r : List UInt8} (h : stopP r) : stopT r := fun c t e => by
  rcases h c t e with h | h <;> rw [h] <;> decide
theorem stopP_blank {r : List UInt8} (h : stopP r) : blankL r = r := by
  cases r with
  | nil => rfl
  | cons c t =>
    unfold blankL
    rw [List.dropWhile_cons, if_neg]
    rcases h c t rfl with h | h <;> rw [h] <;> decide
theorem tokP_split {v r : List UInt8} (hv : allB tokenN v = true) (hn : v.isEmpty = false) (hr : stopT r) : tokL (v ++ r) = v ∧ tokR (v ++ r) = r := by
  have h := tokO_app hv hn hr
  unfold tokO at h
  split at h
  · cases h
  · simp only [Option.some.injEq, Prod.mk.injEq] at h; exact h
theorem param_back {f : Fld} {r : List UInt8} (hf : GoodP f) (hr : stopP r) : paramL (f.1 ++ ((if f.2.isEmpty then [] else 61 :: writeL f.2) ++ r)) = some (f, r) := by
  obtain ⟨⟨g1, g2, g3⟩, g4⟩ := hf
  by_cases he : f.2.isEmpty = true
  · rw [if_pos he, List.nil_append]
    obtain ⟨t1, t2⟩ := tokP_split g1 g2 (stopP_tok hr)
    have e2 : f.2 = [] := by simpa using he
    have e3 : ((f.1, []) : Fld) = f := by rw [← e2]
    unfold paramL
    rw [t1, t2, if_neg (by rw [g2]; simp), stopP_blank hr, g3]
    cases r with
    | nil => simp only [e3]
    | cons c t =>
      simp only
      rw [if_neg (by rcases hr c t rfl with h | h <;> omega), e3]
  · rw [if_neg he]
    show paramL (f.1 ++ 61 :: (writeL f.2 ++ r)) = _
    obtain ⟨t1, t2⟩ := tokP_split g1 g2 (stop_61 (writeL f.2 ++ r))
    have hb : blankL (writeL f.2 ++ r) = writeL f.2 ++ r := by
      unfold writeL
      split
      · rename_i ht
        unfold tokB at ht
        rw [Bool.and_eq_true] at ht
        exact blank_tok ht.1 (by simpa using ht.2)
      · rfl
    have hb1 : blankL (61 :: (writeL f.2 ++ r)) = 61 :: (writeL f.2 ++ r) := rfl
    unfold paramL
    rw [t1, t2, if_neg (by rw [g2]; simp), hb1]
    simp only
    rw [if_pos (by decide), hb, value_back g4 (stopP_tok hr), g3]; rfl
theorem stop_parsW (fs : List Fld) {r : List UInt8} (hr : stopP r) : stopP (parsW fs ++ r) := by
  cases fs with
  | nil => exact hr
  | cons f gs =>
    intro c t h
    have e : parsW (f :: gs) ++ r = 59 :: (32 :: (f.1 ++ if f.2.isEmpty then [] else 61 :: writeL f.2) ++ (parsW gs ++ r)) := by simp [parsW, parW]
    rw [e] at h
    injection h with h1 _
    subst h1; exact .inl (by decide)
theorem params_back : ∀ (fs : List Fld) (n : Nat) (r : List UInt8), (∀ f ∈ fs, GoodP f) → (∀ c t, r = c :: t → c.toNat = 44) → fs.length < n → paramsF n (parsW fs ++ r) = some (fs, r)
  | [], n, r, _, hr, hn => by
    obtain ⟨n, rfl⟩ : ∃ k, n = k + 1 := ⟨n - 1, by simp at hn; omega⟩
    show paramsF (n + 1) r = _
    rw [paramsF, stopP_blank (fun c t e => .inr (hr c t e))]
    cases r with
    | nil => rfl
    | cons c t =>
      simp only
      rw [if_neg (by have := hr c t rfl; omega)]
  | f :: fs, n, r, h, hr, hn => by
    obtain ⟨n, rfl⟩ : ∃ k, n = k + 1 := ⟨n - 1, by simp at hn; omega⟩
    have ih := params_back fs n r (fun x hx => h x (by simp [hx])) hr (by simp at hn; omega)
    have hf := h f (by simp)
    have hs : stopP (parsW fs ++ r) := stop_parsW fs fun c t e => .inr (hr c t e)
    have e : parsW (f :: fs) ++ r = 59 :: (32 :: (f.1 ++ ((if f.2.isEmpty then [] else 61 :: writeL f.2) ++ (parsW fs ++ r)))) := by simp [parsW, parW]
    have hb : blankL (32 :: (f.1 ++ ((if f.2.isEmpty then [] else 61 :: writeL f.2) ++ (parsW fs ++ r)))) = f.1 ++ ((if f.2.isEmpty then [] else 61 :: writeL f.2) ++ (parsW fs ++ r)) := by
      show blankL (f.1 ++ _) = _
      exact blank_tok hf.1.1 hf.1.2.1
    have hbl : ∀ t : List UInt8, blankL (59 :: t) = 59 :: t := fun t => rfl
    rw [e, paramsF, hbl]
    simp only
    rw [if_pos (by decide), hb, param_back hf hs]
    simp only
    rw [ih]; rfl
theorem parsW_num (fs : List Fld) : fs.length ≤ (parsW fs).length := by
  induction fs with
  | nil => simp
  | cons f t ih =>
    have e : parsW (f :: t) = parW f ++ parsW t := by simp [parsW]
    rw [e, List.length_append]
    simp only [parW, List.length_cons]; omega
theorem link_back {x : Lnk} {r : List UInt8} (hx : GoodX x) (hr : ∀ c t, r = c :: t → c.toNat = 44) : linkL (x.1 ++ 62 :: (parsW x.2.2 ++ r)) = some (x, r) := by
  obtain ⟨h1, h2, h3⟩ := hx
  have hn : x.2.2.length < (parsW x.2.2 ++ r).length + 1 := by
    have := parsW_num x.2.2
    rw [List.length_append]; omega
  unfold linkL
  rw [tgt_back _ _ h1]
  simp only
  rw [params_back _ _ r h2 hr hn]
  simp only [Option.map_some, ← h3]
theorem stop_fmtT (t : List Lnk) : ∀ c u, fmtT t = c :: u → c.toNat = 44 := fun c u h => by
  cases t with
  | nil => cases h
  | cons x t => injection h with h1 _; subst h1; decide
theorem fmtWL_blank (l : List Lnk) : blankL (fmtWL l) = fmtWL l := by
  cases l <;> rfl
theorem wl_back : ∀ (l : List Lnk) (n k : Nat) (m : List UInt8), (∀ x ∈ l, GoodX x) → (l = [] ∨ l.length + k ≤ 64) → l.length < n → blankL m = fmtWL l → wlF n k m = .ok l
  | [], n, k, m, _, _, hn, hm => by
    obtain ⟨n, rfl⟩ : ∃ k, n = k + 1 := ⟨n - 1, by simp at hn; omega⟩
    rw [wlF, hm]; rfl
  | x :: t, n, k, m, hg, hk, hn, hm => by
    obtain ⟨n, rfl⟩ : ∃ k, n = k + 1 := ⟨n - 1, by simp at hn; omega⟩
    have hk' : (x :: t).length + k ≤ 64 := by
      rcases hk with hk | hk
      · cases hk
      · exact hk
    simp only [List.length_cons] at hk' hn
    have hL := link_back (hg x (by simp)) (stop_fmtT t)
    have e : fmtWL (x :: t) = 60 :: (x.1 ++ 62 :: (parsW x.2.2 ++ fmtT t)) := by simp [fmtWL, lnkL]
    rw [wlF, hm, e]
    simp only
    rw [if_neg (by decide), if_pos (by decide), if_neg (by omega), hL]
    cases t with
    | nil => rfl
    | cons y t =>
      have ih := wl_back (y :: t) n (k + 1) (32 :: fmtWL (y :: t)) (fun z hz => hg z (by simp [hz])) (.inr (by simp only [List.length_cons] at *; omega)) (by simp only [List.length_cons] at *; omega) (by
        show blankL (fmtWL (y :: t)) = _
        exact fmtWL_blank _)
      have e2 : fmtT (y :: t) = 44 :: (32 :: fmtWL (y :: t)) := rfl
      rw [e2]
      simp only
      rw [if_pos (by decide), ih]; rfl
theorem parsW_len (fs : List Fld) : (parsW fs).length ≤ 2 * wtP fs + 5 * fs.length := by
  induction fs with
  | nil => simp [parsW]
  | cons f t ih =>
    have h3 := writeL_len f.2
    have e : parsW (f :: t) = parW f ++ parsW t := by simp [parsW]
    rw [e, List.length_append]
    have h4 : (if f.2.isEmpty = true then ([] : List UInt8) else 61 :: writeL f.2).length ≤ 2 * f.2.length + 3 := by
      split
      · simp
      · simp only [List.length_cons]; omega
    simp only [parW, List.length_cons, List.length_append, wtP, List.map_cons, List.sum_cons] at *
    omega
theorem lnkL_len (x : Lnk) : (lnkL x).length ≤ 5 * wtX x := by
  have := parsW_len x.2.2
  simp only [lnkL, wtX, List.length_cons, List.length_append]; omega
theorem fmtT_len (l : List Lnk) : (fmtT l).length ≤ 5 * (l.map wtX).sum + 2 * l.length := by
  induction l with
  | nil => simp [fmtT]
  | cons x t ih =>
    have := lnkL_len x
    simp only [fmtT, List.length_cons, List.length_append, List.map_cons, List.sum_cons]; omega
theorem fmtWL_len (l : List Lnk) : (fmtWL l).length ≤ 5 * (l.map wtX).sum + 2 * l.length := by
  cases l with
  | nil => simp [fmtWL]
  | cons x t =>
    have := lnkL_len x
    have := fmtT_len t
    simp only [fmtWL, List.length_cons, List.length_append, List.map_cons, List.sum_cons]; omega
theorem fmtWL_num (l : List Lnk) : l.length ≤ (fmtWL l).length := by
  have h : ∀ t : List Lnk, t.length ≤ (fmtT t).length := by
    intro t
    induction t with
    | nil => simp
    | cons x t ih => simp only [fmtT, List.length_cons, List.length_append]; omega
  cases l with
  | nil => simp
  | cons x t =>
    have := h t
    simp only [fmtWL, lnkL, List.length_cons, List.length_append]; omega
/-- THE LAW -/
theorem links_back {n : Nat} {s : List UInt8} {l : List Lnk} (h : wlF n 0 s = .ok l) {m : Nat} (hm : (fmtWL l).length < m) : wlF m 0 (fmtWL l) = .ok l := by
  obtain ⟨h1, _, h3⟩ := wl_good _ _ _ _ h
  have := fmtWL_num l
  exact wl_back l m 0 _ h1 h3 (by omega) (fmtWL_blank l)
end Go.Proofs.YtaopehogpdgkgaaGreat
