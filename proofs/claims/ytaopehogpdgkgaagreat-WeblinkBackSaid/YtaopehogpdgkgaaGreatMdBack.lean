/- A media type that was read is read again from its text (plain law, chapter 20). -/
import Derived.Test.YtaopehogpdgkgaaGreatMdBound
namespace Go.Proofs.YtaopehogpdgkgaaGreat
open Go.RowKit
theorem tok_facts {n : Nat} (hn : n < 256) (h : tokenN n = true) : inVN n = true ∧ blankN n = false ∧ n ≠ 34 ∧ n ≠ 47 ∧ n ≠ 59 ∧ n ≠ 61 := by
  have : ∀ m : Fin 256, tokenN m.val = true → (inVN m.val = true ∧ blankN m.val = false ∧ m.val ≠ 34 ∧ m.val ≠ 47 ∧ m.val ≠ 59 ∧ m.val ≠ 61) := by decide +kernel
  exact this ⟨n, hn⟩ h
theorem tokM_low {b : UInt8} (h : tokenN b.toNat = true) : tokenN (lowerB b).toNat = true := by
  have : ∀ m : Fin 256, tokenN m.val = true → tokenN (lowerB (UInt8.ofNat m.val)).toNat = true := by decide +kernel
  have h2 := this ⟨b.toNat, b.toNat_lt⟩ h
  simpa using h2
theorem tokL_tok : ∀ l : List UInt8, allB tokenN (tokL l) = true
  | [] => rfl
  | c :: l => by
    have ih := tokL_tok l
    unfold tokL at *
    by_cases h : tokenN c.toNat = true
    · rw [List.takeWhile_cons, if_pos h]; unfold allB at *; rw [List.all_cons, h, ih]; rfl
    · rw [List.takeWhile_cons, if_neg h]; rfl
theorem low_tok {l : List UInt8} (h : allB tokenN l = true) : allB tokenN (lowerL l) = true := by
  unfold allB lowerL at *
  rw [List.all_eq_true] at *
  intro b hb
  obtain ⟨a, ha, rfl⟩ := List.mem_map.1 hb
  exact tokM_low (h a ha)
/-- a word that was read: a token in small letters -/
def GoodW (l : List UInt8) : Prop := allB tokenN l = true ∧ l.isEmpty = false ∧ lowerL l = l
def GoodP (f : Fld) : Prop := GoodW f.1 ∧ allB inVN f.2 = true
theorem good_word {l v r : List UInt8} (h : tokO l = some (v, r)) : GoodW (lowerL v) := by
  obtain ⟨h1, rfl, rfl⟩ := tokO_some h
  refine ⟨low_tok (tokL_tok l), ?_, lower_lower _⟩
  cases hv : tokL l with
  | nil => rw [hv] at h1; simp at h1
  | cons a t => simp [lowerL]
theorem quoL_in : ∀ (n : Nat) (l v r : List UInt8), l.length ≤ n → quoL l = some (v, r) → allB inVN v = true
  | _, [], v, r, _, h => by simp [quoL] at h
  | 0, c :: t, _, _, hn, _ => by simp at hn
  | n + 1, c :: t, v, r, hn, h => by
    rw [quoL_cons] at h
    split at h
    · injection h with h; injection h with h1 h2; subst h1; rfl
    · split at h
      · cases t with
        | nil => simp at h
        | cons d t2 =>
          simp only at h
          split at h
          · rename_i hin
            cases hq : quoL t2 with
            | none => rw [hq] at h; simp at h
            | some y =>
              rw [hq] at h
              simp only [Option.map_some, Option.some.injEq, Prod.mk.injEq] at h
              have := quoL_in n t2 y.1 y.2 (by simp at hn; omega) hq
              rw [← h.1]; unfold allB at *; rw [List.all_cons, hin, this]; rfl
          · cases h
      · split at h
        · rename_i hin
          cases hq : quoL t with
          | none => rw [hq] at h; simp at h
          | some y =>
            rw [hq] at h
            simp only [Option.map_some, Option.some.injEq, Prod.mk.injEq] at h
            have := quoL_in n t y.1 y.2 (by simp at hn; omega) hq
            rw [← h.1]; unfold allB at *; rw [List.all_cons, hin, this]; rfl
        · cases h
theorem tok_in {l : List UInt8} (h : allB tokenN l = true) : allB inVN l = true := by
  unfold allB at *
  rw [List.all_eq_true] at *
  exact fun b hb => (tok_facts b.toNat_lt (h b hb)).1
theorem valueL_in {l v r : List UInt8} (h : valueL l = some (v, r)) : allB inVN v = true := by
  have tk : ∀ l v r, tokO l = some (v, r) → allB inVN v = true := fun l v r h => by
    obtain ⟨_, rfl, _⟩ := tokO_some h
    exact tok_in (tokL_tok l)
  unfold valueL at h
  split at h
  · cases h
  · rename_i c t
    split at h
    · exact quoL_in t.length t v r (Nat.le_refl _) h
    · exact tk _ _ _ h
theorem mpar_good {l r : List UInt8} {f : Fld} (h : mpar l = some (f, r)) : GoodP f := by
  unfold mpar at h
  split at h
  · cases h
  · rename_i nm r0 ht
    cases r0 with
    | nil => simp at h
    | cons c t =>
      simp only at h
      split at h
      · cases hv : valueL t with
        | none => rw [hv] at h; simp at h
        | some y =>
          rw [hv] at h
          simp only [Option.map_some, Option.some.injEq, Prod.mk.injEq] at h
          rw [← h.1]
          exact ⟨good_word ht, valueL_in (v := y.1) (r := y.2) hv⟩
      · cases h
def wtP (fs : List Fld) : Nat := (fs.map fun f => f.1.length + f.2.length).sum
theorem mpars_good : ∀ (n : Nat) (l : List UInt8) (fs : List Fld), mparsF n l = some fs → (∀ f ∈ fs, GoodP f) ∧ wtP fs + fs.length ≤ l.length
  | 0, _, _, h => by simp [mparsF] at h
  | n + 1, l, fs, h => by
    have hb := blank_len l
    rw [mparsF] at h
    split at h
    · injection h with h; subst h; exact ⟨(fun f hf => by cases hf), by simp [wtP]⟩
    · rename_i c t hc
      rw [hc] at hb
      split at h
      · split at h
        · cases h
        · rename_i f r hp
          cases hm : mparsF n r with
          | none => rw [hm] at h; simp at h
          | some gs =>
            rw [hm] at h
            simp only [Option.map_some, Option.some.injEq] at h
            subst h
            obtain ⟨i1, i2⟩ := mpars_good n r gs hm
            have hl := mpar_len hp
            simp only [List.length_cons] at hb
            refine ⟨fun x hx => ?_, ?_⟩
            · rcases List.mem_cons.1 hx with rfl | hx
              · exact mpar_good hp
              · exact i1 x hx
            · simp only [wtP, List.map_cons, List.sum_cons, List.length_cons] at i2 ⊢; omega
      · cases h
theorem media_good {l a b : List UInt8} {fs : List Fld} (h : mediaL l = some (a, b, fs)) : GoodW a ∧ GoodW b ∧ (∀ f ∈ fs, GoodP f) ∧ a.length + b.length + wtP fs + fs.length ≤ l.length := by
  unfold mediaL at h
  split at h
  · cases h
  · rename_i a b r hm
    cases hf : mparsF (l.length + 1) r with
    | none => rw [hf] at h; simp at h
    | some fs =>
      rw [hf] at h
      simp only [Option.map_some, Option.some.injEq, Prod.mk.injEq] at h
      obtain ⟨rfl, rfl, rfl⟩ := h
      have hb := blank_len l
      obtain ⟨i1, i2⟩ := mpars_good _ _ _ hf
      unfold mtype at hm
      split at hm
      · cases hm
      · rename_i nm r0 ht
        have h1 := tokO_len ht
        cases r0 with
        | nil => simp at hm
        | cons c t =>
          simp only at hm
          split at hm
          · cases hv : tokO t with
            | none => rw [hv] at hm; simp at hm
            | some y =>
              rw [hv] at hm
              simp only [Option.map_some, Option.some.injEq, Prod.mk.injEq] at hm
              have h2 := tokO_len (v := y.1) (r := y.2) hv
              obtain ⟨rfl, rfl, rfl⟩ := hm
              simp only [lowerL_len, List.length_cons] at *
              exact ⟨good_word ht, good_word (v := y.1) (r := y.2) hv, i1, by omega⟩
          · cases hm
/-- a list at which a token ends -/
def stopT (r : List UInt8) : Prop := ∀ c t, r = c :: t → tokenN c.toNat = false
theorem tokO_app {v r : List UInt8} (hv : allB tokenN v = true) (hn : v.isEmpty = false) (hr : stopT r) : tokO (v ++ r) = some (v, r) := by
  have key : ∀ v : List UInt8, allB tokenN v = true → tokL (v ++ r) = v ∧ tokR (v ++ r) = r := by
    intro v
    induction v with
    | nil =>
      intro _
      cases r with
      | nil => exact ⟨rfl, rfl⟩
      | cons c t =>
        have := hr c t rfl
        unfold tokL tokR
        rw [List.nil_append, List.takeWhile_cons, List.dropWhile_cons, if_neg (by rw [this]; simp), if_neg (by rw [this]; simp)]
        exact ⟨rfl, rfl⟩
    | cons c v ih =>
      intro h
      unfold allB at h
      rw [List.all_cons, Bool.and_eq_true] at h
      obtain ⟨i1, i2⟩ := ih h.2
      unfold tokL tokR at *
      rw [List.cons_append, List.takeWhile_cons, List.dropWhile_cons, if_pos h.1, if_pos h.1, i1, i2]
      exact ⟨rfl, rfl⟩
  obtain ⟨k1, k2⟩ := key v hv
  unfold tokO
  rw [k1, k2, hn]; rfl
theorem blank_tok {v r : List UInt8} (hv : allB tokenN v = true) (hn : v.isEmpty = false) : blankL (v ++ r) = v ++ r := by
  cases v with
  | nil => simp at hn
  | cons c v =>
    unfold allB at hv
    rw [List.all_cons, Bool.and_eq_true] at hv
    have := (tok_facts c.toNat_lt hv.1).2.1
    unfold blankL
    rw [List.cons_append, List.dropWhile_cons, if_neg (by rw [this]; simp)]
theorem quoL_back : ∀ (v r : List UInt8), allB inVN v = true → quoL (quoteL v ++ 34 :: r) = some (v, r)
  | [], r, _ => by
    show quoL (34 :: r) = _
    rw [quoL_cons, if_pos (by decide)]
  | c :: v, r, h => by
    unfold allB at h
    rw [List.all_cons, Bool.and_eq_true] at h
    have ih := quoL_back v r h.2
    have e : quoteL (c :: v) = (if c.toNat = 34 ∨ c.toNat = 92 then [92, c] else [c]) ++ quoteL v := by simp [quoteL]
    rw [e]
    by_cases hc : c.toNat = 34 ∨ c.toNat = 92
    · rw [if_pos hc]
      show quoL (92 :: c :: (quoteL v ++ 34 :: r)) = _
      rw [quoL_cons, if_neg (by decide), if_pos (by decide)]
      simp only
      rw [if_pos h.1, ih]; rfl
    · rw [if_neg hc]
      show quoL (c :: (quoteL v ++ 34 :: r)) = _
      rw [quoL_cons, if_neg (by omega), if_neg (by omega), if_pos h.1, ih]; rfl
theorem value_back {v r : List UInt8} (hv : allB inVN v = true) (hr : stopT r) : valueL (writeL v ++ r) = some (v, r) := by
  unfold writeL
  by_cases ht : tokB v = true
  · rw [if_pos ht]
    unfold tokB at ht
    rw [Bool.and_eq_true] at ht
    have hn : v.isEmpty = false := by simpa using ht.2
    have h := tokO_app ht.1 hn hr
    cases v with
    | nil => simp at hn
    | cons c t =>
      have hc := ht.1
      unfold allB at hc
      rw [List.all_cons, Bool.and_eq_true] at hc
      have h34 := (tok_facts c.toNat_lt hc.1).2.2.1
      rw [List.cons_append] at h ⊢
      unfold valueL
      simp only
      rw [if_neg h34, h]
  · rw [if_neg ht]
    show valueL (34 :: ((quoteL v ++ [34]) ++ r)) = _
    unfold valueL
    simp only
    rw [if_pos (by decide), List.append_assoc]
    exact quoL_back v r hv
theorem stop_pars (fs : List Fld) : stopT (parsL fs) := by
  intro c t h
  cases fs with
  | nil => simp [parsL] at h
  | cons f gs =>
    have e : parsL (f :: gs) = 59 :: (32 :: (f.1 ++ 61 :: writeL f.2) ++ parsL gs) := by simp [parsL, parL]
    rw [e] at h
    injection h with h1 _
    subst h1; decide
theorem stop_61 (t : List UInt8) : stopT (61 :: t) := by
  intro c u h; injection h with h1 _; subst h1; decide
theorem stop_47 (t : List UInt8) : stopT (47 :: t) := by
  intro c u h; injection h with h1 _; subst h1; decide
theorem mpars_back : ∀ (fs : List Fld) (n : Nat), (∀ f ∈ fs, GoodP f) → fs.length < n → mparsF n (parsL fs) = some fs
  | [], n, _, hn => by
    obtain ⟨n, rfl⟩ : ∃ k, n = k + 1 := ⟨n - 1, by simp at hn; omega⟩
    rfl
  | f :: fs, n, h, hn => by
    obtain ⟨n, rfl⟩ : ∃ k, n = k + 1 := ⟨n - 1, by simp at hn; omega⟩
    have ih := mpars_back fs n (fun x hx => h x (by simp [hx])) (by simp at hn; omega)
    obtain ⟨⟨g1, g2, g3⟩, g4⟩ := h f (by simp)
    have e : parsL (f :: fs) = 59 :: (32 :: (f.1 ++ 61 :: (writeL f.2 ++ parsL fs))) := by simp [parsL, parL]
    have hp : mpar (32 :: (f.1 ++ 61 :: (writeL f.2 ++ parsL fs))) = some (f, parsL fs) := by
      have hb : blankL (32 :: (f.1 ++ 61 :: (writeL f.2 ++ parsL fs))) = f.1 ++ 61 :: (writeL f.2 ++ parsL fs) := by
        rw [← blank_tok (r := 61 :: (writeL f.2 ++ parsL fs)) g1 g2]
        conv => lhs; rw [show blankL (32 :: blankL (f.1 ++ 61 :: (writeL f.2 ++ parsL fs))) = blankL (blankL (f.1 ++ 61 :: (writeL f.2 ++ parsL fs))) from rfl]
        exact blank_blank _
      unfold mpar
      rw [hb]
      simp only [tokO_app g1 g2 (stop_61 _)]
      rw [if_pos (by decide), value_back g4 (stop_pars fs), g3]; rfl
    rw [mparsF, e]
    have hbl : blankL (59 :: (32 :: (f.1 ++ 61 :: (writeL f.2 ++ parsL fs)))) = 59 :: (32 :: (f.1 ++ 61 :: (writeL f.2 ++ parsL fs))) := rfl
    rw [hbl]
    simp only
    rw [if_pos (by decide), hp]
    simp only
    rw [ih]; rfl
theorem fmtM_len (a b : List UInt8) (fs : List Fld) : (fmtML a b fs).length ≤ a.length + b.length + 1 + 2 * wtP fs + 5 * fs.length := by
  unfold fmtML
  have h : ∀ fs : List Fld, (parsL fs).length ≤ 2 * wtP fs + 5 * fs.length := by
    intro fs
    induction fs with
    | nil => simp [parsL]
    | cons f t ih =>
      have h3 := writeL_len f.2
      have e : parsL (f :: t) = parL f ++ parsL t := by simp [parsL]
      rw [e, List.length_append]
      simp only [parL, List.length_cons, List.length_append, wtP, List.map_cons, List.sum_cons] at *
      omega
  have := h fs
  simp only [List.length_append, List.length_cons]
  omega
theorem pars_num (fs : List Fld) : fs.length ≤ (parsL fs).length := by
  induction fs with
  | nil => simp
  | cons f t ih =>
    have e : parsL (f :: t) = parL f ++ parsL t := by simp [parsL]
    rw [e, List.length_append]
    simp only [parL, List.length_cons]; omega
/-- THE LAW -/
theorem media_back {l a b : List UInt8} {fs : List Fld} (h : mediaL l = some (a, b, fs)) : mediaL (fmtML a b fs) = some (a, b, fs) := by
  obtain ⟨⟨a1, a2, a3⟩, ⟨b1, b2, b3⟩, hf, _⟩ := media_good h
  have e : fmtML a b fs = a ++ 47 :: (b ++ parsL fs) := by simp [fmtML]
  have hl : fs.length < (fmtML a b fs).length + 1 := by
    have := pars_num fs
    rw [e]; simp only [List.length_append, List.length_cons]; omega
  unfold mediaL
  have hm : mtype (fmtML a b fs) = some (a, b, parsL fs) := by
    unfold mtype
    rw [e, blank_tok a1 a2]
    simp only [tokO_app a1 a2 (stop_47 _)]
    rw [if_pos (by decide), tokO_app b1 b2 (stop_pars fs), a3]
    simp only [Option.map_some, b3]
  rw [hm]
  simp only
  rw [mpars_back fs _ hf hl]; rfl
end Go.Proofs.YtaopehogpdgkgaaGreat
