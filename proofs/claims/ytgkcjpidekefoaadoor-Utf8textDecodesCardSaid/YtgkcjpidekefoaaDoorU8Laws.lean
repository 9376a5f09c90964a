/- Plain laws of UTF-8: what is decoded is encoded with the same bytes; valid strings join. No program in sight. -/
import Derived.Test.YtgkcjpidekefoaaDoorU8Plain
namespace Go.Proofs.YtgkcjpidekefoaaDoor

theorem encL_len (r : Nat) : 1 ≤ (encL r).length ∧ (encL r).length ≤ 4 := by
  unfold encL; split
  · simp
  · split
    · simp
    · split <;> simp
theorem good_len {p : List UInt8} (h : goodL p = true) : 1 ≤ p.length ∧ p.length ≤ 4 := by
  simp only [goodL, Bool.and_eq_true, beq_iff_eq] at h
  have := encL_len (valL p)
  rw [h.2] at this; exact this
theorem dec_good {p : List UInt8} (h : goodL p = true) (t : List UInt8) : decL (p ++ t) = some (valL p, p.length) := by
  have hl := good_len h
  match p, h, hl with
  | [a], h, _ =>
    rw [good1] at h; simp only [decide_eq_true_eq] at h
    simp [decL, valL, h]
  | [a, b], h, _ =>
    rw [good2] at h; simp only [Bool.and_eq_true, decide_eq_true_eq] at h
    obtain ⟨⟨h1, h2⟩, h3, h4⟩ := h
    have e1 : ¬ a.toNat < 128 := by omega
    have e2 : ¬ a.toNat < 192 := by omega
    simp [decL, valL, e1, e2, h2, h3, h4]
  | [a, b, c], h, _ =>
    rw [good3] at h; simp only [Bool.and_eq_true, decide_eq_true_eq] at h
    obtain ⟨⟨h1, h2⟩, ⟨⟨h3, h4⟩, h5⟩, h6⟩ := h
    have e1 : ¬ a.toNat < 128 := by omega
    have e2 : ¬ a.toNat < 192 := by omega
    have e3 : ¬ a.toNat < 224 := by omega
    simp [decL, valL, e1, e2, e3, h2, h3, h4, h5, h6]
  | [a, b, c, d], h, _ =>
    rw [good4] at h; simp only [Bool.and_eq_true, decide_eq_true_eq] at h
    obtain ⟨⟨h1, h2⟩, ⟨⟨⟨h3, h4⟩, h5⟩, h6⟩, h7⟩ := h
    have e1 : ¬ a.toNat < 128 := by omega
    have e2 : ¬ a.toNat < 192 := by omega
    have e3 : ¬ a.toNat < 224 := by omega
    have e4 : ¬ a.toNat < 240 := by omega
    simp [decL, valL, e1, e2, e3, e4, h2, h3, h4, h5, h6, h7]
  | a :: b :: c :: d :: e :: t', _, hl => simp at hl
theorem refF_inv : ∀ (f : Nat) (l : List UInt8) (m r n : Nat), refF f l m = some (r, n) → m ≤ n ∧ n ≤ l.length ∧ goodL (l.take n) = true ∧ valL (l.take n) = r
  | 0, _, _, _, _, h => by simp [refF] at h
  | f + 1, l, m, r, n, h => by
    simp only [refF] at h
    split at h
    · split at h
      · simp only [Option.some.injEq, Prod.mk.injEq] at h
        obtain ⟨h1, rfl⟩ := h
        exact ⟨Nat.le_refl _, by assumption, by assumption, h1⟩
      · have := refF_inv f l (m + 1) r n h
        exact ⟨by omega, this.2⟩
    · cases h
theorem dec_inv {l : List UInt8} {r n : Nat} (h : decL l = some (r, n)) : 1 ≤ n ∧ n ≤ l.length ∧ goodL (l.take n) = true ∧ valL (l.take n) = r := by
  rw [← ref_dec] at h; exact refF_inv 4 l 1 r n h
theorem dec_app {a : List UInt8} {r n : Nat} (h : decL a = some (r, n)) (b : List UInt8) : decL (a ++ b) = some (r, n) := by
  obtain ⟨h1, h2, h3, h4⟩ := dec_inv h
  have e := dec_good h3 (a.drop n ++ b)
  rw [← List.append_assoc, List.take_append_drop] at e
  rw [e, h4, List.length_take, Nat.min_eq_left h2]
theorem dec_enc {l : List UInt8} {r n : Nat} (h : decL l = some (r, n)) : pointN r = true ∧ encL r = l.take n := by
  obtain ⟨_, _, h3, h4⟩ := dec_inv h
  simp only [goodL, Bool.and_eq_true, beq_iff_eq, h4] at h3
  exact h3
theorem val_enc {r : Nat} (h : pointN r = true) : valL (encL r) = r := by
  simp only [pointN, Bool.and_eq_true, Bool.or_eq_true, decide_eq_true_eq] at h
  unfold encL
  split
  · simp only [valL]; rw [B_toNat (by omega)]
  · split
    · simp only [valL, low6]; rw [B_toNat (by omega), B_toNat (by omega)]; omega
    · split
      · simp only [valL, low6]; rw [B_toNat (by omega), B_toNat (by omega), B_toNat (by omega)]; omega
      · simp only [valL, low6]; rw [B_toNat (by omega), B_toNat (by omega), B_toNat (by omega), B_toNat (by omega)]; omega
theorem enc_dec {r : Nat} (h : pointN r = true) (t : List UInt8) : decL (encL r ++ t) = some (r, (encL r).length) := by
  have hg : goodL (encL r) = true := by simp [goodL, val_enc h, h]
  rw [dec_good hg, val_enc h]

/-- how many code points a list has -/
def cntF : Nat → List UInt8 → Option Nat
  | _, [] => some 0
  | 0, _ :: _ => none
  | f + 1, a :: l => match decL (a :: l) with
    | none => none
    | some (_, n) => (cntF f ((a :: l).drop n)).map (· + 1)
def countL (l : List UInt8) : Option Nat := cntF l.length l
theorem cnt_fuel : ∀ (f : Nat) (l : List UInt8), l.length ≤ f → cntF f l = countL l
  | f, [], _ => by cases f <;> rfl
  | 0, _ :: _, h => by simp at h
  | f + 1, a :: l, h => by
    simp only [countL, List.length_cons, cntF]
    cases hd : decL (a :: l) with
    | none => rfl
    | some x =>
      obtain ⟨r, n⟩ := x
      obtain ⟨h1, h2, _⟩ := dec_inv hd
      simp only
      have hl : ((a :: l).drop n).length ≤ l.length := by rw [List.length_drop]; simp; omega
      rw [cnt_fuel f _ (by simp at h; omega), cnt_fuel l.length _ hl]
  termination_by f => f
theorem count_step {l : List UInt8} {r n : Nat} (h : decL l = some (r, n)) : countL l = (countL (l.drop n)).map (· + 1) := by
  obtain ⟨h1, h2, _⟩ := dec_inv h
  match l, h with
  | [], h => simp [decL] at h
  | a :: l, h =>
    conv => lhs; simp only [countL, List.length_cons, cntF]
    rw [h]
    simp only
    rw [cnt_fuel l.length _ (by rw [List.length_drop]; simp; omega)]
theorem count_none {l : List UInt8} (h : decL l = none) (hl : l ≠ []) : countL l = none := by
  match l, hl with
  | a :: l, _ => simp only [countL, List.length_cons, cntF]; rw [h]
/-- the number, with k more -/
def addC (k : Nat) (o : Option Nat) : Option Nat := o.map (· + k)
theorem addC_zero (o : Option Nat) : addC 0 o = o := by cases o <;> rfl
theorem addC_succ (k : Nat) (o : Option Nat) : addC k (o.map (· + 1)) = addC (k + 1) o := by
  cases o with
  | none => rfl
  | some x => simp [addC]; omega
theorem count_app : ∀ (f : Nat) (a b : List UInt8) (n : Nat), a.length ≤ f → countL a = some n → countL (a ++ b) = addC n (countL b)
  | f, [], b, n, _, h => by
    simp only [countL, List.length_nil, cntF, Option.some.injEq] at h
    subst h; rw [List.nil_append, addC_zero]
  | 0, _ :: _, _, _, hl, _ => by simp at hl
  | f + 1, x :: a, b, n, hl, h => by
    cases hd : decL (x :: a) with
    | none => rw [count_none hd (by simp)] at h; cases h
    | some y =>
      obtain ⟨r, k⟩ := y
      obtain ⟨h1, h2, _⟩ := dec_inv hd
      rw [count_step hd] at h
      obtain ⟨m, hm, rfl⟩ := Option.map_eq_some_iff.1 h
      have ih := count_app f ((x :: a).drop k) b m (by rw [List.length_drop]; simp at hl ⊢; omega) hm
      rw [count_step (dec_app hd b), List.drop_append_of_le_length h2, ih]
      cases countL b <;> simp [addC]; omega
  termination_by f => f
/-- the number of code points as Go answers it -/
def cntI (o : Option Nat) : Int := match o with | none => -1 | some n => n
theorem cntI_neg (o : Option Nat) : decide (0 ≤ cntI o) = o.isSome := by cases o <;> simp [cntI]

theorem cnt_le : ∀ (f : Nat) (l : List UInt8) (n : Nat), cntF f l = some n → n ≤ l.length
  | _, [], n, h => by simp [cntF] at h; omega
  | 0, _ :: _, _, h => by simp [cntF] at h
  | f + 1, a :: l, n, h => by
    simp only [cntF] at h
    cases hd : decL (a :: l) with
    | none => rw [hd] at h; cases h
    | some y =>
      obtain ⟨r, k⟩ := y
      obtain ⟨h1, h2, _⟩ := dec_inv hd
      rw [hd] at h
      obtain ⟨m, hm, rfl⟩ := Option.map_eq_some_iff.1 h
      have := cnt_le f _ m hm
      rw [List.length_drop] at this
      simp at this h2 ⊢; omega
theorem count_le {l : List UInt8} {n : Nat} (h : countL l = some n) : n ≤ l.length := cnt_le _ _ _ h
end Go.Proofs.YtgkcjpidekefoaaDoor
