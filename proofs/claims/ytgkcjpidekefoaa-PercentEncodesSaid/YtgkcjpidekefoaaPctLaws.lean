/- Percent-encoding, plain laws: back and once. -/
import Derived.Test.YtgkcjpidekefoaaPctPlain
namespace Go.Proofs.Ytgkcjpidekefoaa
theorem byte_all (p : Nat → Prop) (h : ∀ n : Fin 256, p n) (x : UInt8) : p x.toNat := h ⟨x.toNat, x.toNat_lt⟩
theorem toNat_ofNat {n : Nat} (h : n < 256) : (UInt8.ofNat n).toNat = n := by simp; omega
theorem esc_self (x : UInt8) (t : List UInt8) : escAt (escL x ++ t) = some x := by
  have h : ∀ n : Fin 256, (hexN (hexU (n.val / 16)).toNat && hexN (hexU (n.val % 16)).toNat) = true ∧ 16 * hexV (hexU (n.val / 16)).toNat + hexV (hexU (n.val % 16)).toNat = n.val := by decide +kernel
  obtain ⟨h1, h2⟩ := h ⟨x.toNat, x.toNat_lt⟩
  simp only at h1 h2
  simp only [escL, escAt, List.cons_append, List.nil_append]
  rw [if_pos h1, h2]
  simp
theorem unres_37 {x : UInt8} (h : unresN x.toNat = true) : ¬ x.toNat = 37 := by
  intro h37; rw [h37] at h; revert h; decide
theorem escL_cons (x : UInt8) (t : List UInt8) : escL x ++ t = 37 :: ([hexU (x.toNat / 16), hexU (x.toNat % 16)] ++ t) := rfl
theorem stD_pl {c : UInt8} {t : List UInt8} (h : ¬ c.toNat = 37) : stD (c :: t) = .ok ([c], 0) := by simp only [stD]; rw [if_neg h]
theorem dec_pl {c : UInt8} {t : List UInt8} (h : ¬ c.toNat = 37) : decP (c :: t) = pre [c] (decP t) := run_ok (stD_pl h)
theorem dec_es {c x : UInt8} {t : List UInt8} (h : c.toNat = 37) (hx : escAt (c :: t) = some x) : decP (c :: t) = pre [x] (decP (t.drop 2)) := by
  have hs : stD (c :: t) = .ok ([x], 2) := by simp only [stD]; rw [if_pos h, hx]
  exact run_ok hs
theorem dec_escL (x : UInt8) (t : List UInt8) : decP (escL x ++ t) = pre [x] (decP t) := by
  have h := esc_self x t
  rw [escL_cons] at h ⊢
  rw [dec_es rfl h]; rfl
theorem norm_pl {also : List UInt8} {c : UInt8} {t : List UInt8} (h : ¬ c.toNat = 37) (hu : (unresN c.toNat || memB also c.toNat) = true) : normP also (c :: t) = pre [c] (normP also t) := by
  have hs : stN also (c :: t) = .ok ([c], 0) := by simp only [stN]; rw [if_neg h, if_pos hu]
  exact run_ok hs
theorem norm_es {also : List UInt8} {c x : UInt8} {t : List UInt8} (h : c.toNat = 37) (hx : escAt (c :: t) = some x) : normP also (c :: t) = pre (if unresN x.toNat then [x] else escL x) (normP also (t.drop 2)) := by
  have hs : stN also (c :: t) = .ok (if unresN x.toNat then [x] else escL x, 2) := by simp only [stN]; rw [if_pos h, hx]
  exact run_ok hs
theorem norm_escL {also : List UInt8} {x : UInt8} {t : List UInt8} (hu : unresN x.toNat = false) : normP also (escL x ++ t) = pre (escL x) (normP also t) := by
  have h := esc_self x t
  rw [escL_cons] at h ⊢
  rw [norm_es rfl h, hu]; rfl
def encC (keep : List UInt8) (c : UInt8) : List UInt8 := if unresN c.toNat || (c.toNat != 37 && memB keep c.toNat) then [c] else escL c
def encL (keep l : List UInt8) : List UInt8 := l.flatMap (encC keep)
theorem enc_ok (keep : List UInt8) : ∀ l, encP keep l = .ok (encL keep l)
  | [] => rfl
  | c :: t => by
    have h : stE keep (c :: t) = .ok (encC keep c, 0) := by simp only [stE, encC]; split <;> rfl
    unfold encP
    rw [run_ok h, show runL (stE keep) (t.drop 0) = encP keep t from rfl, enc_ok keep t]; simp [pre, encL]
theorem encC_len (keep : List UInt8) (c : UInt8) : (encC keep c).length ≤ 3 := by unfold encC; split <;> simp [escL]
theorem encL_len (keep : List UInt8) : ∀ l, (encL keep l).length ≤ 3 * l.length
  | [] => by simp [encL]
  | c :: t => by
    have := encL_len keep t; have := encC_len keep c
    unfold encL at *
    simp only [List.flatMap_cons, List.length_append, List.length_cons]; omega
theorem dec_enc (keep : List UInt8) : ∀ l, decP (encL keep l) = .ok l
  | [] => rfl
  | c :: t => by
    have ih := dec_enc keep t
    unfold encL at *
    rw [List.flatMap_cons]
    unfold encC at *
    split
    · next h =>
      have h37 : ¬ c.toNat = 37 := by
        intro h37; rw [h37] at h; simp at h; revert h; decide
      rw [List.cons_append, List.nil_append, dec_pl h37, ih]; rfl
    · rw [dec_escL, ih]; rfl
theorem norm_enc : ∀ l, normP [] (encL [] l) = .ok (encL [] l)
  | [] => rfl
  | c :: t => by
    have ih := norm_enc t
    unfold encL at *
    rw [List.flatMap_cons]
    unfold encC at *
    by_cases hu : unresN c.toNat = true
    · rw [if_pos (by rw [hu]; rfl), List.cons_append, List.nil_append, norm_pl (unres_37 hu) (by rw [hu]; rfl), ih]; rfl
    · have hu' : unresN c.toNat = false := by simpa using hu
      rw [if_neg (by rw [hu']; simp [memB]), norm_escL hu', ih]; rfl
theorem pre_inv {a : List UInt8} {x : Except Nat (List UInt8)} {r : List UInt8} (h : pre a x = .ok r) : ∃ r', x = .ok r' ∧ r = a ++ r' := by
  cases x with
  | error e => cases h
  | ok r' => exact ⟨r', rfl, by injection h with h; exact h.symm⟩
theorem once_n (also : List UInt8) : ∀ (n : Nat) (l r : List UInt8), l.length ≤ n → normP also l = .ok r → normP also r = .ok r ∧ (∃ d, decP l = .ok d ∧ decP r = .ok d) ∧ r.length ≤ l.length
  | _, [], r, _, h => by
    obtain rfl : [] = r := by injection h
    exact ⟨rfl, ⟨[], rfl, rfl⟩, Nat.le_refl _⟩
  | 0, _ :: _, _, hl, _ => by simp at hl
  | n + 1, c :: t, r, hl, h => by
    simp only [List.length_cons] at hl
    by_cases h37 : c.toNat = 37
    · cases hx : escAt (c :: t) with
      | none =>
        have : normP also (c :: t) = .error 2 := run_err (by simp only [stN]; rw [if_pos h37, hx])
        rw [this] at h; cases h
      | some x =>
        rw [norm_es h37 hx] at h
        obtain ⟨r', hr, rfl⟩ := pre_inv h
        have h3 := esc_len hx
        simp only [List.length_cons] at h3
        obtain ⟨i1, ⟨d, i2, i3⟩, i4⟩ := once_n also n (t.drop 2) r' (by rw [List.length_drop]; omega) hr
        rw [List.length_drop] at i4
        by_cases hu : unresN x.toNat = true
        · rw [if_pos hu]
          refine ⟨?_, ⟨x :: d, ?_, ?_⟩, ?_⟩
          · rw [List.cons_append, List.nil_append, norm_pl (unres_37 hu) (by rw [hu]; rfl), i1]; rfl
          · rw [dec_es h37 hx, i2]; rfl
          · rw [List.cons_append, List.nil_append, dec_pl (unres_37 hu), i3]; rfl
          · simp only [List.length_append, List.length_cons, List.length_nil]; omega
        · have hu' : unresN x.toNat = false := by simpa using hu
          rw [if_neg hu]
          refine ⟨?_, ⟨x :: d, ?_, ?_⟩, ?_⟩
          · rw [norm_escL hu', i1]; rfl
          · rw [dec_es h37 hx, i2]; rfl
          · rw [dec_escL, i3]; rfl
          · simp only [List.length_append, List.length_cons, escL, List.length_nil]; omega
    · by_cases hu : (unresN c.toNat || memB also c.toNat) = true
      · rw [norm_pl h37 hu] at h
        obtain ⟨r', hr, rfl⟩ := pre_inv h
        obtain ⟨i1, ⟨d, i2, i3⟩, i4⟩ := once_n also n t r' (by omega) hr
        refine ⟨?_, ⟨c :: d, ?_, ?_⟩, ?_⟩
        · rw [List.cons_append, List.nil_append, norm_pl h37 hu, i1]; rfl
        · rw [dec_pl h37, i2]; rfl
        · rw [List.cons_append, List.nil_append, dec_pl h37, i3]; rfl
        · simp only [List.length_append, List.length_cons, List.length_nil]; omega
      · have : normP also (c :: t) = .error 1 := run_err (by simp only [stN]; rw [if_neg h37, if_neg hu])
        rw [this] at h; cases h
theorem once (also l r : List UInt8) (h : normP also l = .ok r) : normP also r = .ok r ∧ (∃ d, decP l = .ok d ∧ decP r = .ok d) ∧ r.length ≤ l.length := once_n also l.length l r (Nat.le_refl _) h
theorem norm_err5 (also : List UInt8) : ∀ (n : Nat) (l : List UInt8) (e : Nat), l.length ≤ n → normP also l = .error e → 0 < e ∧ e < 3
  | _, [], _, _, h => by cases h
  | 0, _ :: _, _, hl, _ => by simp at hl
  | n + 1, c :: t, e, hl, h => by
    simp only [List.length_cons] at hl
    cases hs : stN also (c :: t) with
    | error e' =>
      have := run_err hs
      rw [show runL (stN also) (c :: t) = normP also (c :: t) from rfl, h] at this
      injection this with this
      subst this
      simp only [stN] at hs
      split at hs
      · split at hs
        · injection hs with hs; omega
        · cases hs
      · split at hs
        · cases hs
        · injection hs with hs; omega
    | ok o =>
      obtain ⟨o, m⟩ := o
      have := run_ok hs
      rw [show runL (stN also) (c :: t) = normP also (c :: t) from rfl, h] at this
      cases hr : runL (stN also) (t.drop m) with
      | error e' =>
        rw [hr] at this
        have h2 : e = e' := by injection this
        subst h2
        exact norm_err5 also n (t.drop m) e (by rw [List.length_drop]; omega) hr
      | ok r => rw [hr] at this; cases this
end Go.Proofs.Ytgkcjpidekefoaa
