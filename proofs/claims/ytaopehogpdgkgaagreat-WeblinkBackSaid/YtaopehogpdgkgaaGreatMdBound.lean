/- How long what was read of a media type is (plain law, chapter 20). -/
import Derived.Test.YtaopehogpdgkgaaGreatMdSane
import Derived.Deep.RegionHeld3
namespace Go.Proofs.YtaopehogpdgkgaaGreat
open Go.RowKit
theorem held_last6 {A1 A2 A3 A4 A5 A6 B : Prop} (h : A1 ∧ A2 ∧ A3 ∧ A4 ∧ A5 ∧ A6 ∧ B) : B := h.2.2.2.2.2.2
theorem held_below6 {A1 A2 A3 A4 A5 A6 : Prop} {w W0 W : World} (hB : Below w.heap.size w W0) (h : A1 ∧ A2 ∧ A3 ∧ A4 ∧ A5 ∧ A6 ∧ Below W0.heap.size W0 W) : Below w.heap.size w W := hB.trans (h.2.2.2.2.2.2.mono hB.size)
theorem tokO_len {l v r : List UInt8} (h : tokO l = some (v, r)) : v.length + r.length = l.length ∧ 0 < v.length := by
  obtain ⟨h1, rfl, rfl⟩ := tokO_some h
  have e : l = tokL l ++ tokR l := (List.takeWhile_append_dropWhile).symm
  have := congrArg List.length e
  rw [List.length_append] at this
  refine ⟨by omega, ?_⟩
  cases ht : tokL l with
  | nil => rw [ht] at h1; simp at h1
  | cons a t => simp
theorem quoL_len : ∀ (n : Nat) (l v r : List UInt8), l.length ≤ n → quoL l = some (v, r) → v.length + r.length ≤ l.length
  | _, [], v, r, _, h => by simp [quoL] at h
  | 0, c :: t, _, _, hn, _ => by simp at hn
  | n + 1, c :: t, v, r, hn, h => by
    rw [quoL_cons] at h
    split at h
    · injection h with h; injection h with h1 h2; subst h1 h2; simp
    · split at h
      · cases t with
        | nil => simp at h
        | cons d t2 =>
          simp only at h
          split at h
          · cases hq : quoL t2 with
            | none => rw [hq] at h; simp at h
            | some y =>
              rw [hq] at h
              simp only [Option.map_some, Option.some.injEq, Prod.mk.injEq] at h
              have := quoL_len n t2 y.1 y.2 (by simp at hn; omega) hq
              rw [← h.1, ← h.2]; simp; omega
          · cases h
      · split at h
        · cases hq : quoL t with
          | none => rw [hq] at h; simp at h
          | some y =>
            rw [hq] at h
            simp only [Option.map_some, Option.some.injEq, Prod.mk.injEq] at h
            have := quoL_len n t y.1 y.2 (by simp at hn; omega) hq
            rw [← h.1, ← h.2]; simp; omega
        · cases h
theorem valueL_len {l v r : List UInt8} (h : valueL l = some (v, r)) : v.length + r.length ≤ l.length := by
  unfold valueL at h
  split at h
  · cases h
  · rename_i c t
    split at h
    · have := quoL_len t.length t v r (Nat.le_refl _) h
      simp; omega
    · have := (tokO_len h).1; omega
theorem mpar_len {l r : List UInt8} {f : Fld} (h : mpar l = some (f, r)) : f.1.length + f.2.length + r.length ≤ l.length := by
  have hb := blank_len l
  unfold mpar at h
  split at h
  · cases h
  · rename_i nm r0 ht
    have h1 := tokO_len ht
    cases r0 with
    | nil => simp at h
    | cons c t =>
      simp only at h
      split at h
      · cases hv : valueL t with
        | none => rw [hv] at h; simp at h
        | some y =>
          rw [hv] at h
          simp only [Option.map_some, Option.some.injEq, Prod.mk.injEq] at h
          have h2 := valueL_len (v := y.1) (r := y.2) hv
          obtain ⟨rfl, rfl⟩ := h
          simp only [lowerL_len, List.length_cons] at *
          omega
      · cases h
theorem mpars_len : ∀ (n : Nat) (l : List UInt8) (fs : List Fld), mparsF n l = some fs → (∀ f ∈ fs, f.1.length + f.2.length ≤ l.length) ∧ fs.length ≤ l.length
  | 0, _, _, h => by simp [mparsF] at h
  | n + 1, l, fs, h => by
    have hb := blank_len l
    rw [mparsF] at h
    split at h
    · injection h with h; subst h; exact ⟨(fun f hf => by cases hf), by simp⟩
    · rename_i c t hc
      rw [hc] at hb
      split at h
      · split at h
        · cases h
        · rename_i f r hp
          cases hm : mparsF n r with
          | none => rw [hm] at h; simp at h
          | some gs =>
            rw [hm] at h
            simp only [Option.map_some, Option.some.injEq] at h
            subst h
            obtain ⟨i1, i2⟩ := mpars_len n r gs hm
            have hl := mpar_len hp
            simp only [List.length_cons] at hb
            refine ⟨fun x hx => ?_, by simp only [List.length_cons]; omega⟩
            rcases List.mem_cons.1 hx with rfl | hx
            · omega
            · have := i1 x hx; omega
      · cases h
theorem media_le {l : List UInt8} {X : MX} (h : mediaL l = X) : ∀ (c : Nat) (a b : List UInt8) (fs : List Fld), mdP X = (c, a, b, fs) → a.length ≤ l.length ∧ b.length ≤ l.length ∧ fs.length ≤ l.length ∧ ∀ f ∈ fs, f.1.length + f.2.length ≤ l.length := by
  intro c a b fs hp
  cases X with
  | none =>
    simp only [mdP, Prod.mk.injEq] at hp
    obtain ⟨_, rfl, rfl, rfl⟩ := hp
    exact ⟨by simp, by simp, by simp, (fun f hf => by cases hf)⟩
  | some y =>
    obtain ⟨a', b', fs'⟩ := y
    simp only [mdP, Prod.mk.injEq] at hp
    obtain ⟨_, rfl, rfl, rfl⟩ := hp
    unfold mediaL at h
    split at h
    · cases h
    · rename_i a b r hm
      cases hf : mparsF (l.length + 1) r with
      | none => rw [hf] at h; simp at h
      | some fs =>
        rw [hf] at h
        simp only [Option.map_some, Option.some.injEq, Prod.mk.injEq] at h
        obtain ⟨rfl, rfl, rfl⟩ := h
        have hb := blank_len l
        unfold mtype at hm
        split at hm
        · cases hm
        · rename_i nm r0 ht
          have h1 := tokO_len ht
          cases r0 with
          | nil => simp at hm
          | cons c t =>
            simp only at hm
            split at hm
            · cases hv : tokO t with
              | none => rw [hv] at hm; simp at hm
              | some y =>
                rw [hv] at hm
                simp only [Option.map_some, Option.some.injEq, Prod.mk.injEq] at hm
                have h2 := tokO_len (v := y.1) (r := y.2) hv
                obtain ⟨rfl, rfl, rfl⟩ := hm
                obtain ⟨i1, i2⟩ := mpars_len _ _ _ hf
                simp only [lowerL_len, List.length_cons] at *
                refine ⟨by omega, by omega, by omega, fun f hf => by have := i1 f hf; omega⟩
            · cases hm
end Go.Proofs.YtaopehogpdgkgaaGreat
