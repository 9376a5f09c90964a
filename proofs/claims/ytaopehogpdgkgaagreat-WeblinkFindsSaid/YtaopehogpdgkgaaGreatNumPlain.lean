/- Numbers in plain functions: no program in sight. -/
import Derived.Test.YtaopehogpdgkgaaGreatPlain
namespace Go.Proofs.YtaopehogpdgkgaaGreat

def hexV (n : Nat) : Nat := if n ≤ 57 then n - 48 else if n ≤ 70 then n - 55 else n - 87
theorem hexV_le {n : Nat} (h : hexN n = true) : hexV n ≤ 15 := by
  simp only [hexN, digitN, Bool.or_eq_true, Bool.and_eq_true, decide_eq_true_eq] at h
  unfold hexV; split
  · omega
  · split <;> omega
theorem digit_hex {n : Nat} (h : digitN n = true) : hexN n = true := by simp [hexN, h]
/-- the number of digits, unless it passes most -/
def foldV (base most : Nat) : Nat → List UInt8 → Option Nat
  | n, [] => some n
  | n, b :: t => if most < n * base + hexV b.toNat then none else foldV base most (n * base + hexV b.toNat) t
/-- what parse answers: the number and the error -/
def parseL (p : Nat → Bool) (base most : Nat) (l : List UInt8) : Nat × Nat :=
  if l = [] then (0, 3) else if allB p l = false then (0, 1) else match foldV base most 0 l with
    | none => (0, 4)
    | some n => (n, 0)
/-- what Strict answers -/
def strictL (most : Nat) (l : List UInt8) : Nat × Nat :=
  if digitsL l && decide (1 < l.length) && l.headD 0 == 48 then (0, 6) else parseL digitN 10 most l

section
variable {s : ByteArray} {k n base most : Nat} {X : Option Nat}
theorem fold_over (hk : k < s.size) (h : most < n * base + hexV s[k].toNat) (H : foldV base most n (s.data.toList.drop k) = X) : X = none := by
  rw [← H, drop_cons s k hk]; simp [foldV, h]
theorem fold_step (hk : k < s.size) (h : ¬ most < n * base + hexV s[k].toNat) (H : foldV base most n (s.data.toList.drop k) = X) : foldV base most (n * base + hexV s[k].toNat) (s.data.toList.drop (k + 1)) = X := by
  rw [← H]; conv => rhs; rw [drop_cons s k hk]
  simp [foldV, h]
theorem fold_end (hk : ¬ k < s.size) (H : foldV base most n (s.data.toList.drop k) = X) : X = some n := by
  rw [← H, drop_end s k hk]; rfl
theorem all_at {p : Nat → Bool} (h : allB p s.data.toList = true) (hk : k < s.size) : p s[k].toNat = true := by
  have hm : s.data.toList[k]'hk ∈ s.data.toList := List.getElem_mem hk
  exact List.all_eq_true.1 h _ hm
end
theorem parse_empty {p : Nat → Bool} {base most : Nat} {s : ByteArray} (h : s.toList = []) : parseL p base most s.data.toList = (0, 3) := by
  rw [← ByteArray.toList_eq, h]; rfl
theorem parse_char {p : Nat → Bool} {base most : Nat} {s : ByteArray} (h : ¬ s.toList = []) (ha : allB p s.data.toList = false) : parseL p base most s.data.toList = (0, 1) := by
  unfold parseL; rw [if_neg (by rw [← ByteArray.toList_eq]; exact h), if_pos ha]
theorem parse_none {p : Nat → Bool} {base most : Nat} {s : ByteArray} (h : ¬ s.toList = []) (ha : allB p s.data.toList = true) (hf : foldV base most 0 s.data.toList = none) : parseL p base most s.data.toList = (0, 4) := by
  unfold parseL; rw [if_neg (by rw [← ByteArray.toList_eq]; exact h), if_neg (by simp [ha]), hf]
theorem parse_some {p : Nat → Bool} {base most n : Nat} {s : ByteArray} (h : ¬ s.toList = []) (ha : allB p s.data.toList = true) (hf : foldV base most 0 s.data.toList = some n) : parseL p base most s.data.toList = (n, 0) := by
  unfold parseL; rw [if_neg (by rw [← ByteArray.toList_eq]; exact h), if_neg (by simp [ha]), hf]
/-- sums and differences that do not wrap around -/
def satA (a b : Int) : Int := if 18446744073709551615 < a + b then 18446744073709551615 else a + b
def satS (a b : Int) : Int := if a < b then 0 else a - b

theorem strict_form {s : ByteArray} {most : Nat} (hd : digitsL s.data.toList = true) (h1 : 1 < s.size) (h0 : s[0].toNat = 48) : strictL most s.data.toList = (0, 6) := by
  have e := list_head (t := s) (by omega)
  have hb : s[0] = 48 := by apply UInt8.toNat_inj.1; simpa using h0
  unfold strictL
  rw [if_pos]
  rw [hd, size_toList, e]
  simp [h1, hb]
theorem strict_else {s : ByteArray} {most : Nat} (h : ¬ (digitsL s.data.toList = true ∧ ∃ h1 : 1 < s.size, s[0].toNat = 48)) : strictL most s.data.toList = parseL digitN 10 most s.data.toList := by
  unfold strictL
  rw [if_neg]
  intro hc
  simp only [Bool.and_eq_true, decide_eq_true_eq, beq_iff_eq, size_toList] at hc
  obtain ⟨⟨a, b⟩, c⟩ := hc
  refine h ⟨a, b, ?_⟩
  rw [list_head (t := s) (by omega)] at c
  simp at c
  rw [c]; rfl
theorem parse_kind {most : Nat} {l : List UInt8} (h : digitsL l = true) : (parseL digitN 10 most l).2 = 0 ∨ (parseL digitN 10 most l).2 = 4 := by
  simp only [digitsL, Bool.and_eq_true, Bool.not_eq_true'] at h
  unfold parseL
  rw [if_neg (by intro e; rw [e] at h; simp at h), if_neg (by simp [h.2])]
  cases foldV 10 most 0 l <;> simp
theorem parse_kind' {most : Nat} {l : List UInt8} (h : digitsL l = false) : (parseL digitN 10 most l).2 = 3 ∨ (parseL digitN 10 most l).2 = 1 := by
  unfold parseL
  by_cases e : l = []
  · simp [e]
  · rw [if_neg e]
    have ha : allB digitN l = false := by
      cases l with
      | nil => exact absurd rfl e
      | cons a t => simpa [digitsL] using h
    rw [if_pos ha]; simp
end Go.Proofs.YtaopehogpdgkgaaGreat
