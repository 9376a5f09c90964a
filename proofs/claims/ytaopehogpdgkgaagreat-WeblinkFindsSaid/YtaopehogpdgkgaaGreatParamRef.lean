/- Contract of webfingerref22.param. -/
import Derived.Test.YtaopehogpdgkgaaGreatParam
namespace Go.Proofs.YtaopehogpdgkgaaGreat
open Go.RowKit
theorem blank_blank (l : List UInt8) : blankL (blankL l) = blankL l := by
  unfold blankL
  induction l with
  | nil => rfl
  | cons x t ih => by_cases h : blankN x.toNat = true <;> simp [h, ih]
theorem tokO_none {l : List UInt8} (h : tokO l = none) : tokL l = [] := by
  unfold tokO at h
  cases ht : tokL l with
  | nil => rfl
  | cons x t => rw [ht] at h; cases h
theorem tokO_some {l v r : List UInt8} (h : tokO l = some (v, r)) : (tokL l).isEmpty = false ∧ v = tokL l ∧ r = tokR l := by
  unfold tokO at h
  cases ht : tokL l with
  | nil => rw [ht] at h; cases h
  | cons x t => rw [ht] at h; injection h with h; injection h with h1 h2; exact ⟨rfl, h1.symm, h2.symm⟩
/-- what the reference's param answers -/
def RPR (s : ByteArray) (k : Nat) (x : Option (Fld × List UInt8)) (e : Ending) : Prop :=
  (x = none ∧ e = .returned (.tuple #[.agg #[.string ⟨#[]⟩, .string ⟨#[]⟩], .int .i64 0, .bool false])) ∨
  ∃ f r k', x = some (f, r) ∧ k < k' ∧ k' ≤ s.size ∧ blankL (s.data.toList.drop k') = blankL r ∧ e = .returned (.tuple #[fldV f, .int .i64 (k' : Int), .bool true])
end Go.Proofs.YtaopehogpdgkgaaGreat
