/- What the two Directives answer, in parts. -/
import Derived.Test.YtegejmbkpdlekaaSane21
namespace Go.Proofs.Ytegejmbkpdlekaa
open Go.RowKit
def drParts (X : Option (List Fld)) : Bool × List Fld := match X with | some l => (true, l) | none => (false, [])
theorem dr_parts {w w' : World} {X : Option (List Fld)} {e : Ending} (h : DR w w' X e) : ∃ (c : Bool) (l : List Fld) (v : Value), e = .returned (.tuple #[v, .bool c]) ∧ drParts X = (c, l) ∧ Rd w' 2 v l.length (fldsV l) ∧ l.length ≤ 9223372036854775807 := by
  rcases h with ⟨rfl, rfl⟩ | ⟨l, v, rfl, rfl, hL⟩
  · exact ⟨false, [], _, rfl, rfl, Rd.nil _ _, by simp⟩
  · exact ⟨true, l, v, rfl, rfl, Rd.of_own hL, own_big hL⟩
theorem dr_same {X : Option (List Fld)} {c c' : Bool} {l l' : List Fld} (h : drParts X = (c, l)) (h' : drParts X = (c', l')) : c = c' ∧ l = l' := by
  rw [h] at h'; injection h' with h1 h2; exact ⟨h1, h2⟩
theorem below_drew {B : Nat} {a w : World} (h : Below B a w) (q : Nat) : Below B a (w.drewN q) := ⟨h.os, h.tape, h.output, h.size, h.block⟩
end Go.Proofs.Ytegejmbkpdlekaa
