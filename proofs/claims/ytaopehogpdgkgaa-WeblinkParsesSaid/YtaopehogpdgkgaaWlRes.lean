/- What the two Parse answer, in parts. -/
import Derived.Test.YtaopehogpdgkgaaSane22
namespace Go.Proofs.Ytaopehogpdgkgaa
open Go.RowKit
/-- error code and links -/
def wlParts (X : Except Nat (List Lnk)) : Nat × List Lnk := match X with | .ok l => (0, l) | .error c => (c, [])
theorem wr_parts {w w' : World} {X : Except Nat (List Lnk)} {e : Ending} (h : WR w w' X e) : ∃ (c : Nat) (l : List Lnk) (v : Value), e = .returned (.tuple #[v, .int .i64 (c : Int)]) ∧ wlParts X = (c, l) ∧ (RdLinks w' v l ∧ few l) := by
  rcases h with ⟨c, rfl, rfl⟩ | ⟨l, v, rfl, rfl, hL⟩
  · exact ⟨c, [], _, rfl, rfl, RdLinks.nil _, by unfold few; exact ⟨by simp, fun x hx => by cases hx⟩⟩
  · exact ⟨0, l, v, rfl, rfl, RdLinks.of_links hL, few_links hL⟩
theorem wl_same {X : Except Nat (List Lnk)} {c c' : Nat} {l l' : List Lnk} (h : wlParts X = (c, l)) (h' : wlParts X = (c', l')) : c = c' ∧ l = l' := by
  rw [h] at h'; injection h' with h1 h2; exact ⟨h1, h2⟩
end Go.Proofs.Ytaopehogpdgkgaa
