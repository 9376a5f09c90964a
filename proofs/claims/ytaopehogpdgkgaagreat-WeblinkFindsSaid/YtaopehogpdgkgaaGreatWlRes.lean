/- What the two Parse answer, in parts. -/
import Derived.Test.YtaopehogpdgkgaaGreatSane22
namespace Go.Proofs.YtaopehogpdgkgaaGreat
open Go.RowKit
/-- error code and links -/
def wlParts (X : Except Nat (List Lnk)) : Nat × List Lnk := match X with | .ok l => (0, l) | .error c => (c, [])
theorem wr_parts {w w' : World} {X : Except Nat (List Lnk)} {e : Ending} (h : WR w w' X e) : ∃ (c : Nat) (l : List Lnk) (v : Value), e = .returned (.tuple #[v, .int .i64 (c : Int)]) ∧ wlParts X = (c, l) ∧ (RdLinks w' v l ∧ few l) := by
  rcases h with ⟨c, rfl, rfl⟩ | ⟨l, v, rfl, rfl, hL⟩
  · exact ⟨c, [], _, rfl, rfl, RdLinks.nil _, by unfold few; exact ⟨by simp, fun x hx => by cases hx⟩⟩
  · exact ⟨0, l, v, rfl, rfl, RdLinks.of_links hL, few_links hL⟩
theorem wl_same {X : Except Nat (List Lnk)} {c c' : Nat} {l l' : List Lnk} (h : wlParts X = (c, l)) (h' : wlParts X = (c', l')) : c = c' ∧ l = l' := by
  rw [h] at h'; injection h' with h1 h2; exact ⟨h1, h2⟩
/-- the text of WeblinkMany: k links -/
def repL : Nat → List UInt8
  | 0 => []
  | k + 1 => repL k ++ [60, 120, 62, 59, 97, 44]
def lnk0 : Lnk := ([120], [], [([97], [])])
theorem repL_len (k : Nat) : (repL k).length = 6 * k := by
  induction k with
  | zero => rfl
  | succ k ih => simp [repL, ih]; omega
theorem rep_snoc (k : Nat) : Value.string (S (repL k) ++ ⟨#[60, 120, 62, 59, 97, 44]⟩) = .string (S (repL (k + 1))) := by
  congr 1
theorem many_all : ∀ q : Fin 5, (wlParts (wlF ((S (repL (62 + q.val))).size + 1) 0 (S (repL (62 + q.val))).data.toList)).1 = (if 2 < q.val then 161 else 0) ∧
    (wlParts (wlF ((S (repL (62 + q.val))).size + 1) 0 (S (repL (62 + q.val))).data.toList)).2.length = (if 2 < q.val then 0 else 62 + q.val) := by decide +kernel
end Go.Proofs.YtaopehogpdgkgaaGreat
