/- What the data of a media type that came in weigh. -/
import Derived.Test.YtaopehogpdgkgaaGreatOpenHead
namespace Go.Proofs.YtaopehogpdgkgaaGreat
open Go.ChangeShapes Go.WideShapes Go.Deep Go.RowKit
set_option maxRecDepth 100000 in
theorem media_weights {H : Type} {B : Nat} {a b d : DataW H} (h : ((.agg [a, b, d] : DataW H).weights Tryz.prog 25).all (· ≤ B) = true) : (d.weights Tryz.prog 23).all (· ≤ B) = true := by
  rw [DataW.weights, Tryz.underlying25] at h
  exact weights_at (ts := [9, 9, 23]) (j := 2) h rfl rfl
set_option maxRecDepth 100000 in
theorem media_strs {H : Type} {a b : List UInt8} {d : DataW H} (h : ((.agg [.lit (.string a), .lit (.string b), d] : DataW H).weights Tryz.prog 25).all (· ≤ reachBytes) = true) : a.length ≤ 140737488351232 ∧ b.length ≤ 140737488351232 := by
  rw [DataW.weights, Tryz.underlying25] at h
  have h0 := weights_at (ts := [9, 9, 23]) (j := 0) h rfl rfl
  have h1 := weights_at (ts := [9, 9, 23]) (j := 1) h rfl rfl
  simp only [DataW.weights, List.all_cons, List.all_nil, Bool.and_true, decide_eq_true_eq] at h0 h1
  exact ⟨Nat.le_trans h0 (by decide), Nat.le_trans h1 (by decide)⟩
end Go.Proofs.YtaopehogpdgkgaaGreat
