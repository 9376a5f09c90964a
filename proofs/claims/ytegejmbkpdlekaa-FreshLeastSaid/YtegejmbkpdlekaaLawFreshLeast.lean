/- The statement FreshLeast holds: for all three values the law returns true. -/
import Derived.Test.YtegejmbkpdlekaaRows
import Derived.WalkKit
import Derived.WalkSpells
import Derived.WalkLawsBesides
import Derived.ProofKit
import Derived.OpenShut
import Derived.ShutString
import Derived.ChangeOld
import Derived.Below
import Derived.Lib.SmallJoins
import Derived.Carry

import Derived.Test.YtegejmbkpdlekaaWalkFreshLeast
namespace Go.Proofs.Ytegejmbkpdlekaa.freshLeast
open Go.ChangeShapes Go.WideShapes Go.ChangeAt Go.RowKit
open Go.ChangeMaps (open_string shut_string)
set_option linter.unusedVariables false


set_option maxRecDepth 100000 in
theorem lifted (os : Os) (started : os.Started) (H : Type) (enc : TypeId × Value → H) :
    ReturnsInHanded {} Try.checked os 5 .any (Rows.freshLeastSpec.pre6 enc Try.prog Try.f5 Rows.freshLeastRow.domain false) (Rows.freshLeastSpec.post enc Try.prog Try.f5 false true false false) := by
  refine returnsInHanded_of_change (C := Try.checked) own started (by kernel_rfl) Try.func5
    (ChangeSpec.witness6 (enc := enc) (C := Try.checked) false ⟨#[], #[.agg #[.bool false, .int .u64 0], .agg #[.bool false, .int .u64 0], .agg #[.bool false, .int .u64 0]], []⟩ 8 (by kernel_rfl) (by kernel_rfl) (by kernel_rfl) (by kernel_rfl)) ?_
  intro W base args ds gs before hval0 hW hcnd _
  have hval : ∀ (j : Nat) t v, Try.f5.params[j]? = some t → args[j]? = some v → Value.okWide Try.prog W .any base t v := hval0
  have hW' := hW
  obtain ⟨p, q, hA0, hV, rfl, hfz, hnd⟩ := hW
  have hA : DataW.TrodAll enc Try.prog W 0 (fun _ => true) true Try.f5.params.toList args.toList ds p := hA0
  rw [Try.params5] at hA hval
  obtain ⟨v0, vs0, d0, ds0, p0, q0, hargs, rfl, rfl, h0, r0⟩ := trodAll_cons hA
  obtain ⟨v1, vs1, d1, ds1, p1, q1, rfl, rfl, rfl, h1, r1⟩ := trodAll_cons r0
  obtain ⟨v2, vs2, d2, ds2, p2, q2, rfl, rfl, rfl, h2, r2⟩ := trodAll_cons r1
  obtain ⟨rfl, rfl, rfl⟩ := trodAll_nil r2
  obtain rfl : args = #[v0, v1, v2] := by cases args; simp_all
  obtain ⟨rfl, rfl⟩ := trodVars_none hV
  obtain ⟨c0, c1, y0, y1, m, rfl, rfl, rfl, hy0, hy1⟩ := Go.Joins.open_agg2 Try.underlying33 (by kernel_rfl) (by kernel_rfl) (hval 0 33 v0 rfl rfl) h0
  obtain ⟨a0, e0, rfl⟩ := DataW.trod_bool Try.underlying4 hy0
  obtain ⟨x0, e1, rfl, wx0⟩ := DataW.trod_int Try.underlying31 hy1
  simp at e0 e1
  subst e0 e1
  clear hy0 hy1 m
  obtain ⟨c0, c1, y0, y1, m, rfl, rfl, rfl, hy0, hy1⟩ := Go.Joins.open_agg2 Try.underlying33 (by kernel_rfl) (by kernel_rfl) (hval 1 33 v1 rfl rfl) h1
  obtain ⟨a1, e0, rfl⟩ := DataW.trod_bool Try.underlying4 hy0
  obtain ⟨x1, e1, rfl, wx1⟩ := DataW.trod_int Try.underlying31 hy1
  simp at e0 e1
  subst e0 e1
  clear hy0 hy1 m
  obtain ⟨c0, c1, y0, y1, m, rfl, rfl, rfl, hy0, hy1⟩ := Go.Joins.open_agg2 Try.underlying33 (by kernel_rfl) (by kernel_rfl) (hval 2 33 v2 rfl rfl) h2
  obtain ⟨a2, e0, rfl⟩ := DataW.trod_bool Try.underlying4 hy0
  obtain ⟨x2, e1, rfl, wx2⟩ := DataW.trod_int Try.underlying31 hy1
  simp at e0 e1
  subst e0 e1
  clear hy0 hy1 m
  clear hA0 hval0
  simp only [List.append_nil] at hW'
  refine (walk a0 x0 a1 x1 a2 x2 W).mono fun e W' ⟨he, bel⟩ => ?_
  subst he
  exact ⟨_, rfl, _, _, _, [], _, [], hW', trodAll_mk1 (shut_bool Try.underlying4 _), (trodAll_cons_mk (Go.Joins.shut_agg2 (y0 := (.lit (.bool a0), [])) (y1 := (.lit (.int .u64 x0), [])) Try.underlying33 (by kernel_rfl) (by kernel_rfl) (shut_bool Try.underlying4 a0) (shut_int Try.underlying31 wx0)) (trodAll_cons_mk (Go.Joins.shut_agg2 (y0 := (.lit (.bool a1), [])) (y1 := (.lit (.int .u64 x1), [])) Try.underlying33 (by kernel_rfl) (by kernel_rfl) (shut_bool Try.underlying4 a1) (shut_int Try.underlying31 wx1)) (trodAll_cons_mk (Go.Joins.shut_agg2 (y0 := (.lit (.bool a2), [])) (y1 := (.lit (.int .u64 x2), [])) Try.underlying33 (by kernel_rfl) (by kernel_rfl) (shut_bool Try.underlying4 a2) (shut_int Try.underlying31 wx2)) trodAll_mk0))), rfl, bel.frame _, fun h => by cases h⟩

theorem over : Rows.freshLeastRow.holds Try.pinned (OpenSpec.ofChange Rows.freshLeastSpec) :=
  OpenClaim.holds_of_wide 5 Try.f5 rfl rfl rfl rfl rfl rfl rfl ⟨rfl, rfl, rfl, rfl, rfl⟩ rfl rfl rfl rfl rfl (by kernel_rfl) Try.func5 (by kernel_rfl)
    (of_decide_eq_true (by kernel_rfl)) (by unfold Func.isWrapper; first | (rw [if_pos (by decide +kernel)]; kernel_rfl) | (rw [if_neg (by decide +kernel)]; exact ⟨rfl, rfl⟩))
    (fun os started H enc _ => lifted os started H enc)

/-- THE STATEMENT -/
theorem proved : Rows.FreshLeastSaid := over
end Go.Proofs.Ytegejmbkpdlekaa.freshLeast
