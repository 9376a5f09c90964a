/- The statement FreshLeast holds: for all three values the law returns true. The walk. -/
import Derived.Test.YtegejmbkpdlekaaRows
import Derived.WalkKit
import Derived.WalkSpells
import Derived.WalkLawsBesides
import Derived.ProofKit
import Derived.OpenShut
import Derived.ShutString
import Derived.ChangeOld
import Derived.Below
import Derived.Deep.RegionHeld3
import Derived.Test.YtegejmbkpdlekaaFLeast
namespace Go.Proofs.Ytegejmbkpdlekaa.freshLeast
open Go.ChangeShapes Go.WideShapes Go.ChangeAt Go.RowKit
open Go.ChangeMaps (open_string shut_string)
set_option linter.unusedVariables false

theorem own : ownKnob Try.prog.godebug = none := by kernel_rfl

set_option maxRecDepth 100000 in
set_option maxHeartbeats 4000000 in
theorem walk (a : Bool) (x : Int) (b : Bool) (y : Int) (c : Bool) (z : Int) (w : World) :
    Calls Try.prog 5 #[.agg #[.bool a, .int .u64 x], .agg #[.bool b, .int .u64 y], .agg #[.bool c, .int .u64 z]] w fun e w' => e = .returned (.bool true) ∧ Below w.heap.size w w' := by
  obtain ⟨p, p', p3, q, q', q3, h1, h2, h3, h4, h5, h6⟩ := least_facts a b c x y z
  have H1 := Lib.hid h1
  have H2 := Lib.hid h2
  have H3 := Lib.hid h3
  have H4 := Lib.hid h4
  have H5 := Lib.hid h5
  have H6 := Lib.hid h6
  clear h1 h2 h3 h4 h5 h6
  have hB : Below w.heap.size w (((w.alloc (.cells #[.bool a, .int .u64 x] 33)).alloc (.cells #[.bool b, .int .u64 y] 33)).alloc (.cells #[.bool c, .int .u64 z] 33)) := (((Below.refl _ w).alloc (Nat.le_refl _) _).alloc (by simp) _).alloc (by simp; omega) _
  have q0 : (((w.alloc (.cells #[.bool a, .int .u64 x] 33)).alloc (.cells #[.bool b, .int .u64 y] 33)).alloc (.cells #[.bool c, .int .u64 z] 33)).heap[w.heap.size]? = some (.cells #[.bool a, .int .u64 x] 33 (0, 0)) :=
    (Below.heap_alloc _ _ _ (by simp; omega)).trans ((Below.heap_alloc _ _ _ (by simp)).trans (heap_alloc_new w _))
  have q1 : (((w.alloc (.cells #[.bool a, .int .u64 x] 33)).alloc (.cells #[.bool b, .int .u64 y] 33)).alloc (.cells #[.bool c, .int .u64 z] 33)).heap[w.heap.size + 1]? = some (.cells #[.bool b, .int .u64 y] 33 (0, 0)) :=
    (Below.heap_alloc _ _ _ (by simp)).trans (by have := heap_alloc_new (w.alloc (.cells #[.bool a, .int .u64 x] 33)) (.cells #[.bool b, .int .u64 y] 33); simpa using this)
  have q2 : (((w.alloc (.cells #[.bool a, .int .u64 x] 33)).alloc (.cells #[.bool b, .int .u64 y] 33)).alloc (.cells #[.bool c, .int .u64 z] 33)).heap[w.heap.size + 1 + 1]? = some (.cells #[.bool c, .int .u64 z] 33 (0, 0)) := by
    have := heap_alloc_new ((w.alloc (.cells #[.bool a, .int .u64 x] 33)).alloc (.cells #[.bool b, .int .u64 y] 33)) (.cells #[.bool c, .int .u64 z] 33); simpa using this
  go_enter Try.func5, Try.ntmps5
  go_wp2_with fail
  generalize ((w.alloc (.cells #[.bool a, .int .u64 x] 33)).alloc (.cells #[.bool b, .int .u64 y] 33)).alloc (.cells #[.bool c, .int .u64 z] 33) = W0 at *
  obtain ⟨a0, a1, _, _⟩ := cells2 q0
  obtain ⟨b0, b1, _, _⟩ := cells2 q1
  obtain ⟨c0, c1, _, _⟩ := cells2 q2
  have hl0 := heap_lt q0
  have hl1 := heap_lt q1
  have hl2 := heap_lt q2
  clear q0 q1 q2
  have hW : Below W0.heap.size W0 W0 := Below.refl _ _
  have HKP := Lib.hid (show ∀ W, Below W0.heap.size W0 W → W.cell? ⟨w.heap.size, 0, none⟩ = some (.bool a) ∧ W.cell? ⟨w.heap.size, 1, none⟩ = some (.int .u64 x) ∧ W.cell? ⟨w.heap.size + 1, 0, none⟩ = some (.bool b) ∧ W.cell? ⟨w.heap.size + 1, 1, none⟩ = some (.int .u64 y) ∧
      W.cell? ⟨w.heap.size + 1 + 1, 0, none⟩ = some (.bool c) ∧ W.cell? ⟨w.heap.size + 1 + 1, 1, none⟩ = some (.int .u64 z) ∧ Below W0.heap.size W0 W from
    fun W h => ⟨(h.cell (p := ⟨w.heap.size, 0, none⟩) hl0).trans a0, (h.cell (p := ⟨w.heap.size, 1, none⟩) hl0).trans a1, (h.cell (p := ⟨w.heap.size + 1, 0, none⟩) hl1).trans b0, (h.cell (p := ⟨w.heap.size + 1, 1, none⟩) hl1).trans b1,
      (h.cell (p := ⟨w.heap.size + 1 + 1, 0, none⟩) hl2).trans c0, (h.cell (p := ⟨w.heap.size + 1 + 1, 1, none⟩) hl2).trans c1, h⟩)
  clear hl0 hl1 hl2
  go_region_held3 (fun W => W.cell? ⟨w.heap.size, 0, none⟩ = some (.bool a) ∧ W.cell? ⟨w.heap.size, 1, none⟩ = some (.int .u64 x) ∧ W.cell? ⟨w.heap.size + 1, 0, none⟩ = some (.bool b) ∧ W.cell? ⟨w.heap.size + 1, 1, none⟩ = some (.int .u64 y) ∧ W.cell? ⟨w.heap.size + 1 + 1, 0, none⟩ = some (.bool c) ∧ W.cell? ⟨w.heap.size + 1 + 1, 1, none⟩ = some (.int .u64 z) ∧ Below W0.heap.size W0 W) (first | exact HKP.out _ (by assumption) | exact HKP.out _ (below_drewS (by assumption))) (first | (go_at_call 11; (with_reducible refine (sane21_c _).mono ?_); rintro e w' ⟨rfl, hb⟩; have hbb := below_then (held_last (by assumption)) hb rfl) | (go_at_call 19; first | ((with_reducible refine (H1.out _).mono ?_); rintro e w' ⟨rfl, hb⟩; have hbb := below_then (held_last (by assumption)) hb rfl) | ((with_reducible refine (H3.out _).mono ?_); rintro e w' ⟨rfl, hb⟩; have hbb := below_then (held_last (by assumption)) hb rfl) | ((with_reducible refine (H4.out _).mono ?_); rintro e w' ⟨rfl, hb⟩; have hbb := below_then (held_last (by assumption)) hb rfl) | ((with_reducible refine (H5.out _).mono ?_); rintro e w' ⟨rfl, hb⟩; have hbb := below_then (held_last (by assumption)) hb rfl) | ((with_reducible refine (H6.out _).mono ?_); rintro e w' ⟨rfl, hb⟩; have hbb := below_then (held_last (by assumption)) hb rfl)) | (go_at_call 20; (with_reducible refine (H2.out _).mono ?_); rintro e w' ⟨rfl, hb⟩; have hbb := below_then (held_last (by assumption)) hb rfl))
  go_wp2_with fail
  go_ret
  exact ⟨rfl, held_below hB (by assumption)⟩
end Go.Proofs.Ytegejmbkpdlekaa.freshLeast
