/- The statement HeadGets holds: for every head and every name the law returns true. The walk. -/
import Derived.Test.YtegejmbkpdlekaaRows
import Derived.WalkKit
import Derived.WalkSpells
import Derived.WalkLawsBesides
import Derived.ProofKit
import Derived.OpenShut
import Derived.ShutString
import Derived.ChangeOld
import Derived.Below
import Derived.Test.YtegejmbkpdlekaaHdGets
import Derived.Deep.RegionHeld3
namespace Go.Proofs.Ytegejmbkpdlekaa.headGets
open Go.ChangeShapes Go.WideShapes Go.ChangeAt Go.RowKit
open Go.ChangeMaps (open_string shut_string)
set_option linter.unusedVariables false

theorem own : ownKnob Try.prog.godebug = none := by kernel_rfl

set_option maxRecDepth 100000 in
set_option maxHeartbeats 4000000 in
theorem walk (mi st : Int) (fv : Value) (fs : List Fld) (a1 : ByteArray) (w : World) (ws : (Lit.int .i64 st).wf = true) (h : Rd w 2 fv fs.length (fldsV fs)) (hZ' : ∀ f ∈ fs, f.1.length ≤ 140737488351232 ∧ f.2.length ≤ 140737488351232) (w1 : a1.size ≤ maxLen) (M : Int) (hm : MaxAt M w) :
    Calls Try.prog 9 #[.agg #[.int .i64 mi, .int .i64 st, fv], .string a1] w fun e w' => e = .returned (.bool true) ∧ Below w.heap.size w w' := by
  have hZ := hZ'
  clear hZ'
  unfold maxLen at w1
  obtain ⟨A, c, rfl⟩ := h.slice
  have hB0 : Below w.heap.size w (w.alloc (.cells #[.int .i64 mi, .int .i64 st, .slice A fs.length c] 29)) := (Below.refl _ w).alloc (Nat.le_refl _) _
  have hg0 : (w.alloc (.cells #[.int .i64 mi, .int .i64 st, .slice A fs.length c] 29)).heap[w.heap.size]? = some (.cells #[.int .i64 mi, .int .i64 st, .slice A fs.length c] 29 (0, 0)) := heap_alloc_new w _
  have hR0 := h.later hB0
  have HM := Lib.hid (hm.below hm.lt hB0)
  have HWS := Lib.hid ws
  clear h hm ws
  cases hk : keepB fs with
  | false =>
    go_enter Try.func9, Try.ntmps9
    go_wp2_with fail
    refine (sane18_c M _ HM.out).mono ?_
    rintro e w1 ⟨rfl, hb1⟩
    have hB1 := hB0.trans (hb1.mono hB0.size)
    have hg1 := (hb1.block _ (heap_lt hg0)).trans hg0
    have hR1 := hR0.later hb1
    clear hB0 hg0 hR0 hb1
    obtain ⟨h0, h1, h2⟩ := cells3' hg1
    go_wp2_with fail
    refine (keepHead_c _ mi st _ fs hZ hR1).mono ?_
    rintro e w2 ⟨rfl, hb2⟩
    have hB2 := hB1.trans (hb2.mono hB1.size)
    have hg2 := (hb2.block _ (heap_lt hg1)).trans hg1
    have hR2 := hR1.later hb2
    clear hB1 hg1 hR1 hb2 h0 h1 h2
    obtain ⟨h0, h1, h2⟩ := cells3' hg2
    rw [hk]
    go_wp2_with fail
    go_ret
    exact ⟨rfl, hB2⟩
  | true =>
    have hstb : -9223372036854775808 ≤ st ∧ st ≤ 9223372036854775807 := bounds_i64 HWS.out
    obtain ⟨J, Tx, g, vs, hvs, f1, f2, f3, f4, f5, f6⟩ := gets_facts mi st hstb.1 hstb.2 (.slice A fs.length c) fs a1 w1 hk
    have HG := Lib.hid f1
    have HRG := Lib.hid f2
    have HV := Lib.hid f3
    have HRV := Lib.hid f4
    have HF := Lib.hid f5
    have HRF := Lib.hid f6
    clear f1 f2 f3 f4 f5 f6 hstb
    go_enter Try.func9, Try.ntmps9
    go_wp2_with fail
    refine (sane18_c M _ HM.out).mono ?_
    rintro e w1 ⟨rfl, hb1⟩
    have hB1 := hB0.trans (hb1.mono hB0.size)
    have hg1 := (hb1.block _ (heap_lt hg0)).trans hg0
    have hR1 := hR0.later hb1
    clear hB0 hg0 hR0 hb1
    obtain ⟨h0, h1, h2⟩ := cells3' hg1
    go_wp2_with fail
    refine (keepHead_c _ mi st _ fs hZ hR1).mono ?_
    rintro e w2 ⟨rfl, hb2⟩
    have hB2 := hB1.trans (hb2.mono hB1.size)
    have hg2 := (hb2.block _ (heap_lt hg1)).trans hg1
    have hR2 := hR1.later hb2
    clear hB1 hg1 hR1 hb2 h0 h1 h2
    obtain ⟨h0, h1, h2⟩ := cells3' hg2
    rw [hk]
    go_wp2_with fail
    refine (HG.out _ hR2).mono ?_
    rintro e w3 ⟨rfl, hb3⟩
    have hB3 := hB2.trans (hb3.mono hB2.size)
    have hg3 := (hb3.block _ (heap_lt hg2)).trans hg2
    have hR3 := hR2.later hb3
    clear hB2 hg2 hR2 hb3 h0 h1 h2
    obtain ⟨h0, h1, h2⟩ := cells3' hg3
    go_wp2_with fail
    refine (HRG.out _ hR3).mono ?_
    rintro e w4 ⟨rfl, hb4⟩
    have hB4 := hB3.trans (hb4.mono hB3.size)
    have hg4 := (hb4.block _ (heap_lt hg3)).trans hg3
    have hR4 := hR3.later hb4
    clear hB3 hg3 hR3 hb4 h0 h1 h2
    obtain ⟨h0, h1, h2⟩ := cells3' hg4
    go_wp2_with fail
    have hW : Below w4.heap.size w4 w4 := Below.refl _ _
    have hl0 := heap_lt hg4
    have HKP := Lib.hid (show ∀ W, Below w4.heap.size w4 W → W.cell? ⟨w.heap.size, 0, none⟩ = some (.int .i64 mi) ∧ W.cell? ⟨w.heap.size, 1, none⟩ = some (.int .i64 st) ∧ W.cell? ⟨w.heap.size, 2, none⟩ = some (.slice A fs.length c) ∧ Below w4.heap.size w4 W from
      fun W h => ⟨(h.cell (p := ⟨w.heap.size, 0, none⟩) hl0).trans h0, (h.cell (p := ⟨w.heap.size, 1, none⟩) hl0).trans h1, (h.cell (p := ⟨w.heap.size, 2, none⟩) hl0).trans h2, h⟩)
    have HRD := Lib.hid (show ∀ W, Below w4.heap.size w4 W → Rd W 2 (.slice A fs.length c) fs.length (fldsV fs) from fun W h => hR4.later h)
    clear hl0 hR4 hg4
    go_region_held3 (fun W => W.cell? ⟨w.heap.size, 0, none⟩ = some (.int .i64 mi) ∧ W.cell? ⟨w.heap.size, 1, none⟩ = some (.int .i64 st) ∧ W.cell? ⟨w.heap.size, 2, none⟩ = some (.slice A fs.length c) ∧ Below w4.heap.size w4 W) (first | exact HKP.out _ (by assumption) | exact HKP.out _ (below_drewS (by assumption))) (first | (go_at_call 29; ((with_reducible refine (HV.out _ (HRD.out _ (held_last4 (by assumption)))).mono ?_); rintro e w' ⟨Av, cv, rfl, hRa, hb⟩; have hbb := below_then (held_last4 (by assumption)) hb rfl; try have hRr' := Rd.later hRr hb)) | (go_at_call 30; ((with_reducible refine (HRV.out _ (HRD.out _ (held_last4 (by assumption)))).mono ?_); rintro e w' ⟨Ar, cr, rfl, hRr, hb⟩; have hbb := below_then (held_last4 (by assumption)) hb rfl; try have hRa' := Rd.later hRa hb)) | (go_at_call 28; ((with_reducible refine (rSame_c _ _ _ vs hvs (by assumption) (by assumption)).mono ?_); rintro e w' ⟨rfl, mq, rfl⟩; have hbb := below_drew (held_last4 (by assumption)) mq)) | (go_at_call 31; ((with_reducible refine (HF.out _ (HRD.out _ (held_last4 (by assumption)))).mono ?_); rintro e w' ⟨rfl, hb⟩; have hbb := below_then (held_last4 (by assumption)) hb rfl)) | (go_at_call 32; ((with_reducible refine (HRF.out _ (HRD.out _ (held_last4 (by assumption)))).mono ?_); rintro e w' ⟨rfl, hb⟩; have hbb := below_then (held_last4 (by assumption)) hb rfl)))
    all_goals
      go_wp2_with fail
      go_ret
      exact ⟨rfl, held_below4 hB4 (by assumption)⟩
end Go.Proofs.Ytegejmbkpdlekaa.headGets
