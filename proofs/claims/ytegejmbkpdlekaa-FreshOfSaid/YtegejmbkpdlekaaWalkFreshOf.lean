/- The statement FreshOf holds: for every head and every two values the law returns true. The walk. -/
import Derived.Test.YtegejmbkpdlekaaRows
import Derived.WalkKit
import Derived.WalkSpells
import Derived.WalkLawsBesides
import Derived.ProofKit
import Derived.OpenShut
import Derived.ShutString
import Derived.ChangeOld
import Derived.Below
import Derived.Deep.RegionHeld3
import Derived.Test.YtegejmbkpdlekaaFOf
namespace Go.Proofs.Ytegejmbkpdlekaa.freshOf
open Go.ChangeShapes Go.WideShapes Go.ChangeAt Go.RowKit
open Go.ChangeMaps (open_string shut_string)
set_option linter.unusedVariables false

theorem own : ownKnob Try.prog.godebug = none := by kernel_rfl

set_option maxRecDepth 100000 in
set_option maxHeartbeats 4000000 in
theorem walk (mi st : Int) (fv : Value) (fs : List Fld) (a1 a2 : ByteArray) (w : World) (h : Rd w 2 fv fs.length (fldsV fs)) (hZ : ∀ f ∈ fs, f.1.length ≤ 140737488351232 ∧ f.2.length ≤ 140737488351232) (w1 : a1.size ≤ maxLen) (w2 : a2.size ≤ maxLen) :
    Calls Try.prog 4 #[.agg #[.int .i64 mi, .int .i64 st, fv], .string a1, .string a2] w fun e w' => e = .returned (.bool true) ∧ Below w.heap.size w w' := by
  clear w1 w2
  obtain ⟨A, c, rfl⟩ := h.slice
  have hB0 : Below w.heap.size w (w.alloc (.cells #[.int .i64 mi, .int .i64 st, .slice A fs.length c] 29)) := (Below.refl _ w).alloc (Nat.le_refl _) _
  have hg0 : (w.alloc (.cells #[.int .i64 mi, .int .i64 st, .slice A fs.length c] 29)).heap[w.heap.size]? = some (.cells #[.int .i64 mi, .int .i64 st, .slice A fs.length c] 29 (0, 0)) := heap_alloc_new w _
  have hR0 := h.later hB0
  clear h
  cases hk : keepB fs with
  | false =>
    go_enter Try.func4, Try.ntmps4
    go_wp2_with fail
    refine (sane21_c _).mono ?_
    rintro e w1 ⟨rfl, hb1⟩
    have hB1 := hB0.trans (hb1.mono hB0.size)
    have hg1 := (hb1.block _ (heap_lt hg0)).trans hg0
    have hR1 := hR0.later hb1
    clear hB0 hg0 hR0 hb1
    obtain ⟨h0, h1, h2⟩ := cells3' hg1
    go_wp2_with fail
    refine (keepHead_c _ mi st _ fs hZ hR1).mono ?_
    rintro e w2 ⟨rfl, hb2⟩
    have hB2 := hB1.trans (hb2.mono hB1.size)
    have hg2 := (hb2.block _ (heap_lt hg1)).trans hg1
    have hR2 := hR1.later hb2
    clear hB1 hg1 hR1 hb2 h0 h1 h2
    obtain ⟨h0, h1, h2⟩ := cells3' hg2
    rw [hk]
    go_wp2_with fail
    go_ret
    exact ⟨rfl, hB2⟩
  | true =>
    by_cases h5 : 500 < a1.size
    · go_enter Try.func4, Try.ntmps4
      go_wp2_with fail
      refine (sane21_c _).mono ?_
      rintro e w1 ⟨rfl, hb1⟩
      have hB1 := hB0.trans (hb1.mono hB0.size)
      have hg1 := (hb1.block _ (heap_lt hg0)).trans hg0
      have hR1 := hR0.later hb1
      clear hB0 hg0 hR0 hb1
      obtain ⟨h0, h1, h2⟩ := cells3' hg1
      go_wp2_with fail
      refine (keepHead_c _ mi st _ fs hZ hR1).mono ?_
      rintro e w2 ⟨rfl, hb2⟩
      have hB2 := hB1.trans (hb2.mono hB1.size)
      have hg2 := (hb2.block _ (heap_lt hg1)).trans hg1
      have hR2 := hR1.later hb2
      clear hB1 hg1 hR1 hb2 h0 h1 h2
      obtain ⟨h0, h1, h2⟩ := cells3' hg2
      rw [hk]
      go_wp2_with fail
      go_ret
      exact ⟨rfl, hB2⟩
    · by_cases h6 : 100 < a2.size
      · go_enter Try.func4, Try.ntmps4
        go_wp2_with fail
        refine (sane21_c _).mono ?_
        rintro e w1 ⟨rfl, hb1⟩
        have hB1 := hB0.trans (hb1.mono hB0.size)
        have hg1 := (hb1.block _ (heap_lt hg0)).trans hg0
        have hR1 := hR0.later hb1
        clear hB0 hg0 hR0 hb1
        obtain ⟨h0, h1, h2⟩ := cells3' hg1
        go_wp2_with fail
        refine (keepHead_c _ mi st _ fs hZ hR1).mono ?_
        rintro e w2 ⟨rfl, hb2⟩
        have hB2 := hB1.trans (hb2.mono hB1.size)
        have hg2 := (hb2.block _ (heap_lt hg1)).trans hg1
        have hR2 := hR1.later hb2
        clear hB1 hg1 hR1 hb2 h0 h1 h2
        obtain ⟨h0, h1, h2⟩ := cells3' hg2
        rw [hk]
        go_wp2_with fail
        go_ret
        exact ⟨rfl, hB2⟩
      · obtain ⟨hn, hl, hv⟩ := keep_facts hk
        obtain ⟨p, q, f1, f2⟩ := of_facts mi st (.slice A fs.length c) fs (by omega) (fun f hf => Nat.le_trans (hl f hf).1 (by decide)) (by omega)
        obtain ⟨p', q', f3, f4⟩ := of_hfacts a1 a2 (by omega)
        have HO := Lib.hid f1
        have HRO := Lib.hid f2
        have HH := Lib.hid f3
        have HRH := Lib.hid f4
        clear f1 f2 f3 f4 hl hn hv
        go_enter Try.func4, Try.ntmps4
        go_wp2_with fail
        refine (sane21_c _).mono ?_
        rintro e w1 ⟨rfl, hb1⟩
        have hB1 := hB0.trans (hb1.mono hB0.size)
        have hg1 := (hb1.block _ (heap_lt hg0)).trans hg0
        have hR1 := hR0.later hb1
        clear hB0 hg0 hR0 hb1
        obtain ⟨h0, h1, h2⟩ := cells3' hg1
        go_wp2_with fail
        refine (keepHead_c _ mi st _ fs hZ hR1).mono ?_
        rintro e w2 ⟨rfl, hb2⟩
        have hB2 := hB1.trans (hb2.mono hB1.size)
        have hg2 := (hb2.block _ (heap_lt hg1)).trans hg1
        have hR2 := hR1.later hb2
        clear hB1 hg1 hR1 hb2 h0 h1 h2
        obtain ⟨h0, h1, h2⟩ := cells3' hg2
        rw [hk]
        go_wp2_with fail
        have hW : Below w2.heap.size w2 w2 := Below.refl _ _
        have hl0 := heap_lt hg2
        have HKP := Lib.hid (show ∀ W, Below w2.heap.size w2 W → W.cell? ⟨w.heap.size, 0, none⟩ = some (.int .i64 mi) ∧ W.cell? ⟨w.heap.size, 1, none⟩ = some (.int .i64 st) ∧ W.cell? ⟨w.heap.size, 2, none⟩ = some (.slice A fs.length c) ∧ Below w2.heap.size w2 W from
          fun W h => ⟨(h.cell (p := ⟨w.heap.size, 0, none⟩) hl0).trans h0, (h.cell (p := ⟨w.heap.size, 1, none⟩) hl0).trans h1, (h.cell (p := ⟨w.heap.size, 2, none⟩) hl0).trans h2, h⟩)
        have HRD := Lib.hid (show ∀ W, Below w2.heap.size w2 W → Rd W 2 (.slice A fs.length c) fs.length (fldsV fs) from fun W h => hR2.later h)
        clear hl0 hR2 hg2
        go_region_held3 (fun W => W.cell? ⟨w.heap.size, 0, none⟩ = some (.int .i64 mi) ∧ W.cell? ⟨w.heap.size, 1, none⟩ = some (.int .i64 st) ∧ W.cell? ⟨w.heap.size, 2, none⟩ = some (.slice A fs.length c) ∧ Below w2.heap.size w2 W) (first | exact HKP.out _ (by assumption) | exact HKP.out _ (below_drewS (by assumption))) (first | (go_at_call 16; first | ((with_reducible refine (HO.out _ (HRD.out _ (held_last4 (by assumption)))).mono ?_); rintro e w' ⟨rfl, hb⟩; have hbb := below_then (held_last4 (by assumption)) hb rfl) | ((with_reducible refine (HH.out _ _ _ (by assumption)).mono ?_); rintro e w' ⟨rfl, hb⟩; have hbb := below_then (held_last4 (by assumption)) hb rfl)) | (go_at_call 17; first | ((with_reducible refine (HRO.out _ (HRD.out _ (held_last4 (by assumption)))).mono ?_); rintro e w' ⟨rfl, hb⟩; have hbb := below_then (held_last4 (by assumption)) hb rfl) | ((with_reducible refine (HRH.out _ _ _ (by assumption)).mono ?_); rintro e w' ⟨rfl, hb⟩; have hbb := below_then (held_last4 (by assumption)) hb rfl)) | (go_at_call 18; (with_reducible refine (heads_c a1 a2 _).mono ?_); rintro e w' ⟨HA, hc, rfl, hRR, hb⟩; have hbb := below_then (held_last4 (by assumption)) hb rfl))
        go_wp2_with fail
        go_ret
        exact ⟨rfl, held_below4 hB2 (by assumption)⟩
end Go.Proofs.Ytegejmbkpdlekaa.freshOf
