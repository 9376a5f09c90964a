/- The statement MediaParses holds: for every string the law returns true. The walk. -/
import Derived.Test.YtaopehogpdgkgaaGreatRows
import Derived.WalkKit
import Derived.WalkSpells
import Derived.WalkLawsBesides
import Derived.ProofKit
import Derived.OpenShut
import Derived.ShutString
import Derived.ChangeOld
import Derived.Below
import Derived.Test.YtaopehogpdgkgaaGreatMdBound
namespace Go.Proofs.YtaopehogpdgkgaaGreat.mediaParses
open Go.ChangeShapes Go.WideShapes Go.ChangeAt Go.RowKit
open Go.ChangeMaps (open_string shut_string)
set_option linter.unusedVariables false

theorem own : ownKnob Tryz.prog.godebug = none := by kernel_rfl

set_option maxRecDepth 100000 in
set_option maxHeartbeats 4000000 in
theorem walk (a0 : ByteArray) (w0 : a0.size ≤ maxLen) (w : World) :
    Calls Tryz.prog 3 #[.string a0] w fun e w' => e = .returned (.bool true) ∧ Below w.heap.size w w' := by
  have hB := Below.refl w.heap.size w
  by_cases h0 : 1000 < a0.size
  · go_enter Tryz.func3, Tryz.ntmps3
    go_wp2_with fail
    refine (sane20_c _).mono ?_
    rintro e w1 ⟨rfl, hb⟩
    replace hB := hB.trans (hb.mono hB.size)
    clear hb
    go_wp2_with fail
    go_ret
    exact ⟨rfl, hB⟩
  · obtain ⟨X, hX⟩ : ∃ X, mediaL a0.data.toList = X := ⟨_, rfl⟩
    have hml := media_le hX
    have hP := mParse_c a0 (by omega)
    have hRP := rMParse_c a0 (by omega)
    rw [hX] at hP hRP
    rw [size_toList] at hml
    have HP := Lib.hid hP
    have HRP := Lib.hid hRP
    have HML := Lib.hid hml
    clear hX hP hRP hml
    go_enter Tryz.func3, Tryz.ntmps3
    go_wp2_with fail
    refine (sane20_c _).mono ?_
    rintro e w1 ⟨rfl, hb⟩
    replace hB := hB.trans (hb.mono hB.size)
    clear hb
    go_wp2_with fail
    refine (HP.out _).mono ?_
    rintro e w2 ⟨hH2, hb2⟩
    have hB2 := hB.trans (hb2.mono hB.size)
    obtain ⟨c, a, b, fs, v, rfl, hX, hv, hf⟩ := md_parts hH2
    have HX := Lib.hid hX
    have hb3 : Below w2.heap.size w2 (w2.alloc (.cells #[.string (S a), .string (S b), v] 25)) := (Below.refl _ _).alloc (Nat.le_refl _) _
    have hB3 := hB2.trans (hb3.mono hB2.size)
    have q0 : (w2.alloc (.cells #[.string (S a), .string (S b), v] 25)).heap[w2.heap.size]? = some (.cells #[.string (S a), .string (S b), v] 25 (0, 0)) := heap_alloc_new w2 _
    have HV := Lib.hid (hv.later hb3)
    obtain ⟨A, cp, rfl⟩ := hv.slice
    unfold medV
    clear hH2 hX hv hb2 hB hB2 hb3
    go_wp2_with fail
    generalize w2.alloc (.cells #[.string (S a), .string (S b), .slice A fs.length cp] 25) = W3 at *
    refine (HRP.out _).mono ?_
    rintro e w4 ⟨hH4, hb4⟩
    have hB4 := hB3.trans (hb4.mono hB3.size)
    obtain ⟨c', a', b', fs', v', rfl, hX', hv', hf'⟩ := md_parts hH4
    obtain ⟨rfl, rfl, rfl, rfl⟩ := md_same HX.out hX'
    have q4 := (hb4.block _ (heap_lt q0)).trans q0
    have HV4 := Lib.hid (HV.out.later hb4)
    obtain ⟨A', cp', rfl⟩ := hv'.slice
    unfold medV
    have hb5 : Below w4.heap.size w4 (w4.alloc (.cells #[.string (S a), .string (S b), .slice A' fs.length cp'] 25)) := (Below.refl _ _).alloc (Nat.le_refl _) _
    have hB5 := hB4.trans (hb5.mono hB4.size)
    have q5 := (hb5.block _ (heap_lt q4)).trans q4
    have q6 : (w4.alloc (.cells #[.string (S a), .string (S b), .slice A' fs.length cp'] 25)).heap[w4.heap.size]? = some (.cells #[.string (S a), .string (S b), .slice A' fs.length cp'] 25 (0, 0)) := heap_alloc_new w4 _
    have hVa := HV4.out.later hb5
    have hVb := hv'.later hb5
    obtain ⟨l1, l2, l3, l4⟩ := HML.out _ _ _ _ HX.out
    have hla : a.length ≤ 1000000 := by omega
    have hlb : b.length ≤ 1000000 := by omega
    have hlf : ∀ f ∈ fs, f.1.length ≤ 1000000 ∧ f.2.length ≤ 1000000 := fun f hf => by have := l4 f hf; omega
    have hln : fs.length ≤ 1000000 := by omega
    clear hH4 hX' hv' hf' q0 q4 hb4 hb5 hB3 hB4 HV HV4 HP HRP l1 l2 l3 l4
    obtain ⟨j, hj⟩ : ∃ j, jrdB a b fs = j := ⟨_, rfl⟩
    obtain ⟨d, hd⟩ : ∃ d, didB a b fs = d := ⟨_, rfl⟩
    have k1 := fun W h => isJRD_c a b (.slice A fs.length cp) fs hla hlb hln hlf W h
    have k2 := fun W h => rIsJRD_c a b (.slice A fs.length cp) fs hln hlf W h
    have k3 := fun W h => isDID_c a b (.slice A fs.length cp) fs hla hlb hln hlf W h
    have k4 := fun W h => rIsDID_c a b (.slice A fs.length cp) fs hln hlf W h
    have k5 := fun W h h' => rMSame_c a b (.slice A fs.length cp) (.slice A' fs.length cp') fs hf W h h'
    rw [hj] at k1 k2
    rw [hd] at k3 k4
    unfold medV at k1 k2 k3 k4 k5
    have K1 := Lib.hid k1
    have K2 := Lib.hid k2
    have K3 := Lib.hid k3
    have K4 := Lib.hid k4
    have K5 := Lib.hid k5
    clear k1 k2 k3 k4 k5 hj hd hla hlb hlf hln
    obtain ⟨a0', a1', a2', _, _, _⟩ := cells3m q5
    obtain ⟨b0', b1', b2', _, _, _⟩ := cells3m q6
    have hl0 := heap_lt q5
    have hl1 := heap_lt q6
    go_wp2_with fail
    generalize w4.alloc (.cells #[.string (S a), .string (S b), .slice A' fs.length cp'] 25) = w6 at *
    generalize w2.heap.size = g2 at *
    generalize w4.heap.size = g4 at *
    have hW : Below w6.heap.size w6 w6 := Below.refl _ _
    have HKP := Lib.hid (show ∀ W, Below w6.heap.size w6 W → W.cell? ⟨g2, 0, none⟩ = some (.string (S a)) ∧ W.cell? ⟨g2, 1, none⟩ = some (.string (S b)) ∧ W.cell? ⟨g2, 2, none⟩ = some (.slice A fs.length cp) ∧ W.cell? ⟨g4, 0, none⟩ = some (.string (S a)) ∧ W.cell? ⟨g4, 1, none⟩ = some (.string (S b)) ∧ W.cell? ⟨g4, 2, none⟩ = some (.slice A' fs.length cp') ∧ Below w6.heap.size w6 W from
      fun W h => ⟨(h.cell (p := ⟨g2, 0, none⟩) hl0).trans a0', (h.cell (p := ⟨g2, 1, none⟩) hl0).trans a1', (h.cell (p := ⟨g2, 2, none⟩) hl0).trans a2', (h.cell (p := ⟨g4, 0, none⟩) hl1).trans b0', (h.cell (p := ⟨g4, 1, none⟩) hl1).trans b1', (h.cell (p := ⟨g4, 2, none⟩) hl1).trans b2', h⟩)
    have HRa := Lib.hid (show ∀ W, Below w6.heap.size w6 W → Rd W 2 (.slice A fs.length cp) fs.length (fldsV fs) from fun W h => hVa.later h)
    have HRb := Lib.hid (show ∀ W, Below w6.heap.size w6 W → Rd W 2 (.slice A' fs.length cp') fs.length (fldsV fs) from fun W h => hVb.later h)
    clear hl0 hl1 hVa hVb q5 q6
    go_region_held3 (fun W => W.cell? ⟨g2, 0, none⟩ = some (.string (S a)) ∧ W.cell? ⟨g2, 1, none⟩ = some (.string (S b)) ∧ W.cell? ⟨g2, 2, none⟩ = some (.slice A fs.length cp) ∧ W.cell? ⟨g4, 0, none⟩ = some (.string (S a)) ∧ W.cell? ⟨g4, 1, none⟩ = some (.string (S b)) ∧ W.cell? ⟨g4, 2, none⟩ = some (.slice A' fs.length cp') ∧ Below w6.heap.size w6 W) (first | exact HKP.out _ (by assumption) | exact HKP.out _ (below_drewM (by assumption))) (first | (go_at_call 11; ((with_reducible refine (K1.out _ (HRa.out _ (held_last6 (by assumption)))).mono ?_); rintro e w' ⟨rfl, hb⟩; have hbb := below_thenM (held_last6 (by assumption)) hb rfl)) | (go_at_call 12; ((with_reducible refine (K2.out _ (HRa.out _ (held_last6 (by assumption)))).mono ?_); rintro e w' ⟨rfl, hb⟩; have hbb := below_thenM (held_last6 (by assumption)) hb rfl)) | (go_at_call 13; ((with_reducible refine (K3.out _ (HRa.out _ (held_last6 (by assumption)))).mono ?_); rintro e w' ⟨rfl, hb⟩; have hbb := below_thenM (held_last6 (by assumption)) hb rfl)) | (go_at_call 14; ((with_reducible refine (K4.out _ (HRa.out _ (held_last6 (by assumption)))).mono ?_); rintro e w' ⟨rfl, hb⟩; have hbb := below_thenM (held_last6 (by assumption)) hb rfl)) | (go_at_call 10; ((with_reducible refine (K5.out _ (HRa.out _ (held_last6 (by assumption))) (HRb.out _ (held_last6 (by assumption)))).mono ?_); rintro e w' ⟨rfl, hb⟩; have hbb := below_thenM (held_last6 (by assumption)) hb rfl)))
    all_goals
      go_wp2_with fail
      go_ret
      exact ⟨rfl, held_below6 hB5 (by assumption)⟩
end Go.Proofs.YtaopehogpdgkgaaGreat.mediaParses
