/- The statement MediaFormats holds: for every media type the law returns true. The walk. -/
import Derived.Test.YtaopehogpdgkgaaGreatRows
import Derived.WalkKit
import Derived.WalkSpells
import Derived.WalkLawsBesides
import Derived.ProofKit
import Derived.OpenShut
import Derived.ShutString
import Derived.ChangeOld
import Derived.Below
import Derived.Test.YtaopehogpdgkgaaGreatOpenMedia
import Derived.Test.YtaopehogpdgkgaaGreatRpAll
import Derived.Test.YtaopehogpdgkgaaGreatMdSane
import Derived.Deep.RegionHeld3
namespace Go.Proofs.YtaopehogpdgkgaaGreat.mediaFormats
open Go.ChangeShapes Go.WideShapes Go.ChangeAt Go.RowKit
open Go.ChangeMaps (open_string shut_string)
set_option linter.unusedVariables false

theorem own : ownKnob Tryz.prog.godebug = none := by kernel_rfl

theorem lastK {A1 A2 A3 B : Prop} (h : A1 ∧ A2 ∧ A3 ∧ B) : B := h.2.2.2
theorem belowK {A1 A2 A3 : Prop} {w W0 W : World} (hB : Below w.heap.size w W0) (h : A1 ∧ A2 ∧ A3 ∧ Below W0.heap.size W0 W) : Below w.heap.size w W := hB.trans (h.2.2.2.mono hB.size)

set_option maxRecDepth 100000 in
set_option maxHeartbeats 4000000 in
theorem walk (a0 b0 : ByteArray) (fv : Value) (fs : List Fld) (w : World) (h : Rd w 2 fv fs.length (fldsV fs)) (hZ' : ∀ f ∈ fs, f.1.length ≤ 140737488351232 ∧ f.2.length ≤ 140737488351232) (hX : a0.data.toList.length ≤ 140737488351232 ∧ b0.data.toList.length ≤ 140737488351232) :
    Calls Tryz.prog 4 #[.agg #[.string a0, .string b0, fv]] w fun e w' => e = .returned (.bool true) ∧ Below w.heap.size w w' := by
  have hZ := hZ'
  clear hZ'
  obtain ⟨A, c, rfl⟩ := h.slice
  obtain ⟨hx1, hx2⟩ := hX
  obtain ⟨a, rfl⟩ : ∃ l, a0 = S l := ⟨a0.data.toList, by apply ByteArray.ext; apply Array.toList_inj.1; simp [S]⟩
  obtain ⟨b, rfl⟩ : ∃ l, b0 = S l := ⟨b0.data.toList, by apply ByteArray.ext; apply Array.toList_inj.1; simp [S]⟩
  have za := S_size a
  have zb := S_size b
  have ya : (S a).data.toList.length = a.length := rfl
  have yb : (S b).data.toList.length = b.length := rfl
  rw [ya] at hx1
  rw [yb] at hx2
  clear ya yb
  have hB0 : Below w.heap.size w (w.alloc (.cells #[.string (S a), .string (S b), .slice A fs.length c] 25)) := (Below.refl _ w).alloc (Nat.le_refl _) _
  have hg0 : (w.alloc (.cells #[.string (S a), .string (S b), .slice A fs.length c] 25)).heap[w.heap.size]? = some (.cells #[.string (S a), .string (S b), .slice A fs.length c] 25 (0, 0)) := heap_alloc_new w _
  have hR0 := h.later hB0
  clear h
  cases hk : keepB fs with
  | false =>
    go_enter Tryz.func4, Tryz.ntmps4
    go_wp2_with fail
    refine (sane20_c _).mono ?_
    rintro e w1 ⟨rfl, hb1⟩
    have hB1 := hB0.trans (hb1.mono hB0.size)
    have hg1 := (hb1.block _ (heap_lt hg0)).trans hg0
    have hR1 := hR0.later hb1
    clear hB0 hg0 hR0 hb1
    obtain ⟨h0, h1, h2, _, _, _⟩ := cells3m hg1
    go_wp2_with fail
    refine (keepHead_c _ 0 0 _ fs hZ hR1).mono ?_
    rintro e w2 ⟨rfl, hb2⟩
    have hB2 := hB1.trans (hb2.mono hB1.size)
    have hg2 := (hb2.block _ (heap_lt hg1)).trans hg1
    have hR2 := hR1.later hb2
    clear hB1 hg1 hR1 hb2 h0 h1 h2
    obtain ⟨h0, h1, h2, _, _, _⟩ := cells3m hg2
    rw [hk]
    go_wp2_with fail
    go_ret
    exact ⟨rfl, hB2⟩
  | true =>
    by_cases h3 : 300 < a.length + b.length
    · have h3' : 300 < (a.length : Int) + (b.length : Int) := by omega
      go_enter Tryz.func4, Tryz.ntmps4
      go_wp2_with fail
      refine (sane20_c _).mono ?_
      rintro e w1 ⟨rfl, hb1⟩
      have hB1 := hB0.trans (hb1.mono hB0.size)
      have hg1 := (hb1.block _ (heap_lt hg0)).trans hg0
      have hR1 := hR0.later hb1
      clear hB0 hg0 hR0 hb1
      obtain ⟨h0, h1, h2, _, _, _⟩ := cells3m hg1
      go_wp2_with fail
      refine (keepHead_c _ 0 0 _ fs hZ hR1).mono ?_
      rintro e w2 ⟨rfl, hb2⟩
      have hB2 := hB1.trans (hb2.mono hB1.size)
      have hg2 := (hb2.block _ (heap_lt hg1)).trans hg1
      have hR2 := hR1.later hb2
      clear hB1 hg1 hR1 hb2 h0 h1 h2
      obtain ⟨h0, h1, h2, _, _, _⟩ := cells3m hg2
      rw [hk]
      go_wp2_with fail
      go_ret
      exact ⟨rfl, hB2⟩
    · have h3' : ¬ 300 < (a.length : Int) + (b.length : Int) := by omega
      obtain ⟨q1, q2, _⟩ := keep_facts hk
      have hla : a.length ≤ 1000000 := by omega
      have hlb : b.length ≤ 1000000 := by omega
      have hab : a.length + b.length ≤ 100000 := by omega
      have hln : fs.length ≤ 1000000 := by omega
      have hl1 : fs.length ≤ 1001 := by omega
      have hlf : ∀ f ∈ fs, f.1.length ≤ 1000000 ∧ f.2.length ≤ 1000000 := fun f hf => by have := q2 f hf; omega
      have hl2 : ∀ f ∈ fs, f.1.length ≤ 2000 ∧ f.2.length ≤ 2000 := fun f hf => by have := q2 f hf; omega
      have hWp : ∀ f ∈ fs, ∀ W, Calls Tryz.prog 37 #[.string (S f.2)] W fun e w' => e = .returned (.string (S (writeL f.2))) ∧ Below W.heap.size W w' := by
        intro f hf W
        have h := write_c (S f.2) (by rw [S_size]; have := (hl2 f hf).2; omega) W
        rw [S_list] at h
        exact h
      have hWr : ∀ f ∈ fs, ∀ W, Calls Tryz.prog 38 #[.string (S f.2)] W fun e w' => e = .returned (.string (S (writeL f.2))) ∧ Below W.heap.size W w' := by
        intro f hf W
        have h := rWrite_c (S f.2) (by rw [S_size]; have := (hl2 f hf).2; omega) W
        rw [S_list] at h
        exact h.mono (by rintro e w' ⟨rfl, rfl⟩; exact ⟨rfl, Below.refl _ _⟩)
      have k0 := fun W h => mFormat_c a b (.slice A fs.length c) fs hab hl1 hl2 hWp W h
      have k9 := fun W h => rmFormat_c a b (.slice A fs.length c) fs hab hl1 hl2 hWr W h
      have k1 := fun W h => isJRD_c a b (.slice A fs.length c) fs hla hlb hln hlf W h
      have k2 := fun W h => rIsJRD_c a b (.slice A fs.length c) fs hln hlf W h
      have k3 := fun W h => isDID_c a b (.slice A fs.length c) fs hla hlb hln hlf W h
      have k4 := fun W h => rIsDID_c a b (.slice A fs.length c) fs hln hlf W h
      obtain ⟨j, hj⟩ : ∃ j, jrdB a b fs = j := ⟨_, rfl⟩
      obtain ⟨d, hd⟩ : ∃ d, didB a b fs = d := ⟨_, rfl⟩
      obtain ⟨T, hT⟩ : ∃ T, S (fmtML a b fs) = T := ⟨_, rfl⟩
      rw [hj] at k1 k2
      rw [hd] at k3 k4
      rw [hT] at k0 k9
      unfold medV at k0 k1 k2 k3 k4 k9
      have K0 := Lib.hid k0
      have K9 := Lib.hid k9
      have K1 := Lib.hid k1
      have K2 := Lib.hid k2
      have K3 := Lib.hid k3
      have K4 := Lib.hid k4
      clear k0 k9 k1 k2 k3 k4 hj hd hT hla hlb hab hln hl1 hlf hl2 hWp hWr q1 q2
      go_enter Tryz.func4, Tryz.ntmps4
      go_wp2_with fail
      refine (sane20_c _).mono ?_
      rintro e w1 ⟨rfl, hb1⟩
      have hB1 := hB0.trans (hb1.mono hB0.size)
      have hg1 := (hb1.block _ (heap_lt hg0)).trans hg0
      have hR1 := hR0.later hb1
      clear hB0 hg0 hR0 hb1
      obtain ⟨h0, h1, h2, _, _, _⟩ := cells3m hg1
      go_wp2_with fail
      refine (keepHead_c _ 0 0 _ fs hZ hR1).mono ?_
      rintro e w2 ⟨rfl, hb2⟩
      have hB2 := hB1.trans (hb2.mono hB1.size)
      have hg2 := (hb2.block _ (heap_lt hg1)).trans hg1
      have hR2 := hR1.later hb2
      clear hB1 hg1 hR1 hb2 h0 h1 h2
      obtain ⟨h0, h1, h2, _, _, _⟩ := cells3m hg2
      rw [hk]
      go_wp2_with fail
      have hW : Below w2.heap.size w2 w2 := Below.refl _ _
      have hl0 := heap_lt hg2
      have HKP := Lib.hid (show ∀ W, Below w2.heap.size w2 W → W.cell? ⟨w.heap.size, 0, none⟩ = some (.string (S a)) ∧ W.cell? ⟨w.heap.size, 1, none⟩ = some (.string (S b)) ∧ W.cell? ⟨w.heap.size, 2, none⟩ = some (.slice A fs.length c) ∧ Below w2.heap.size w2 W from
        fun W h => ⟨(h.cell (p := ⟨w.heap.size, 0, none⟩) hl0).trans h0, (h.cell (p := ⟨w.heap.size, 1, none⟩) hl0).trans h1, (h.cell (p := ⟨w.heap.size, 2, none⟩) hl0).trans h2, h⟩)
      have HRa := Lib.hid (show ∀ W, Below w2.heap.size w2 W → Rd W 2 (.slice A fs.length c) fs.length (fldsV fs) from fun W h => hR2.later h)
      clear hl0 hR2 hg2
      go_region_held3 (fun W => W.cell? ⟨w.heap.size, 0, none⟩ = some (.string (S a)) ∧ W.cell? ⟨w.heap.size, 1, none⟩ = some (.string (S b)) ∧ W.cell? ⟨w.heap.size, 2, none⟩ = some (.slice A fs.length c) ∧ Below w2.heap.size w2 W) (first | exact HKP.out _ (by assumption) | exact HKP.out _ (below_drewM (by assumption))) (first | (go_at_call 16; ((with_reducible refine (K0.out _ (HRa.out _ (lastK (by assumption)))).mono ?_); rintro e w' ⟨rfl, hb⟩; have hbb := below_thenM (lastK (by assumption)) hb rfl)) | (go_at_call 17; ((with_reducible refine (K9.out _ (HRa.out _ (lastK (by assumption)))).mono ?_); rintro e w' ⟨rfl, hb⟩; have hbb := below_thenM (lastK (by assumption)) hb rfl)) | (go_at_call 11; ((with_reducible refine (K1.out _ (HRa.out _ (lastK (by assumption)))).mono ?_); rintro e w' ⟨rfl, hb⟩; have hbb := below_thenM (lastK (by assumption)) hb rfl)) | (go_at_call 12; ((with_reducible refine (K2.out _ (HRa.out _ (lastK (by assumption)))).mono ?_); rintro e w' ⟨rfl, hb⟩; have hbb := below_thenM (lastK (by assumption)) hb rfl)) | (go_at_call 13; ((with_reducible refine (K3.out _ (HRa.out _ (lastK (by assumption)))).mono ?_); rintro e w' ⟨rfl, hb⟩; have hbb := below_thenM (lastK (by assumption)) hb rfl)) | (go_at_call 14; ((with_reducible refine (K4.out _ (HRa.out _ (lastK (by assumption)))).mono ?_); rintro e w' ⟨rfl, hb⟩; have hbb := below_thenM (lastK (by assumption)) hb rfl)))
      all_goals
        go_wp2_with fail
        go_ret
        exact ⟨rfl, belowK hB2 (by assumption)⟩
end Go.Proofs.YtaopehogpdgkgaaGreat.mediaFormats
