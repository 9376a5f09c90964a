/- sync.Once's Do at a Replacer that is not built yet (turned from the kit's worked text on sync.Once). -/
import Derived.Test.YtaopehogpdgkgaaGreatRpOnce
namespace Go.Proofs.YtaopehogpdgkgaaGreat
open Go.RowKit
set_option maxRecDepth 100000 in
set_option maxHeartbeats 4000000 in
theorem doSlow_c (g h cap : Nat) (w : World) (hR : RpAt w g (.int .u32 0) (.int .i32 0) .nilIface (.slice (some ⟨h, 0, none⟩) 4 cap)) (hc : ∀ j u, (strsV onL)[j]? = some u → w.cell? ⟨h, j, none⟩ = some u) (hh : h < w.heap.size) (hgh : g ≠ h) :
    Calls Tryz.prog 83 #[.pointer (some ⟨g, 0, none⟩), .func (.func 70) #[.pointer (some ⟨g, 0, none⟩)] #[]] w fun e w' => e = .returned (.tuple #[]) ∧ BuiltAt w w' g (.int .u32 1) (.int .i32 0) := by
  have hg := heap_lt hR
  have hR1 : RpAt (w.setCell ⟨g, 1, none⟩ (.int .i32 1)) g (.int .u32 0) (.int .i32 1) .nilIface (.slice (some ⟨h, 0, none⟩) 4 cap) := (rp_set hR (.int .i32 1)).2.1
  have hc1 : ∀ j u, (strsV onL)[j]? = some u → (w.setCell ⟨g, 1, none⟩ (.int .i32 1)).cell? ⟨h, j, none⟩ = some u := fun j u hu => (World.cell?_setCell_other w ⟨g, 1, none⟩ ⟨h, j, none⟩ _ (by simp)).trans (hc j u hu)
  have HB := Lib.hid (buildOnce_c g h cap (.int .u32 0) (.int .i32 1) _ hR1 hc1 (by simpa using hh))
  obtain ⟨c0, c1, _, _, _, fz⟩ := rp_cells hR
  have z1 := fz 1
  have hl := run_call_load (P := Tryz.prog) Tryz.func88 (by kernel_rfl) (by kernel_rfl) (by kernel_rfl) .u32 (by kernel_rfl) (w := w.setCell ⟨g, 1, none⟩ (.int .i32 1)) (a := ⟨g, 0, none⟩) (x := 0) (rp_cells hR1).1
  have hnot : ∀ (x : Bool) (w : World), (Op.unary .not (.bool x)).run Tryz.prog w = .ok (.bool (!x)) w := fun _ _ => rfl
  clear fz hc hc1 hR1
  go_enter_defers Tryz.func83, Tryz.ntmps83
  go_wp2_with (first | (go_at_call 89; refine (lock_free ⟨g, 1, none⟩ _ c1 z1).mono ?_; rintro e w' ⟨rfl, rfl⟩) | (go_at_call 70; refine HB.out.mono ?_; rintro e w1 ⟨rfl, hBu⟩))
  go_wp2_with (first | (go_at_call 70; refine HB.out.mono ?_; rintro e w1 ⟨rfl, hBu⟩) | (go_at_call 82; go_in))
  obtain ⟨b, hRp, hRB, hOn⟩ := hBu
  obtain ⟨d0, d1, _, _, _, fd⟩ := rp_cells hRp
  refine leaves_cons (f := 91) (args := #[.pointer (some ⟨g, 0, none⟩), .bool true]) (by simp) (by simp [go_sem]) ?_
  refine (store_deferred ⟨g, 0, none⟩ (.int .u32 0) .returning _ d0 (fd 0)).mono ?_
  rintro e u' w'' ⟨rfl, rfl, rfl⟩
  have hR2 : RpAt w1.drew g (.int .u32 0) (.int .i32 1) (.iface 130 (.pointer (some ⟨b, 0, none⟩))) (.slice none 0 0) := hRp
  have k1 := (rp_set hR2 (.int .u32 1)).1
  refine leaves_cons (f := 90) (args := #[.pointer (some ⟨g, 1, none⟩)]) (by simp [settle]) (by simp [go_sem]) ?_
  refine (unlock_deferred ⟨g, 1, none⟩ _ _ (rp_cells k1).2.1 ((rp_cells k1).2.2.2.2.2 1)).mono ?_
  rintro e u' w'' ⟨rfl, rfl, rfl⟩
  have k2 := (rp_set k1 (.int .i32 0)).2.1
  have fin : BuiltAt w ((w1.drew.setCell ⟨g, 0, none⟩ (.int .u32 1)).setCell ⟨g, 1, none⟩ (.int .i32 0)) g (.int .u32 1) (.int .i32 0) := by
    have hsz : (w.setCell ⟨g, 1, none⟩ (.int .i32 1)).heap.size = w.heap.size := by simp
    rw [hsz] at hRB
    have hRB2 : RB w1.drew w.heap.size b := hRB
    have hOn2 : Only g (w.setCell ⟨g, 1, none⟩ (.int .i32 1)) w1.drew := ⟨hOn.os, hOn.tape, hOn.output, hOn.size, hOn.block⟩
    exact ⟨b, k2, (hRB2.only (Only.set (b := g) _) hg).only (Only.set (b := g) _) hg, (((Only.set (b := g) _).trans hOn2).trans (Only.set (b := g) _)).trans (Only.set (b := g) _)⟩
  have FIN := Lib.hid fin
  clear fin k1 k2 hR2 d0 d1 fd hRp hRB hOn hl hR
  simp [Leaves, settle, results, Tryz.results83]
  exact FIN.out
end Go.Proofs.YtaopehogpdgkgaaGreat
