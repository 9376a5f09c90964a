/- sync.Once of a Replacer, not yet done: the lock, the deferred calls (turned from the kit's worked text on sync.Once). -/
import Derived.Test.YtaopehogpdgkgaaGreatRpBuild
import Derived.Tactics
import Derived.Tactics2
import Derived.Defers
import Derived.Laws.Pointers
import Derived.Laws.LoneSync
import Derived.RegionTactic
import Derived.RegionCalls
import Derived.ChangeAlike
namespace Go.Proofs.YtaopehogpdgkgaaGreat
open Go.RowKit
theorem disable_r (w : World) : (callFunc 101 #[]).run Tryz.prog w = .ok (.value (.tuple #[])) w := run_call_mark0 Tryz.func101 (by kernel_rfl) (by kernel_rfl) (by kernel_rfl) .disable (by kernel_rfl) w
theorem enable_r (w : World) : (callFunc 103 #[]).run Tryz.prog w = .ok (.value (.tuple #[])) w := run_call_mark0 Tryz.func103 (by kernel_rfl) (by kernel_rfl) (by kernel_rfl) .enable (by kernel_rfl) w
theorem acquire_r (a : Addr) (w : World) : (callFunc 104 #[.pointer (some a)]).run Tryz.prog w = .ok (.value (.tuple #[])) w := run_call_marked Tryz.func104 (by kernel_rfl) (by kernel_rfl) (by kernel_rfl) .acquire (by kernel_rfl) a w
theorem releaseMerge_r (a : Addr) (w : World) : (callFunc 106 #[.pointer (some a)]).run Tryz.prog w = .ok (.value (.tuple #[])) w := run_call_marked Tryz.func106 (by kernel_rfl) (by kernel_rfl) (by kernel_rfl) .releaseMerge (by kernel_rfl) a w
theorem store_deferred (a : Addr) (x : Value) (u : FrameMode) (w : World) (hc : w.cell? a = some x) (hz : w.frozen? a = false) :
    CallsD Tryz.prog 91 #[.pointer (some a), .bool true] u w fun e u' w' => u' = u ∧ (e = .returned (.tuple #[]) ∧ w' = w.drew.setCell a (.int .u32 1)) := by
  have hc' : w.drew.cell? a = some x := by go_simp
  have hz' : w.drew.frozen? a = false := by go_simp
  have hst := run_call_store (P := Tryz.prog) Tryz.func97 (by kernel_rfl) (by kernel_rfl) (by kernel_rfl) (by kernel_rfl) (k := .u32) (y := 1) hc' hz'
  go_enter_d Tryz.func91, Tryz.ntmps91
  go_wp2
  go_region_calls
  all_goals (go_end0; exact ⟨rfl, rfl⟩)
set_option maxRecDepth 100000 in
theorem unlock_deferred (a : Addr) (u : FrameMode) (w : World) (hc : w.cell? a = some (.int .i32 1)) (hz : w.frozen? a = false) :
    CallsD Tryz.prog 90 #[.pointer (some a)] u w fun e u' w' => u' = u ∧ (e = .returned (.tuple #[]) ∧ w' = w.setCell a (.int .i32 0)) := by
  have hd := disable_r
  have he := enable_r
  have hr := releaseMerge_r
  have hadd := run_call_add (P := Tryz.prog) Tryz.func107 (by kernel_rfl) (by kernel_rfl) (by kernel_rfl) .i32 (by kernel_rfl) (y := -1) (s := 0) hc hz (by simp [go_sem]; rfl)
  have hcv := run_convert_to_unsafe (P := Tryz.prog) (src := 145) (dst := 110) Tryz.underlying145 Tryz.underlying110 (by kernel_rfl) hc
  go_enter_d Tryz.func90, Tryz.ntmps90
  go_wp2
  go_end0
  go_wp2
  go_end0
  exact ⟨rfl, rfl⟩
set_option maxRecDepth 100000 in
theorem lock_free (a : Addr) (w : World) (hc : w.cell? a = some (.int .i32 0)) (hz : w.frozen? a = false) :
    Calls Tryz.prog 89 #[.pointer (some a)] w fun e w' => e = .returned (.tuple #[]) ∧ w' = w.setCell a (.int .i32 1) := by
  have hd := disable_r
  have he := enable_r
  have ha := acquire_r
  have hcas := run_call_cas_hit (P := Tryz.prog) Tryz.func102 (by kernel_rfl) (by kernel_rfl) (by kernel_rfl) .i32 (by kernel_rfl) (y := 1) hc hz
  have hc' : (w.setCell a (.int .i32 1)).cell? a = some (.int .i32 1) := World.cell?_setCell_same w a _ hc
  have hcv := run_convert_to_unsafe (P := Tryz.prog) (src := 145) (dst := 110) Tryz.underlying145 Tryz.underlying110 (by kernel_rfl) hc'
  go_enter Tryz.func89, Tryz.ntmps89
  go_wp2
  first | go_end0 | (simp only [Exit.inBlock, Exit.then]; refine bodyPost_ret (results_none rfl _ _ _) rfl ?_) | refine bodyPost_ret (results_none rfl _ _ _) rfl ?_
  go_wp2
  go_end0
  exact ⟨rfl, rfl⟩
/-- a Replacer in memory -/
def RpAt (w : World) (g : Nat) (x0 x1 x3 x4 : Value) : Prop := w.heap[g]? = some (.cells #[x0, x1, .int .u32 0, x3, x4] 102 (0, 0))
theorem rp_set {w : World} {g : Nat} {x0 x1 x2 x3 x4 : Value} {T : TypeId} (h : w.heap[g]? = some (.cells #[x0, x1, x2, x3, x4] T (0, 0))) (u : Value) :
    (w.setCell ⟨g, 0, none⟩ u).heap[g]? = some (.cells #[u, x1, x2, x3, x4] T (0, 0)) ∧ (w.setCell ⟨g, 1, none⟩ u).heap[g]? = some (.cells #[x0, u, x2, x3, x4] T (0, 0)) ∧
    (w.setCell ⟨g, 3, none⟩ u).heap[g]? = some (.cells #[x0, x1, x2, u, x4] T (0, 0)) ∧ (w.setCell ⟨g, 4, none⟩ u).heap[g]? = some (.cells #[x0, x1, x2, x3, u] T (0, 0)) := by
  refine ⟨?_, ?_, ?_, ?_⟩ <;> simp [World.setCell, Array.getElem?_modify, h]
/-- what building leaves -/
def BuiltAt (w w' : World) (g : Nat) (x0 x1 : Value) : Prop := ∃ b, RpAt w' g x0 x1 (.iface 130 (.pointer (some ⟨b, 0, none⟩))) (.slice none 0 0) ∧ RB w' w.heap.size b ∧ Only g w w'
set_option maxRecDepth 100000 in
set_option maxHeartbeats 2000000 in
theorem buildOnce_c (g h cap : Nat) (x0 x1 : Value) (w : World) (hR : RpAt w g x0 x1 .nilIface (.slice (some ⟨h, 0, none⟩) 4 cap)) (hc : ∀ j u, (strsV onL)[j]? = some u → w.cell? ⟨h, j, none⟩ = some u) (hh : h < w.heap.size) :
    Calls Tryz.prog 70 #[.pointer (some ⟨g, 0, none⟩)] w fun e w' => e = .returned (.tuple #[]) ∧ BuiltAt w w' g x0 x1 := by
  have hg := heap_lt hR
  have c4 := (rp_cells hR).2.2.2.2.1
  have HB := Lib.hid (repBuild_c g h cap w c4 hc hh)
  have HR := Lib.hid hR
  clear hR hc c4
  go_enter Tryz.func70, Tryz.ntmps70
  go_wp2_with fail
  refine HB.out.mono ?_
  rintro e w1 ⟨b, rfl, hRB, hb1⟩
  have hR1 : RpAt w1 g x0 x1 .nilIface (.slice (some ⟨h, 0, none⟩) 4 cap) := (hb1.block _ hg).trans HR.out
  obtain ⟨_, _, _, c3, c4, fz⟩ := rp_cells hR1
  have z3 := fz 3
  have z4 := fz 4
  have k1 := (rp_set hR1 (.iface 130 (.pointer (some ⟨b, 0, none⟩)))).2.2.1
  have k2 := (rp_set k1 (.slice none 0 0)).2.2.2
  have HK2 := Lib.hid k2
  have HRB := Lib.hid hRB
  clear fz k1 k2 hR1 hRB
  go_wp2_with fail
  go_end0
  refine ⟨rfl, b, HK2.out, ?_, ?_⟩
  · exact (HRB.out.only (Only.set (b := g) _) hg).only (Only.set (b := g) _) hg
  · exact ((Only.of_below hb1).trans (Only.set (b := g) _)).trans (Only.set (b := g) _)
end Go.Proofs.YtaopehogpdgkgaaGreat
