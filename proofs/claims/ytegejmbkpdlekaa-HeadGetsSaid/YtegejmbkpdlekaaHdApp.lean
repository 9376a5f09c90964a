/- The loop's relation of Parse, and what an append to the head's fields leaves (chapter 18). -/
import Derived.Test.YtegejmbkpdlekaaHdPlain
import Derived.Deep.RegionHeld3
namespace Go.Proofs.Ytegejmbkpdlekaa
open Go.RowKit
/-- the head's cell, the fields, the result's cell -/
def HH (w wr : World) (hb : Nat) (M mi st : Int) (fv : Value) (acc : List Fld) : Prop :=
  wr.heap[hb]? = some (.cells #[.int .i64 mi, .int .i64 st, fv] 29 (0, 0)) ∧ Flds wr (hb + 1) fv acc ∧ MaxAt M wr ∧ Below w.heap.size w wr ∧ wr.heap[w.heap.size]? = some (.cells #[.int .i64 0, .int .i64 0, .slice none 0 0] 29 (0, 0))
theorem flds_later {w w' : World} {B : Nat} {v : Value} {l : List Fld} (hb : Below w.heap.size w w') (h : Flds w B v l) : Flds w' B v l := h.later hb
theorem heap_set2 {w : World} {hb : Nat} {x y z : Value} {T : TypeId} (h : w.heap[hb]? = some (.cells #[x, y, z] T (0, 0))) (u : Value) : (w.setCell ⟨hb, 2, none⟩ u).heap[hb]? = some (.cells #[x, y, u] T (0, 0)) := by
  have hlt := heap_lt h
  have h' : w.heap[hb] = .cells #[x, y, z] T (0, 0) := by simpa [Array.getElem?_eq_getElem hlt] using h
  show (w.heap.modify hb _)[hb]? = _
  rw [Array.getElem?_eq_getElem (by simpa using hlt), Array.getElem_modify_self, h']
  rfl
theorem own_slice_blk {w : World} {B n size : Nat} {e : TypeId} {v : Value} {xs : List Value} (h : w.ownsRow B e size v n xs) {g : Nat} (hg : v.ownBlock = some g) : B ≤ g := (World.ownsRow.lt h g hg).1
theorem hh_cell {W w7 w8 : World} {hb : Nat} {o : Obj} {fv : Value} {acc : List Fld} {x : Obj} (h : w7.heap[hb]? = some x) (hg : (w7.alloc o).grownBy w8 fv.ownBlock) (hf : Flds W (hb + 1) fv acc) : w8.heap[hb]? = some x :=
  (hg.block hb (by have := heap_lt h; simp; omega) (fun e => by have := own_slice_blk hf e.symm; omega)).trans ((Below.heap_alloc _ _ _ (heap_lt h)).trans h)
theorem alloc_cell {w : World} {a : Addr} {v : Value} {o : Obj} (h : w.cell? a = some v ∧ w.frozen? a = false) : (w.alloc o).cell? a = some v ∧ (w.alloc o).frozen? a = false := by
  have hlt := World.block_lt_of_cell? _ _ h.1
  have hb := (Below.refl _ w).alloc (Nat.le_refl _) o
  exact ⟨(hb.cell hlt).trans h.1, (World.frozen?_of_block (hb.block _ hlt)).trans h.2⟩
/-- behind the append and the store -/
theorem hh_app {w W W1 w7 W7 w8 : World} {hb g cap : Nat} {M mi st : Int} {fv : Value} {acc : List Fld} {f : Fld}
    (h : HH w W hb M mi st fv acc) (hbs : w.heap.size < hb) (hlow : 0 < w.heap.size)
    (e1 : W1.heap = W.heap) (hb7 : Below W1.heap.size W1 w7) (hb7' : Below w7.heap.size w7 W7) (hgr : W7.grownBy w8 fv.ownBlock)
    (hown : w8.ownsRow (hb + 1) 61 2 (.slice (some ⟨g, 0, none⟩) (acc.length + 1) cap) (acc.length + 1) (fldsV acc ++ [.string (S f.1), .string (S f.2)]))
    (hb0 : Below w.heap.size w W1) :
    HH w (w8.setCell ⟨hb, 2, none⟩ (.slice (some ⟨g, 0, none⟩) (acc.length + 1) cap)) hb M mi st (.slice (some ⟨g, 0, none⟩) (acc.length + 1) cap) (acc ++ [f]) := by
  obtain ⟨hh, hf, hm, hB, hg⟩ := h
  have hlt := heap_lt hh
  have hne : fv.ownBlock ≠ some hb := fun e => by have := own_slice_blk hf e; omega
  have hs1 : W1.heap.size = W.heap.size := by rw [e1]
  have hs7 := hb7.size
  have hs7' := hb7'.size
  have keep : ∀ j, j < W.heap.size → fv.ownBlock ≠ some j → w8.heap[j]? = W.heap[j]? := by
    intro j hj hn
    rw [hgr.block j (by omega) (fun e => hn e.symm), hb7'.block j (by omega), hb7.block j (by omega), e1]
  have k1 := (keep hb hlt hne).trans hh
  have hB8 : Below w.heap.size w w8 := by
    refine (hb0.trans (hb7.mono (by have := hB.size; omega))).trans ((hb7'.mono (by have := hB.size; omega)).trans ⟨hgr.os, hgr.tape, hgr.output, hgr.size, fun j hj => hgr.block j (by have := hB.size; omega) (fun e => ?_)⟩)
    have := own_slice_blk hf e.symm; omega
  have hbg := own_slice_blk hown (g := g) rfl
  refine ⟨heap_set2 k1 _, ?_, ?_, hB8.setCell (by simp; omega) _, ?_⟩
  · unfold Flds
    rw [fldsV_snoc, List.length_append]
    exact own_keep hown (Only.set (b := hb) _) (fun g' e => by cases e; exact .inl (Nat.lt_succ_self _))
  · refine MaxAt.only (b := hb) ?_ (Only.set _) (by omega)
    exact MaxAt.below (w := w) (by unfold MaxAt; rw [← hB.cell (p := ⟨0, 0, none⟩) hlow]; exact hm) hlow hB8
  · rw [Below.heap_setCell _ _ _ _ (by simp; omega)]
    refine (keep _ (by omega) (fun e => ?_)).trans hg
    have := own_slice_blk hf e; omega
theorem ln_app {W W1 w7 W7 w8 : World} {hb b : Nat} {fv u : Value} {acc : List Fld} {r : ByteArray} {m : Bool} (h : Ln W b r m) (hf : Flds W (hb + 1) fv acc) (hbs : b < hb)
    (e1 : W1.heap = W.heap) (hb7 : Below W1.heap.size W1 w7) (hb7' : Below w7.heap.size w7 W7) (hgr : W7.grownBy w8 fv.ownBlock) : Ln (w8.setCell ⟨hb, 2, none⟩ u) b r m := by
  have hlt := h.lt
  have hs1 : W1.heap.size = W.heap.size := by rw [e1]
  have hs7 := hb7.size
  have hs7' := hb7'.size
  unfold Ln at *
  rw [Below.heap_setCell _ _ _ _ (by simp; omega), hgr.block b (by omega) (fun e => by have := own_slice_blk hf e.symm; omega), hb7'.block b (by omega), hb7.block b (by omega), e1]
  exact h
end Go.Proofs.Ytegejmbkpdlekaa
