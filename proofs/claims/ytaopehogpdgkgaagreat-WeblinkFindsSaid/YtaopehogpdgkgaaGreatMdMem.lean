/- What media.Parse holds in memory; its closure (chapter 20). -/
import Derived.Test.YtaopehogpdgkgaaGreatMdPlain
import Derived.Test.YtaopehogpdgkgaaGreatWlMem
namespace Go.Proofs.YtaopehogpdgkgaaGreat
open Go.RowKit
set_option maxHeartbeats 1000000 in
theorem word_c (b pb : Nat) (s : ByteArray) (k : Nat) (hk : k ≤ s.size) (hs : s.size ≤ 1000000) (w : World) (hp : w.heap[pb]? = some (.cells #[.pointer (some ⟨b, 0, none⟩)] 45 (0, 0))) (hc : Cur w b s k) :
    Calls Tryz.prog 26 #[.pointer (some ⟨pb, 0, none⟩)] w fun e w' => e = .returned (.tuple #[.string (S (lowerL (tokL (s.data.toList.drop k)))), .bool (!(tokL (s.data.toList.drop k)).isEmpty)]) ∧
      (∃ k', k ≤ k' ∧ k' ≤ s.size ∧ s.data.toList.drop k' = tokR (s.data.toList.drop k) ∧ Cur w' b s k') ∧ Only b w w' := by
  have hl : (tokL (s.data.toList.drop k)).length ≤ s.size := by
    have h1 : (tokL (s.data.toList.drop k)).length ≤ (s.data.toList.drop k).length := List.Sublist.length_le (List.takeWhile_sublist _)
    rw [List.length_drop, size_toList] at h1; omega
  have hcp : w.cell? ⟨pb, 0, none⟩ = some (.pointer (some ⟨b, 0, none⟩)) := by simp [World.cell?, hp]
  have HC := Lib.hid hc
  have HLo := Lib.hid (lower_c (S (tokL (s.data.toList.drop k))) (by rw [S_size]; omega))
  clear hp hc
  go_enter Tryz.func26, Tryz.ntmps26
  go_wp2_with fail
  refine (cToken_c b s k hk hs _ HC.out).mono ?_
  rintro e w1 ⟨rfl, ⟨k', h1, h2, h3, hc1⟩, ho1⟩
  have HC1 := Lib.hid hc1
  have H3 := Lib.hid h3
  clear hc1 h3
  go_wp2_with fail
  refine (HLo.out _).mono ?_
  rintro e w2 ⟨rfl, hb2⟩
  go_wp2_with fail
  go_ret2
  exact ⟨rfl, ⟨k', h1, h2, H3.out, HC1.out.below hb2 HC1.out.lt⟩, ho1.trans (Only.of_below hb2)⟩
def md0 : Array Value := #[.string ⟨#[]⟩, .string ⟨#[]⟩, .slice none 0 0]
structure MS (w wr : World) (s : ByteArray) (k : Nat) (ta tb pv : Value) (acc : List Fld) : Prop where
  bel : Below w.heap.size w wr
  res : wr.heap[w.heap.size]? = some (.cells md0 25 (0, 0))
  cur : Cur wr (w.heap.size + 1) s k
  var : wr.heap[w.heap.size + 1 + 1]? = some (.cells #[.pointer (some ⟨w.heap.size + 1, 0, none⟩)] 45 (0, 0))
  blk : wr.heap[w.heap.size + 1 + 1 + 1]? = some (.cells #[ta, tb, pv] 25 (0, 0))
  own : Flds wr (w.heap.size + 1 + 1 + 1 + 1) pv acc
section
variable {w wr w' : World} {s : ByteArray} {k : Nat} {ta tb pv : Value} {acc : List Fld}
theorem MS.size (h : MS w wr s k ta tb pv acc) : w.heap.size + 1 + 1 + 1 < wr.heap.size := heap_lt h.blk
theorem MS.only (h : MS w wr s k ta tb pv acc) {k' : Nat} (hc : Cur w' (w.heap.size + 1) s k') (ho : Only (w.heap.size + 1) wr w') : MS w w' s k' ta tb pv acc :=
  have h3 := h.size
  ⟨h.bel.trans (ho.below (by omega) (by omega)), (ho.block _ (by omega) (by simp; try omega)).trans h.res, hc, (ho.block _ (by omega) (by simp; try omega)).trans h.var, (ho.block _ h3 (by simp; try omega)).trans h.blk,
    h.own.off ho fun g hg => by cases hg; exact .inl (by omega)⟩
theorem MS.alloc (h : MS w wr s k ta tb pv acc) (o : Obj) : MS w (wr.alloc o) s k ta tb pv acc :=
  have hb := (Below.refl _ wr).alloc (Nat.le_refl _) o
  h.only (h.cur.below hb h.cur.lt) (Only.of_below hb)
theorem MS.drewN (h : MS w wr s k ta tb pv acc) (n : Nat) : MS w (wr.drewN n) s k ta tb pv acc := ⟨⟨h.bel.os, h.bel.tape, h.bel.output, h.bel.size, h.bel.block⟩, h.res, h.cur, h.var, h.blk, h.own⟩
theorem MS.far (h : MS w wr s k ta tb pv acc) {a : Addr} (h1 : w.heap.size + 1 + 1 + 1 < a.block) (h3 : pv.ownBlock ≠ some a.block) (u : Value) : MS w (wr.setCell a u) s k ta tb pv acc :=
  ⟨h.bel.setCell (by omega) u, (Below.heap_setCell wr a u _ (by omega)).trans h.res, (Below.heap_setCell wr a u _ (by omega)).trans h.cur, (Below.heap_setCell wr a u _ (by omega)).trans h.var, (Below.heap_setCell wr a u _ (by omega)).trans h.blk,
    World.ownsRow.kept h.own (row := some a.block) ⟨rfl, rfl, rfl, by simp, fun k _ hk => Below.heap_setCell wr a u k (fun e => hk (by rw [e]))⟩ (.inr h3)⟩
theorem MS.store (h : MS w wr s k ta tb pv acc) (j : Nat) (u : Value) {ta' tb' pv' : Value} {acc' : List Fld} (he : (#[ta, tb, pv] : Array Value).setIfInBounds j u = #[ta', tb', pv']) (ho : Flds wr (w.heap.size + 1 + 1 + 1 + 1) pv' acc') : MS w (wr.setCell ⟨w.heap.size + 1 + 1 + 1, j, none⟩ u) s k ta' tb' pv' acc' := by
  refine ⟨h.bel.setCell (by simp; omega) u, (Below.heap_setCell wr _ u _ (by simp; try omega)).trans h.res, (Below.heap_setCell wr _ u _ (by simp; try omega)).trans h.cur, (Below.heap_setCell wr _ u _ (by simp; try omega)).trans h.var, ?_, ?_⟩
  · simp [World.setCell, Array.getElem?_modify, h.blk, ← he]
  · refine ho.off (row := some (w.heap.size + 1 + 1 + 1)) ⟨rfl, rfl, rfl, by simp, fun k _ hk => Below.heap_setCell wr _ u k (fun e => hk (by rw [e]))⟩ fun g hg => ?_
    cases hg
    exact .inl (by omega)
theorem MS.app (h : MS w wr s k ta tb pv acc) {o : Obj} (hg : (wr.alloc o).grownBy w' pv.ownBlock) {pv' : Value} {acc' : List Fld} (ho : Flds w' (w.heap.size + 1 + 1 + 1 + 1) pv' acc') : MS w (w'.setCell ⟨w.heap.size + 1 + 1 + 1, 2, none⟩ pv') s k ta tb pv' acc' ∧ w'.heap[w.heap.size + 1 + 1 + 1]? = some (.cells #[ta, tb, pv] 25 (0, 0)) := by
  have h3 := h.size
  have key : ∀ g, g ≤ w.heap.size + 1 + 1 + 1 → w'.heap[g]? = wr.heap[g]? := fun g hlt =>
    (hg.block g (by simp; omega) (fun e => by have := (World.ownsRow.lt h.own g e.symm).1; omega)).trans (Below.heap_alloc wr o g (by omega))
  have hm : MS w w' s k ta tb pv' acc' → False → False := fun _ f => f
  have hbel : Below w.heap.size w w' := ⟨hg.os.trans h.bel.os, hg.tape.trans h.bel.tape, hg.output.trans h.bel.output, Nat.le_trans h.bel.size (by have := hg.size; simp at this; omega), fun j hj => (key j (by omega)).trans (h.bel.block j hj)⟩
  refine ⟨⟨hbel.setCell (by simp; omega) _, (Below.heap_setCell _ _ _ _ (by simp; try omega)).trans ((key _ (by omega)).trans h.res), (Below.heap_setCell _ _ _ _ (by simp; try omega)).trans ((key _ (by omega)).trans h.cur), (Below.heap_setCell _ _ _ _ (by simp; try omega)).trans ((key _ (by omega)).trans h.var), ?_, ?_⟩, (key _ (by omega)).trans h.blk⟩
  · simp [World.setCell, Array.getElem?_modify, (key _ (Nat.le_refl _)).trans h.blk]
  · refine ho.off (row := some (w.heap.size + 1 + 1 + 1)) ⟨rfl, rfl, rfl, by simp, fun k _ hk => Below.heap_setCell _ _ _ k (fun e => hk (by rw [e]))⟩ fun g hg => ?_
    cases hg
    exact .inl (by omega)
theorem MS.c2 (h : MS w wr s k ta tb pv acc) : wr.cell? ⟨w.heap.size + 1 + 1, 0, none⟩ = some (.pointer (some ⟨w.heap.size + 1, 0, none⟩)) := by simp [World.cell?, h.var]
end
theorem cells3m {w : World} {g : Nat} {x y z : Value} {T : TypeId} (h : w.heap[g]? = some (.cells #[x, y, z] T (0, 0))) : w.cell? ⟨g, 0, none⟩ = some x ∧ w.cell? ⟨g, 1, none⟩ = some y ∧ w.cell? ⟨g, 2, none⟩ = some z ∧ w.frozen? ⟨g, 0, none⟩ = false ∧ w.frozen? ⟨g, 1, none⟩ = false ∧ w.frozen? ⟨g, 2, none⟩ = false := by
  simp [World.cell?, World.frozen?, h]
end Go.Proofs.YtaopehogpdgkgaaGreat
