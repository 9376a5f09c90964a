/- Contract of weblink.link. -/
import Derived.Test.YtaopehogpdgkgaaGreatWlRels
namespace Go.Proofs.YtaopehogpdgkgaaGreat
open Go.RowKit
def wl0 : Array Value := #[.string ⟨#[]⟩, .slice none 0 0, .slice none 0 0]
/-- what link holds in memory: its result's block, its link at block gW, the parameters that it owns -/
structure LS (w wr : World) (b gW : Nat) (cs : Array Value) (pv : Value) (acc : List Fld) : Prop where
  only : Only b w wr
  lt : b < w.heap.size
  res : wr.heap[w.heap.size]? = some (.cells wl0 59 (0, 0))
  blk : wr.heap[gW]? = some (.cells cs 59 (0, 0))
  gt : w.heap.size < gW
  own : Flds wr w.heap.size pv acc
section
variable {w wr w' : World} {b gW : Nat} {cs : Array Value} {pv : Value} {acc : List Fld}
theorem LS.size (h : LS w wr b gW cs pv acc) : gW < wr.heap.size := heap_lt h.blk
theorem LS.then_ (h : LS w wr b gW cs pv acc) (ho : Only b wr w') : LS w w' b gW cs pv acc :=
  have h1 := h.lt
  have h2 := h.gt
  have h3 := h.size
  ⟨h.only.trans ho, h1, (ho.block _ (by omega) (by simp; omega)).trans h.res, (ho.block _ h3 (by simp; omega)).trans h.blk, h2, h.own.off ho fun g hg => by cases hg; exact .inl h1⟩
theorem LS.alloc (h : LS w wr b gW cs pv acc) (o : Obj) : LS w (wr.alloc o) b gW cs pv acc := h.then_ (Only.of_below ((Below.refl _ _).alloc (Nat.le_refl _) _))
theorem LS.far (h : LS w wr b gW cs pv acc) {a : Addr} (h1 : w.heap.size < a.block) (h2 : gW ≠ a.block) (h3 : pv.ownBlock ≠ some a.block) (u : Value) : LS w (wr.setCell a u) b gW cs pv acc :=
  ⟨h.only.setNew (by omega) u, h.lt, (Below.heap_setCell wr a u _ (by omega)).trans h.res, (Below.heap_setCell wr a u _ h2).trans h.blk, h.gt,
    World.ownsRow.kept h.own (row := some a.block) ⟨rfl, rfl, rfl, by simp, fun k _ hk => Below.heap_setCell wr a u k (fun e => hk (by rw [e]))⟩ (.inr h3)⟩
theorem LS.store (h : LS w wr b gW cs pv acc) {j : Nat} (u : Value) {pv' : Value} {acc' : List Fld} (ho : Flds wr w.heap.size pv' acc') : LS w (wr.setCell ⟨gW, j, none⟩ u) b gW (cs.setIfInBounds j u) pv' acc' := by
  have h2 := h.gt
  refine ⟨h.only.setNew (by simp; omega) u, h.lt, (Below.heap_setCell wr _ u _ (by simp; omega)).trans h.res, ?_, h2, ?_⟩
  · simp [World.setCell, Array.getElem?_modify, h.blk]
  · refine ho.off (row := some gW) ⟨rfl, rfl, rfl, by simp, fun k _ hk => Below.heap_setCell wr _ u k (fun e => hk (by rw [e]))⟩ fun g hg => ?_
    cases hg
    exact .inr (off_of h.blk (by decide) (by decide))
theorem LS.app (h : LS w wr b gW cs pv acc) {o : Obj} (hg : (wr.alloc o).grownBy w' pv.ownBlock) {pv' : Value} {acc' : List Fld} (ho : Flds w' w.heap.size pv' acc') : LS w w' b gW cs pv' acc' := by
  have h1 := h.lt
  have h2 := h.gt
  have h3 := h.size
  have key : ∀ g C, g < wr.heap.size → wr.heap[g]? = some (.cells C 59 (0, 0)) → w'.heap[g]? = some (.cells C 59 (0, 0)) := fun g C hlt hC =>
    ((hg.block g (by simp; omega) (fun e => by
      obtain ⟨C', hC'⟩ := own_off h.own e.symm
      rw [hC] at hC'; injection hC' with hC'; injection hC' with _ hC' _; revert hC'; decide)).trans (Below.heap_alloc wr o g hlt)).trans hC
  refine ⟨⟨hg.os.trans h.only.os, hg.tape.trans h.only.tape, hg.output.trans h.only.output, Nat.le_trans h.only.size (by have := hg.size; simp at this; omega), fun k hk hne => ?_⟩, h1, key _ _ (by omega) h.res, key _ _ h3 h.blk, h2, ho⟩
  have hs := h.only.size
  exact ((hg.block k (by simp; omega) (fun e => by have := (World.ownsRow.lt h.own k e.symm).1; omega)).trans (Below.heap_alloc wr o k (by omega))).trans (h.only.block k hk hne)
end
theorem setCell_cells {w : World} {a : Addr} {u : Value} {g : Nat} {C : Array Value} {T : TypeId} {m : Nat × Nat} (h : (w.setCell a u).heap[g]? = some (.cells C T m)) : ∃ C', w.heap[g]? = some (.cells C' T m) := by
  by_cases hg : g = a.block
  · subst hg
    simp only [World.setCell, Array.getElem?_modify, if_true] at h
    cases ho : w.heap[a.block]? with
    | none => rw [ho] at h; cases h
    | some o =>
      rw [ho] at h
      cases o with
      | cells c e f => simp at h; exact ⟨c, by rw [h.2.1, h.2.2]⟩
      | map _ _ => simp at h
      | _ => simp at h
  · rw [Below.heap_setCell w a u g hg] at h; exact ⟨C, h⟩
theorem Off.set {w : World} {g : Nat} (h : Off w g) (a : Addr) (u : Value) : Off (w.setCell a u) g := fun C m =>
  ⟨fun e => by obtain ⟨C', e'⟩ := setCell_cells e; exact (h C' m).1 e', fun e => by obtain ⟨C', e'⟩ := setCell_cells e; exact (h C' m).2 e'⟩
/-- what a result's cells are written over: rows of strings and fields stay -/
structure LK (w W : World) (b g0 g1 : Nat) (rv pv : Value) (R : List (List UInt8)) (acc : List Fld) : Prop where
  off0 : Off W g0
  off1 : Off W g1
  strs : Strs W w.heap.size rv R
  flds : Flds W w.heap.size pv acc
  only : Only b w W
theorem LK.set {w W : World} {b g0 g1 : Nat} {rv pv : Value} {R : List (List UInt8)} {acc : List Fld} (h : LK w W b g0 g1 rv pv R acc) {a : Addr} (ha : a.block = g0 ∨ a.block = g1) (hs : w.heap.size ≤ a.block) (u : Value) : LK w (W.setCell a u) b g0 g1 rv pv R acc := by
  have hg : W.grownBy (W.setCell a u) (some a.block) := ⟨rfl, rfl, rfl, by simp, fun k _ hk => Below.heap_setCell W a u k (fun e => hk (by rw [e]))⟩
  have ho : ∀ g, some a.block = some g → g < w.heap.size ∨ Off W g := fun g hg => by
    cases hg
    rcases ha with ha | ha
    · rw [ha]; exact .inr h.off0
    · rw [ha]; exact .inr h.off1
  exact ⟨h.off0.set a u, h.off1.set a u, h.strs.off hg ho, h.flds.off hg ho, h.only.setNew hs u⟩
theorem LK.four {w W : World} {b g1 : Nat} {rv pv : Value} {R : List (List UInt8)} {acc : List Fld} (h : LK w W b w.heap.size g1 rv pv R acc) (hs : w.heap.size < g1) (u u0 u1 u2 : Value) :
    LK w ((((W.setCell ⟨g1, 1, none⟩ u).setCell ⟨w.heap.size, 0, none⟩ u0).setCell ⟨w.heap.size, 1, none⟩ u1).setCell ⟨w.heap.size, 2, none⟩ u2) b w.heap.size g1 rv pv R acc :=
  (((h.set (a := ⟨g1, 1, none⟩) (.inr rfl) (Nat.le_of_lt hs) u).set (a := ⟨w.heap.size, 0, none⟩) (.inl rfl) (Nat.le_refl _) u0).set (a := ⟨w.heap.size, 1, none⟩) (.inl rfl) (Nat.le_refl _) u1).set (a := ⟨w.heap.size, 2, none⟩) (.inl rfl) (Nat.le_refl _) u2
theorem Cur.four {w W : World} {b k g1 : Nat} {s : ByteArray} (h : Cur W b s k) (hb : b < w.heap.size) (hs : w.heap.size < g1) (u u0 u1 u2 : Value) :
    Cur ((((W.setCell ⟨g1, 1, none⟩ u).setCell ⟨w.heap.size, 0, none⟩ u0).setCell ⟨w.heap.size, 1, none⟩ u1).setCell ⟨w.heap.size, 2, none⟩ u2) b s k :=
  (((h.setNe (a := ⟨g1, 1, none⟩) (by simp; omega) u).setNe (a := ⟨w.heap.size, 0, none⟩) (by simp; omega) u0).setNe (a := ⟨w.heap.size, 1, none⟩) (by simp; omega) u1).setNe (a := ⟨w.heap.size, 2, none⟩) (by simp; omega) u2
theorem LS.lk {w W : World} {b gW : Nat} {cs : Array Value} {pv rv : Value} {acc : List Fld} {R : List (List UInt8)} (h : LS w W b gW cs pv acc) (hS : Strs W w.heap.size rv R) : LK w W b w.heap.size gW rv pv R acc :=
  ⟨off_of h.res (by decide) (by decide), off_of h.blk (by decide) (by decide), hS, h.own, h.only⟩
theorem own_slice {w : World} {B n size : Nat} {e : TypeId} {v : Value} {xs : List Value} (h : w.ownsRow B e size v n xs) : ∃ A n c, v = .slice A n c := by
  rcases h.2 with ⟨rfl, _⟩ | ⟨g, cap, cur, rfl, _⟩
  · exact ⟨_, _, _, rfl⟩
  · exact ⟨_, _, _, rfl⟩
theorem rels_s (w : World) (B : Nat) (pv : Value) (ps : List Fld) (hF : Flds w B pv ps) (hn : ps.length ≤ 1000000) (hl : ∀ f ∈ ps, f.2.length ≤ 1000000) :
    Calls Tryz.prog 62 #[pv] w fun e w' => ∃ A n c, e = .returned (.slice A n c) ∧ Strs w' w.heap.size (.slice A n c) (relsL ps) ∧ Below w.heap.size w w' :=
  (rels_c w B pv ps hF hn hl).mono fun e w' ⟨⟨rv, he, hs⟩, hb⟩ => by
    obtain ⟨A, n, c, rfl⟩ := own_slice hs
    exact ⟨A, n, c, he, hs, hb⟩
end Go.Proofs.YtaopehogpdgkgaaGreat
