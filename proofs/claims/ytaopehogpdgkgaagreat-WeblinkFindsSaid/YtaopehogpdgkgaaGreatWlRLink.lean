/- Contract of webfingerref22.link: words. -/
import Derived.Test.YtaopehogpdgkgaaGreatWlWords
namespace Go.Proofs.YtaopehogpdgkgaaGreat
open Go.RowKit
def anyRel (l : List Fld) : Bool := l.any fun f => decide (f.1 = relW)
theorem rels_none {l : List Fld} (h : anyRel l = false) (t : List Fld) : relsL (l ++ t) = relsL t := by
  induction l with
  | nil => rfl
  | cons f u ih =>
    simp only [anyRel, List.any_cons, Bool.or_eq_false_iff, decide_eq_false_iff_not] at h
    show relsL (f :: (u ++ t)) = _
    rw [relsL, if_neg h.1]
    exact ih h.2
theorem rels_some {l : List Fld} (h : anyRel l = true) (t : List Fld) : relsL (l ++ t) = relsL l := by
  induction l with
  | nil => cases h
  | cons f u ih =>
    show relsL (f :: (u ++ t)) = _
    by_cases hf : f.1 = relW
    · rw [relsL, relsL, if_pos hf, if_pos hf]
    · simp only [anyRel, List.any_cons, Bool.or_eq_true, decide_eq_true_eq] at h
      rw [relsL, relsL, if_neg hf, if_neg hf]
      exact ih (h.resolve_left hf)
theorem any_snoc (l : List Fld) (f : Fld) : anyRel (l ++ [f]) = (anyRel l || decide (f.1 = relW)) := by simp [anyRel]
theorem rels_old {l : List Fld} {f : Fld} (h : anyRel l = true) : relsL (l ++ [f]) = relsL l ∧ anyRel (l ++ [f]) = true := ⟨rels_some h _, by rw [any_snoc, h]; rfl⟩
theorem rels_new {l : List Fld} {f : Fld} (h : anyRel l = false) (hf : f.1 = relW) : relsL (l ++ [f]) = wordsL (lowerL f.2) ∧ anyRel (l ++ [f]) = true := ⟨by rw [rels_none h, relsL, if_pos hf], by rw [any_snoc, h]; simp [hf]⟩
theorem rels_not {l : List Fld} {f : Fld} (h : anyRel l = false) (hf : ¬ f.1 = relW) : relsL (l ++ [f]) = relsL l ∧ anyRel (l ++ [f]) = false :=
  ⟨by have := rels_none h []; rw [List.append_nil] at this; rw [rels_none h, relsL, if_neg hf, this], by rw [any_snoc, h]; simp [hf]⟩
theorem pars_blank (n : Nat) (l : List UInt8) : paramsF n (blankL l) = paramsF n l := by
  cases n with
  | zero => rfl
  | succ n => rw [paramsF, paramsF, blank_blank]
/-- what the reference's link holds in memory -/
structure LQ (w wr : World) (gW : Nat) (cs : Array Value) (rv pv : Value) (R : List (List UInt8)) (acc : List Fld) : Prop where
  low : Below w.heap.size w wr
  res : wr.heap[w.heap.size]? = some (.cells wl0 59 (0, 0))
  blk : wr.heap[gW]? = some (.cells cs 59 (0, 0))
  gt : w.heap.size < gW
  strs : Strs wr w.heap.size rv R
  flds : Flds wr w.heap.size pv acc
section
variable {w wr w' : World} {gW : Nat} {cs : Array Value} {rv pv : Value} {R : List (List UInt8)} {acc : List Fld}
theorem LQ.size (h : LQ w wr gW cs rv pv R acc) : gW < wr.heap.size := heap_lt h.blk
theorem LQ.then_ (h : LQ w wr gW cs rv pv R acc) (hb : Below wr.heap.size wr w') : LQ w w' gW cs rv pv R acc :=
  have h2 := h.gt
  have h3 := h.size
  ⟨h.low.trans (hb.mono h.low.size), (hb.block _ (by omega)).trans h.res, (hb.block _ h3).trans h.blk, h2, h.strs.off (grown_below hb none) (fun g hg => by cases hg), h.flds.off (grown_below hb none) (fun g hg => by cases hg)⟩
theorem LQ.alloc (h : LQ w wr gW cs rv pv R acc) (o : Obj) : LQ w (wr.alloc o) gW cs rv pv R acc := h.then_ ((Below.refl _ _).alloc (Nat.le_refl _) _)
theorem LQ.store (h : LQ w wr gW cs rv pv R acc) {j : Nat} (u : Value) {rv' pv' : Value} {R' : List (List UInt8)} {acc' : List Fld} (hS : Strs wr w.heap.size rv' R') (hF : Flds wr w.heap.size pv' acc') :
    LQ w (wr.setCell ⟨gW, j, none⟩ u) gW (cs.setIfInBounds j u) rv' pv' R' acc' := by
  have h2 := h.gt
  have hg : wr.grownBy (wr.setCell ⟨gW, j, none⟩ u) (some gW) := ⟨rfl, rfl, rfl, by simp, fun k _ hk => Below.heap_setCell wr _ u k (fun e => hk (by rw [e]))⟩
  have ho : ∀ g, some gW = some g → g < w.heap.size ∨ Off wr g := fun g hg => by cases hg; exact .inr (off_of h.blk (by decide) (by decide))
  refine ⟨h.low.setCell (by simp; omega) u, (Below.heap_setCell wr _ u _ (by simp; omega)).trans h.res, ?_, h2, hS.off hg ho, hF.off hg ho⟩
  simp [World.setCell, Array.getElem?_modify, h.blk]
theorem LQ.app (h : LQ w wr gW cs rv pv R acc) {o : Obj} (hg : (wr.alloc o).grownBy w' pv.ownBlock) {pv' : Value} {acc' : List Fld} (hF : Flds w' w.heap.size pv' acc') : LQ w w' gW cs rv pv' R acc' := by
  have h2 := h.gt
  have h3 := h.size
  have hne : ∀ g C T, wr.heap[g]? = some (.cells C T (0, 0)) → T ≠ 52 → some g ≠ pv.ownBlock := fun g C T hC hT e => by
    obtain ⟨C', hC'⟩ := own_off h.flds e.symm
    rw [hC] at hC'; injection hC' with hC'; injection hC' with _ hC' _; exact hT hC'
  have key : ∀ g C, g < wr.heap.size → wr.heap[g]? = some (.cells C 59 (0, 0)) → w'.heap[g]? = some (.cells C 59 (0, 0)) := fun g C hlt hC =>
    ((hg.block g (by simp; omega) (hne g C _ hC (by decide))).trans (Below.heap_alloc wr o g hlt)).trans hC
  refine ⟨(h.low.alloc h.low.size o).grown hg (by have := h.low.size; simp; omega) (fun k hk => (World.ownsRow.lt h.flds k hk).1), key _ _ (by omega) h.res, key _ _ h3 h.blk, h2, ?_, hF⟩
  refine World.ownsRow.kept (World.ownsRow.alloc h.strs o) hg ?_
  cases hv : rv.ownBlock with
  | none => exact .inl rfl
  | some g =>
    obtain ⟨C, hC⟩ := own_off h.strs hv
    exact .inr (hne g C _ hC (by decide))
/-- three stores into the result's block -/
theorem LQ.three (h : LQ w wr gW cs rv pv R acc) (u0 u1 u2 : Value) : Below w.heap.size w (((wr.setCell ⟨w.heap.size, 0, none⟩ u0).setCell ⟨w.heap.size, 1, none⟩ u1).setCell ⟨w.heap.size, 2, none⟩ u2) ∧
    Strs (((wr.setCell ⟨w.heap.size, 0, none⟩ u0).setCell ⟨w.heap.size, 1, none⟩ u1).setCell ⟨w.heap.size, 2, none⟩ u2) w.heap.size rv R ∧ Flds (((wr.setCell ⟨w.heap.size, 0, none⟩ u0).setCell ⟨w.heap.size, 1, none⟩ u1).setCell ⟨w.heap.size, 2, none⟩ u2) w.heap.size pv acc := by
  refine ⟨((h.low.setCell (Nat.le_refl _) _).setCell (Nat.le_refl _) _).setCell (Nat.le_refl _) _, ?_⟩
  have hg : wr.grownBy (((wr.setCell ⟨w.heap.size, 0, none⟩ u0).setCell ⟨w.heap.size, 1, none⟩ u1).setCell ⟨w.heap.size, 2, none⟩ u2) (some w.heap.size) :=
    ⟨rfl, rfl, rfl, by simp, fun k _ hk => by
      have hk' : k ≠ w.heap.size := fun e => hk (by rw [e])
      rw [Below.heap_setCell _ _ _ _ hk', Below.heap_setCell _ _ _ _ hk', Below.heap_setCell _ _ _ _ hk']⟩
  have ho : ∀ g, some w.heap.size = some g → g < w.heap.size ∨ Off wr g := fun g hg => by cases hg; exact .inr (off_of h.res (by decide) (by decide))
  exact ⟨h.strs.off hg ho, h.flds.off hg ho⟩
end
/-- what the reference's link answers, read at offset k -/
def RLR (w w' : World) (s : ByteArray) (k : Nat) (x : Option (Lnk × List UInt8)) (e : Ending) : Prop :=
  (x = none ∧ e = .returned (.tuple #[.agg #[.string ⟨#[]⟩, .slice none 0 0, .slice none 0 0], .int .i64 0, .bool false])) ∨
  ∃ y A n c A' n' c' k', x = some (y, s.data.toList.drop k') ∧ k < k' ∧ k' ≤ s.size ∧ e = .returned (.tuple #[.agg #[.string (S y.1), .slice A n c, .slice A' n' c'], .int .i64 (k' : Int), .bool true]) ∧
    Strs w' w.heap.size (.slice A n c) y.2.1 ∧ Flds w' w.heap.size (.slice A' n' c') y.2.2
end Go.Proofs.YtaopehogpdgkgaaGreat
