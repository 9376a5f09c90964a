/- The walk of the reference's parse of a media type (chapter 20). -/
import Derived.Test.YtaopehogpdgkgaaMdParse
import Derived.Deep.RegionHeld3
namespace Go.Proofs.Ytaopehogpdgkgaa
open Go.RowKit
/-- what the reference's parse answers -/
def RMR (w w' : World) (X : MX) (e : Ending) : Prop :=
  (X = none ∧ e = .returned (.tuple #[.agg #[.string ⟨#[]⟩, .string ⟨#[]⟩, .slice none 0 0], .bool false])) ∨
  ∃ a b fs v, X = some (a, b, fs) ∧ e = .returned (.tuple #[.agg #[.string (S a), .string (S b), v], .bool true]) ∧ Flds w' w.heap.size v fs
theorem rmr_err {w w' : World} {X : MX} {v : Value} (h : X = none) (hv : v = .tuple #[.agg #[.string ⟨#[]⟩, .string ⟨#[]⟩, .slice none 0 0], .bool false]) : RMR w w' X (.returned v) := .inl ⟨h, by rw [hv]⟩
/-- the media type's block, its parameters, the result's block -/
def MH (w wr : World) (hb : Nat) (x y fv : Value) (acc : List Fld) : Prop :=
  wr.heap[hb]? = some (.cells #[x, y, fv] 32 (0, 0)) ∧ Flds wr (hb + 1) fv acc ∧ Below w.heap.size w wr ∧ wr.heap[w.heap.size]? = some (.cells #[.string ⟨#[]⟩, .string ⟨#[]⟩, .slice none 0 0] 32 (0, 0))
theorem m_own_blk {w : World} {B n size : Nat} {e : TypeId} {v : Value} {xs : List Value} (h : w.ownsRow B e size v n xs) {g : Nat} (hg : v.ownBlock = some g) : B ≤ g := (World.ownsRow.lt h g hg).1
theorem m_cell {W w7 w8 : World} {hb : Nat} {o : Obj} {fv : Value} {acc : List Fld} {x : Obj} (h : w7.heap[hb]? = some x) (hg : (w7.alloc o).grownBy w8 fv.ownBlock) (hf : Flds W (hb + 1) fv acc) : w8.heap[hb]? = some x :=
  (hg.block hb (by have := heap_lt h; simp; omega) (fun e => by have := m_own_blk hf e.symm; omega)).trans ((Below.heap_alloc _ _ _ (heap_lt h)).trans h)
theorem m_alloc {w : World} {a : Addr} {v : Value} {o : Obj} (h : w.cell? a = some v ∧ w.frozen? a = false) : (w.alloc o).cell? a = some v ∧ (w.alloc o).frozen? a = false := by
  have hlt := World.block_lt_of_cell? _ _ h.1
  have hb := (Below.refl _ w).alloc (Nat.le_refl _) o
  exact ⟨(hb.cell hlt).trans h.1, (World.frozen?_of_block (hb.block _ hlt)).trans h.2⟩
theorem m_set2 {w : World} {hb : Nat} {x y z : Value} {T : TypeId} (h : w.heap[hb]? = some (.cells #[x, y, z] T (0, 0))) (u : Value) : (w.setCell ⟨hb, 2, none⟩ u).heap[hb]? = some (.cells #[x, y, u] T (0, 0)) := by
  simp [World.setCell, Array.getElem?_modify, h]
theorem mh_app {w W W1 w7 W7 w8 : World} {hb g cap : Nat} {x y fv : Value} {acc : List Fld} {f : Fld}
    (h : MH w W hb x y fv acc) (hbs : w.heap.size < hb)
    (e1 : W1.heap = W.heap) (hb7 : Below W1.heap.size W1 w7) (hb7' : Below w7.heap.size w7 W7) (hgr : W7.grownBy w8 fv.ownBlock)
    (hown : w8.ownsRow (hb + 1) 56 2 (.slice (some ⟨g, 0, none⟩) (acc.length + 1) cap) (acc.length + 1) (fldsV acc ++ [.string (S f.1), .string (S f.2)]))
    (hb0 : Below w.heap.size w W1) :
    MH w (w8.setCell ⟨hb, 2, none⟩ (.slice (some ⟨g, 0, none⟩) (acc.length + 1) cap)) hb x y (.slice (some ⟨g, 0, none⟩) (acc.length + 1) cap) (acc ++ [f]) := by
  obtain ⟨hh, hf, hB, hg⟩ := h
  have hlt := heap_lt hh
  have hne : fv.ownBlock ≠ some hb := fun e => by have := m_own_blk hf e; omega
  have hs1 : W1.heap.size = W.heap.size := by rw [e1]
  have hs7 := hb7.size
  have hs7' := hb7'.size
  have keep : ∀ j, j < W.heap.size → fv.ownBlock ≠ some j → w8.heap[j]? = W.heap[j]? := by
    intro j hj hn
    rw [hgr.block j (by omega) (fun e => hn e.symm), hb7'.block j (by omega), hb7.block j (by omega), e1]
  have k1 := (keep hb hlt hne).trans hh
  have hB8 : Below w.heap.size w w8 := by
    refine (hb0.trans (hb7.mono (by have := hB.size; omega))).trans ((hb7'.mono (by have := hB.size; omega)).trans ⟨hgr.os, hgr.tape, hgr.output, hgr.size, fun j hj => hgr.block j (by have := hB.size; omega) (fun e => ?_)⟩)
    have := m_own_blk hf e.symm; omega
  refine ⟨m_set2 k1 _, ?_, hB8.setCell (by simp; omega) _, ?_⟩
  · unfold Flds
    rw [fldsV_snoc, List.length_append]
    exact own_keep hown (Only.set (b := hb) _) (fun g' e => by cases e; exact .inl (Nat.lt_succ_self _))
  · rw [Below.heap_setCell _ _ _ _ (by simp; omega)]
    refine (keep _ (by omega) (fun e => ?_)).trans hg
    have := m_own_blk hf e; omega
theorem m_later {w w' : World} {B : Nat} {v : Value} {l : List Fld} (hb : Below w.heap.size w w') (h : Flds w B v l) : Flds w' B v l := h.later hb
def mparK (nm r : List UInt8) : Option (Fld × List UInt8) := match r with
  | [] => none
  | c :: t => if c.toNat = 61 then (valueL t).map fun y => ((lowerL nm, y.1), y.2) else none
def medK (n : Nat) (nm r : List UInt8) : MX := match r with
  | [] => none
  | c :: t => if c.toNat = 47 then (match tokO t with
      | none => none
      | some (b, q) => (mparsF n q).map fun fs => (lowerL nm, lowerL b, fs)) else none
theorem mpar_tok {l nm r : List UInt8} (h : tokO (blankL l) = some (nm, r)) : mpar l = mparK nm r := by
  unfold mpar mparK; simp only [h]; cases r <;> rfl
theorem mpar_none {l : List UInt8} (h : tokO (blankL l) = none) : mpar l = none := by unfold mpar; simp only [h]
theorem med_none {l : List UInt8} (h : tokO (blankL l) = none) : mediaL l = none := by unfold mediaL mtype; simp only [h]
theorem med_tok {l nm r : List UInt8} (h : tokO (blankL l) = some (nm, r)) : mediaL l = medK (l.length + 1) nm r := by
  unfold mediaL mtype medK; simp only [h]
  cases r with
  | nil => rfl
  | cons c t =>
    simp only
    by_cases hc : c.toNat = 47
    · rw [if_pos hc, if_pos hc]
      cases tokO t with
      | none => rfl
      | some y => rfl
    · rw [if_neg hc, if_neg hc]
/-- the loop's relation -/
def RMP (w wr : World) (hb : Nat) (s : ByteArray) (gf : Nat) (x y : Value) (Y : Option (List Fld)) (u5 : Value) : Prop :=
  ∃ (k n : Nat) (pv : Value) (acc : List Fld), u5 = .int .i64 (k : Int) ∧ k ≤ s.size ∧ s.size ≤ k + gf ∧ acc.length ≤ k ∧ (s.data.toList.drop k).length < n ∧ MH w wr hb x y pv acc ∧ preM acc (mparsF n (s.data.toList.drop k)) = Y
theorem tok_len2 {l nm r : List UInt8} (h : tokO l = some (nm, r)) : nm.length ≤ l.length := by
  unfold tokO at h
  split at h
  · cases h
  · injection h with h; injection h with h1 h2; subst h1; exact tok_len l
end Go.Proofs.Ytaopehogpdgkgaa
