/- A parameter of a link: plain, and the contract of weblink.parameter. -/
import Derived.Test.YtegejmbkpdlekaaTarget
namespace Go.Proofs.Ytegejmbkpdlekaa
open Go.RowKit
abbrev Fld := List UInt8 × List UInt8
/-- a parameter: name and value, and the rest -/
def paramL (l : List UInt8) : Option (Fld × List UInt8) :=
  if (tokL l).isEmpty then none else
  match blankL (tokR l) with
  | [] => some ((lowerL (tokL l), []), [])
  | c :: t => if c.toNat = 61 then (valueL (blankL t)).map fun x => ((lowerL (tokL l), x.1), x.2) else some ((lowerL (tokL l), []), c :: t)
def fldV (f : Fld) : Value := .agg #[.string (S f.1), .string (S f.2)]
/-- what parameter answers -/
def PR (x : Option (Fld × List UInt8)) (e : Ending) : Prop :=
  (x = none ∧ ∃ n, e = .returned (.tuple #[.agg #[.string n, .string ⟨#[]⟩], .bool false])) ∨ ∃ y, x = some y ∧ e = .returned (.tuple #[fldV y.1, .bool true])
/-- behind a reader that answers something with a rest -/
def AtRestF {α : Type} (w' : World) (b : Nat) (s : ByteArray) (k : Nat) (x : Option (α × List UInt8)) : Prop := ∃ k', k ≤ k' ∧ k' ≤ s.size ∧ Cur w' b s k' ∧ ∀ v r, x = some (v, r) → s.data.toList.drop k' = r
theorem fld_cells {w : World} {g : Nat} {n v : Value} (h : w.heap[g]? = some (.cells #[n, v] 61 (0, 0))) : w.cell? ⟨g, 0, none⟩ = some n ∧ w.cell? ⟨g, 1, none⟩ = some v ∧ w.frozen? ⟨g, 0, none⟩ = false ∧ w.frozen? ⟨g, 1, none⟩ = false := by
  simp [World.cell?, World.frozen?, h]
theorem Only.setNew {b : Nat} {w wr : World} (h : Only b w wr) {a : Addr} (ha : w.heap.size ≤ a.block) (u : Value) : Only b w (wr.setCell a u) :=
  ⟨h.os, h.tape, h.output, Nat.le_trans h.size (by simp), fun k hk hne => (Below.heap_setCell wr a u k (by omega)).trans (h.block k hk hne)⟩
theorem Cur.setNe {b k : Nat} {s : ByteArray} {w : World} (h : Cur w b s k) {a : Addr} (ha : b ≠ a.block) (u : Value) : Cur (w.setCell a u) b s k := (Below.heap_setCell w a u b ha).trans h
theorem par_none {l : List UInt8} (h : tokL l = []) : paramL l = none := by unfold paramL; rw [h]; rfl
theorem par_plain {s : ByteArray} {l : List UInt8} {k : Nat} (ht : (tokL l).isEmpty = false) (hk : s.data.toList.drop k = blankL (tokR l)) (hn : ∀ h : k < s.size, (s[k].toNat : Int) ≠ 61) : paramL l = some ((lowerL (tokL l), []), s.data.toList.drop k) := by
  unfold paramL
  rw [if_neg (by simp [ht]), ← hk]
  by_cases h : k < s.size
  · rw [drop_cons s k h]; simp only; rw [if_neg (by have := hn h; omega)]
  · rw [drop_end s k h]
theorem par_val {s : ByteArray} {l : List UInt8} {k : Nat} (ht : (tokL l).isEmpty = false) (hk : s.data.toList.drop k = blankL (tokR l)) (h : k < s.size) (hn : (s[k].toNat : Int) = 61) : paramL l = (valueL (blankL (s.data.toList.drop (k + 1)))).map fun x => ((lowerL (tokL l), x.1), x.2) := by
  unfold paramL
  rw [if_neg (by simp [ht]), ← hk, drop_cons s k h]; simp only; rw [if_pos (by omega)]
end Go.Proofs.Ytegejmbkpdlekaa
