/- The lines of a head: the box and its next line (chapter 18). -/
import Derived.Test.YtegejmbkpdlekaaHdFind
namespace Go.Proofs.Ytegejmbkpdlekaa
open Go.RowKit
def crlfL : List UInt8 := [13, 10]
def lineL (l : List UInt8) : List UInt8 := (Lib.cut l crlfL).1
def restL (l : List UInt8) : List UInt8 := (Lib.cut l crlfL).2.1
def moreL (l : List UInt8) : Bool := (Lib.cut l crlfL).2.2
/-- block b holds the lines that are left -/
def Ln (w : World) (b : Nat) (r : ByteArray) (m : Bool) : Prop := w.heap[b]? = some (.cells #[.string r, .bool m] 73 (0, 0))
section
variable {w w' : World} {b : Nat} {r : ByteArray} {m : Bool}
theorem Ln.lt (h : Ln w b r m) : b < w.heap.size := heap_lt h
theorem Ln.c0 (h : Ln w b r m) : w.cell? ⟨b, 0, none⟩ = some (.string r) := by unfold Ln at h; simp [World.cell?, h]
theorem Ln.c1 (h : Ln w b r m) : w.cell? ⟨b, 1, none⟩ = some (.bool m) := by unfold Ln at h; simp [World.cell?, h]
theorem Ln.f0 (h : Ln w b r m) : w.frozen? ⟨b, 0, none⟩ = false := by unfold Ln at h; simp [World.frozen?, h]
theorem Ln.f1 (h : Ln w b r m) : w.frozen? ⟨b, 1, none⟩ = false := by unfold Ln at h; simp [World.frozen?, h]
theorem Ln.set0 (h : Ln w b r m) (r' : ByteArray) : Ln (w.setCell ⟨b, 0, none⟩ (.string r')) b r' m := by
  have hlt := h.lt
  unfold Ln at *
  have h' : w.heap[b] = .cells #[.string r, .bool m] 73 (0, 0) := by simpa [Array.getElem?_eq_getElem hlt] using h
  show (w.heap.modify b _)[b]? = _
  rw [Array.getElem?_eq_getElem (by simpa using hlt), Array.getElem_modify_self, h']
  rfl
theorem Ln.set1 (h : Ln w b r m) (m' : Bool) : Ln (w.setCell ⟨b, 1, none⟩ (.bool m')) b r m' := by
  have hlt := h.lt
  unfold Ln at *
  have h' : w.heap[b] = .cells #[.string r, .bool m] 73 (0, 0) := by simpa [Array.getElem?_eq_getElem hlt] using h
  show (w.heap.modify b _)[b]? = _
  rw [Array.getElem?_eq_getElem (by simpa using hlt), Array.getElem_modify_self, h']
  rfl
theorem Ln.below {B : Nat} (h : Ln w b r m) (hB : Below B w w') (hlt : b < B) : Ln w' b r m := (hB.block b hlt).trans h
theorem Ln.kept {b' : Nat} (h : Ln w b r m) (ho : Only b' w w') (hne : b ≠ b') : Ln w' b r m := (ho.block b h.lt (by simp; omega)).trans h
theorem Ln.drewN (h : Ln w b r m) (n : Nat) : Ln (w.drewN n) b r m := h
end
theorem MaxAt.only {m : Int} {b : Nat} {w w' : World} (h : MaxAt m w) (ho : Only b w w') (hne : 0 ≠ b) : MaxAt m w' := by
  have hlt := h.lt
  unfold MaxAt World.cell? at *
  rw [ho.block _ hlt (by simp; omega)]
  exact h

set_option maxHeartbeats 1000000 in
theorem hNext_c (b : Nat) (r : ByteArray) (m : Bool) (hs : r.size ≤ 1000000) (M : Int) (w : World) (hl : Ln w b r m) (hm : MaxAt M w) :
    Calls Try.prog 50 #[.pointer (some ⟨b, 0, none⟩)] w fun e w' => e = .returned (.string (S (lineL r.data.toList))) ∧ Ln w' b (S (restL r.data.toList)) (moreL r.data.toList) ∧ Only b w w' := by
  have c0 := hl.c0
  have c1 := hl.c1
  have f0 := hl.f0
  have f1 := hl.f1
  have HL := Lib.hid hl
  have HM := Lib.hid hm
  clear hl hm
  go_enter Try.func50, Try.ntmps50
  go_wp2_with fail
  refine (cut_c r ⟨#[13, 10]⟩ M _ (by omega) HM.out).mono ?_
  rintro e w' ⟨rfl, n, rfl⟩
  go_wp2_with fail
  go_ret
  exact ⟨rfl, ((HL.out.drewN n).set0 _).set1 _, (((Only.refl b w).drewN n).trans (Only.set _)).trans (Only.set _)⟩
end Go.Proofs.Ytegejmbkpdlekaa
