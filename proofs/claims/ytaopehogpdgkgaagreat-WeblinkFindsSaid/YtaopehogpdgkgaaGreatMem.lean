/- Words for memory that a call makes: a row of bytes made by a conversion of a string. -/
import Derived.Lib.ConvBytes
import Derived.Laws.IdiomStrings
import Derived.Below
import Derived.WalkSmall
namespace Go.Proofs.YtaopehogpdgkgaaGreat
open Go.RowKit

theorem heap_lt {w : World} {g : Nat} {o : Obj} (h : w.heap[g]? = some o) : g < w.heap.size := (Array.getElem?_eq_some_iff.1 h).1

/-- block g is a row of bytes that a conversion has made: its first cells are l -/
def BytesAt (w : World) (g : Nat) (e : TypeId) (l : List UInt8) : Prop :=
  ∃ C : Array Value, w.heap[g]? = some (.cells C e (C.size, C.size + 1)) ∧ ∀ j (h : j < l.length), C[j]? = some (.int .u8 (l[j].toNat : Int))

section
variable {w : World} {g : Nat} {e : TypeId} {l : List UInt8} {j : Nat}
theorem BytesAt.lt (h : BytesAt w g e l) : g < w.heap.size := by obtain ⟨C, h, _⟩ := h; exact heap_lt h
theorem BytesAt.cell (h : BytesAt w g e l) (hj : j < l.length) : w.cell? ⟨g, j, none⟩ = some (.int .u8 (l[j].toNat : Int)) := by
  obtain ⟨C, h1, h2⟩ := h
  simp [World.cell?, h1, h2 j hj]
theorem BytesAt.frozen (h : BytesAt w g e l) (hj : j < l.length) : w.frozen? ⟨g, j, none⟩ = false := by
  obtain ⟨C, h1, h2⟩ := h
  have : j < C.size := (Array.getElem?_eq_some_iff.1 (h2 j hj)).1
  simp [World.frozen?, h1]
  omega
theorem BytesAt.set (h : BytesAt w g e l) (hj : j < l.length) (u : UInt8) : BytesAt (w.setCell ⟨g, j, none⟩ (.int .u8 (u.toNat : Int))) g e (l.set j u) := by
  obtain ⟨C, h1, h2⟩ := h
  have hjc : j < C.size := (Array.getElem?_eq_some_iff.1 (h2 j hj)).1
  refine ⟨C.setIfInBounds j (.int .u8 (u.toNat : Int)), ?_, fun i hi => ?_⟩
  · simp [World.setCell, Array.getElem?_modify, h1]
  · rw [List.length_set] at hi
    rw [Array.getElem?_setIfInBounds, List.getElem_set]
    by_cases hij : j = i
    · subst hij; simp [hjc]
    · simp [hij, h2 i hi]
theorem BytesAt.new (w : World) (e : TypeId) (s : ByteArray) : BytesAt (Lib.bytesWorld w e s) w.heap.size e s.data.toList := by
  refine ⟨_, Lib.bytesWorld_at_new w e s, fun j hj => ?_⟩
  have hj' : j < s.data.size := by simpa using hj
  unfold Lib.bytesCells
  rw [Array.getElem?_append_left (by simpa using hj')]
  simp
  exact ⟨_, Array.getElem?_eq_getElem hj', rfl⟩
theorem BytesAt.back {P : Program} (h : BytesAt w g e l) (src dst : TypeId) (cap n : Nat) (hn : n = l.length) (hs : P.underlying src = some (.slice e)) (he : P.underlying e = some (.int .u8)) (hd : P.underlying dst = some .string) :
    (convert src dst (.slice (some ⟨g, 0, none⟩) n cap)).run P w = .ok (.string ⟨l.toArray⟩) w := by
  subst hn
  refine run_convert_bytes_back w src dst e _ cap l hs he hd fun j hj => ?_
  have : (⟨g, 0, none⟩ : Addr).add j = ⟨g, j, none⟩ := by unfold Addr.add; split <;> simp_all
  rw [this]
  exact h.cell hj
end
theorem below_bytes (w : World) (e : TypeId) (s : ByteArray) : Below w.heap.size w (Lib.bytesWorld w e s) := by
  refine ⟨?_, ?_, ?_, ?_, fun k hk => Lib.bytesWorld_at_old w e s k hk⟩
  · simp [Lib.bytesWorld, World.freeze] <;> rfl
  · simp [Lib.bytesWorld, World.freeze] <;> rfl
  · simp [Lib.bytesWorld, World.freeze] <;> rfl
  · rw [Lib.bytesWorld_size]; omega
end Go.Proofs.YtaopehogpdgkgaaGreat
