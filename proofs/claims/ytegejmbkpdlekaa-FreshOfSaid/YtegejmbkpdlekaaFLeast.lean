/- Least, as values: commutative and associative. -/
import Derived.Test.YtegejmbkpdlekaaSane21
namespace Go.Proofs.Ytegejmbkpdlekaa
open Go.RowKit
def lsQ (a : Bool) (x : Int) (b : Bool) (y : Int) : Int := if a && b then min x y else 0
theorem lstV_eq (a b : Bool) (x y : Int) : lstV a x b y = .agg #[.bool (a && b), .int .u64 (lsQ a x b y)] := by
  unfold lstV lsQ; cases a <;> cases b <;> rfl
theorem lsQ_comm (a b : Bool) (x y : Int) : lsQ b y a x = lsQ a x b y := by unfold lsQ; cases a <;> cases b <;> simp [Int.min_comm]
theorem lsQ_assoc (a b c : Bool) (x y z : Int) : lsQ (a && b) (lsQ a x b y) c z = lsQ a x (b && c) (lsQ b y c z) := by
  unfold lsQ; cases a <;> cases b <;> cases c <;> simp [Int.min_assoc]
theorem held_last {A1 A2 A3 A4 A5 A6 B : Prop} (h : A1 ∧ A2 ∧ A3 ∧ A4 ∧ A5 ∧ A6 ∧ B) : B := h.2.2.2.2.2.2
theorem below_then {B : Nat} {a w w1 : World} (h : Below B a w) (hb : Below w.heap.size w w1) (hs : a.heap.size = B) : Below B a w1 := h.trans (hb.mono (by rw [← hs]; exact h.size))
theorem held_below {A1 A2 A3 A4 A5 A6 : Prop} {w W0 W : World} (hB : Below w.heap.size w W0) (h : A1 ∧ A2 ∧ A3 ∧ A4 ∧ A5 ∧ A6 ∧ Below W0.heap.size W0 W) : Below w.heap.size w W := hB.trans (h.2.2.2.2.2.2.mono hB.size)
theorem below_drewS {B : Nat} {a w : World} (h : Below B a w) : Below B a w.drew := ⟨h.os, h.tape, h.output, h.size, h.block⟩
def FV (p : Bool) (q : Int) : Value := .agg #[.bool p, .int .u64 q]
theorem least_facts (a b c : Bool) (x y z : Int) : ∃ (p p' p3 : Bool) (q q' q3 : Int),
    (∀ W, Calls Try.prog 19 #[.agg #[.bool a, .int .u64 x], .agg #[.bool b, .int .u64 y]] W fun e w' => e = .returned (.agg #[.bool p, .int .u64 q]) ∧ Below W.heap.size W w') ∧
    (∀ W, Calls Try.prog 20 #[.agg #[.bool a, .int .u64 x], .agg #[.bool b, .int .u64 y]] W fun e w' => e = .returned (.agg #[.bool p, .int .u64 q]) ∧ Below W.heap.size W w') ∧
    (∀ W, Calls Try.prog 19 #[.agg #[.bool b, .int .u64 y], .agg #[.bool a, .int .u64 x]] W fun e w' => e = .returned (.agg #[.bool p, .int .u64 q]) ∧ Below W.heap.size W w') ∧
    (∀ W, Calls Try.prog 19 #[.agg #[.bool p, .int .u64 q], .agg #[.bool c, .int .u64 z]] W fun e w' => e = .returned (.agg #[.bool p3, .int .u64 q3]) ∧ Below W.heap.size W w') ∧
    (∀ W, Calls Try.prog 19 #[.agg #[.bool b, .int .u64 y], .agg #[.bool c, .int .u64 z]] W fun e w' => e = .returned (.agg #[.bool p', .int .u64 q']) ∧ Below W.heap.size W w') ∧
    (∀ W, Calls Try.prog 19 #[.agg #[.bool a, .int .u64 x], .agg #[.bool p', .int .u64 q']] W fun e w' => e = .returned (.agg #[.bool p3, .int .u64 q3]) ∧ Below W.heap.size W w') := by
  refine ⟨a && b, b && c, a && b && c, lsQ a x b y, lsQ b y c z, lsQ (a && b) (lsQ a x b y) c z, fun W => ?_, fun W => ?_, fun W => ?_, fun W => ?_, fun W => ?_, fun W => ?_⟩
  · have h := fleast_c a b x y W; rw [lstV_eq] at h; exact h
  · have h := rfleast_c a b x y W; rw [lstV_eq] at h; exact h
  · have h := fleast_c b a y x W; rw [lstV_eq, lsQ_comm, Bool.and_comm] at h; exact h
  · have h := fleast_c (a && b) c (lsQ a x b y) z W; rw [lstV_eq] at h; exact h
  · have h := fleast_c b c y z W; rw [lstV_eq] at h; exact h
  · have h := fleast_c a (b && c) x (lsQ b y c z) W; rw [lstV_eq, ← lsQ_assoc, ← Bool.and_assoc] at h; exact h
end Go.Proofs.Ytegejmbkpdlekaa
