/- Of, both, as values. -/
import Derived.Test.YtegejmbkpdlekaaFLeast
import Derived.Test.YtegejmbkpdlekaaOpenHead
namespace Go.Proofs.Ytegejmbkpdlekaa
open Go.RowKit
theorem held_last4 {A1 A2 A3 B : Prop} (h : A1 ∧ A2 ∧ A3 ∧ B) : B := h.2.2.2
theorem held_below4 {A1 A2 A3 : Prop} {w W0 W : World} (hB : Below w.heap.size w W0) (h : A1 ∧ A2 ∧ A3 ∧ Below W0.heap.size W0 W) : Below w.heap.size w W := hB.trans (h.2.2.2.mono hB.size)
def freshQ (p : Bool) (q : Int) (mi st : Int) (fv : Value) (f : FuncId) (W : World) : Prop := Calls Try.prog f #[.agg #[.int .i64 mi, .int .i64 st, fv]] W fun e w' => e = .returned (.agg #[.bool p, .int .u64 q]) ∧ Below W.heap.size W w'
theorem of_facts (mi st : Int) (fv : Value) (fs : List Fld) (hn : fs.length ≤ 1000) (hl : ∀ f ∈ fs, f.1.length ≤ 1000000) (hv : Lib.lens (fs.map (·.2)) ≤ 500000) : ∃ (p : Bool) (q : Int),
    (∀ W, Rd W 2 fv fs.length (fldsV fs) → Calls Try.prog 16 #[.agg #[.int .i64 mi, .int .i64 st, fv]] W fun e w' => e = .returned (.agg #[.bool p, .int .u64 q]) ∧ Below W.heap.size W w') ∧
    (∀ W, Rd W 2 fv fs.length (fldsV fs) → Calls Try.prog 17 #[.agg #[.int .i64 mi, .int .i64 st, fv]] W fun e w' => e = .returned (.agg #[.bool p, .int .u64 q]) ∧ Below W.heap.size W w') :=
  ⟨_, _, fun W h => of_c W mi st fv fs hn hl hv h, fun W h => rof_c W mi st fv fs hn hl hv h⟩
theorem of_hfacts (a b : ByteArray) (hl : a.size + b.size ≤ 500000) : ∃ (p : Bool) (q : Int),
    (∀ W A c, Rd W 2 (.slice A 2 c) 2 (fldsV (headsL a.data.toList b.data.toList)) → Calls Try.prog 16 #[.agg #[.int .i64 0, .int .i64 200, .slice A 2 c]] W fun e w' => e = .returned (.agg #[.bool p, .int .u64 q]) ∧ Below W.heap.size W w') ∧
    (∀ W A c, Rd W 2 (.slice A 2 c) 2 (fldsV (headsL a.data.toList b.data.toList)) → Calls Try.prog 17 #[.agg #[.int .i64 0, .int .i64 200, .slice A 2 c]] W fun e w' => e = .returned (.agg #[.bool p, .int .u64 q]) ∧ Below W.heap.size W w') :=
  ⟨_, _, fun W A c h => of_heads a b W A c hl h, fun W A c h => rof_heads a b W A c hl h⟩
end Go.Proofs.Ytegejmbkpdlekaa
