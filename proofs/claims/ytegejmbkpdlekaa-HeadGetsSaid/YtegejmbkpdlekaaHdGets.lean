/- What HeadGets compares, as values (chapter 18). -/
import Derived.Test.YtegejmbkpdlekaaHdRes
import Derived.Test.YtegejmbkpdlekaaHdRFmt
import Derived.Test.YtegejmbkpdlekaaOpenHead
namespace Go.Proofs.Ytegejmbkpdlekaa
open Go.RowKit
theorem held_last4 {A1 A2 A3 B : Prop} (h : A1 ∧ A2 ∧ A3 ∧ B) : B := h.2.2.2
theorem held_below4 {A1 A2 A3 : Prop} {w W0 W : World} (hB : Below w.heap.size w W0) (h : A1 ∧ A2 ∧ A3 ∧ Below W0.heap.size W0 W) : Below w.heap.size w W := hB.trans (h.2.2.2.mono hB.size)
theorem below_then {B : Nat} {a w w1 : World} (h : Below B a w) (hb : Below w.heap.size w w1) (hs : a.heap.size = B) : Below B a w1 := h.trans (hb.mono (by rw [← hs]; exact h.size))
theorem below_drewS {B : Nat} {a w : World} (h : Below B a w) : Below B a w.drew := ⟨h.os, h.tape, h.output, h.size, h.block⟩
theorem below_drew {B : Nat} {a w : World} (h : Below B a w) (q : Nat) : Below B a (w.drewN q) := ⟨h.os, h.tape, h.output, h.size, h.block⟩
theorem wt_keep (fs : List Fld) (h : ∀ f ∈ fs, f.1.length ≤ 600 ∧ f.2.length ≤ 600) : wtF fs ≤ 1200 * fs.length := by
  induction fs with
  | nil => simp [wtF]
  | cons f t ih =>
    have h1 := h f (by simp)
    have h2 := ih fun x hx => h x (by simp [hx])
    simp only [wtF, List.map_cons, List.sum_cons, List.length_cons] at h2 ⊢
    omega
theorem gets_facts (mi st : Int) (h0 : -9223372036854775808 ≤ st) (h1 : st ≤ 9223372036854775807) (fv : Value) (fs : List Fld) (nm : ByteArray) (hnm : nm.size ≤ 9223372036854775807) (hk : keepB fs = true) : ∃ (J T : ByteArray) (g : Bool) (vs : List (List UInt8)), vs.length ≤ 9223372036854775807 ∧
    (∀ W, Rd W 2 fv fs.length (fldsV fs) → Calls Try.prog 26 #[.agg #[.int .i64 mi, .int .i64 st, fv], .string nm] W fun e w' => e = .returned (.tuple #[.string J, .bool g]) ∧ Below W.heap.size W w') ∧
    (∀ W, Rd W 2 fv fs.length (fldsV fs) → Calls Try.prog 27 #[.agg #[.int .i64 mi, .int .i64 st, fv], .string nm] W fun e w' => e = .returned (.tuple #[.string J, .bool g]) ∧ Below W.heap.size W w') ∧
    (∀ W, Rd W 2 fv fs.length (fldsV fs) → Calls Try.prog 29 #[.agg #[.int .i64 mi, .int .i64 st, fv], .string nm] W fun e w' => ∃ A c, e = .returned (.slice A vs.length c) ∧ Rd w' 1 (.slice A vs.length c) vs.length (strsV vs) ∧ Below W.heap.size W w') ∧
    (∀ W, Rd W 2 fv fs.length (fldsV fs) → Calls Try.prog 30 #[.agg #[.int .i64 mi, .int .i64 st, fv], .string nm] W fun e w' => ∃ A c, e = .returned (.slice A vs.length c) ∧ Rd w' 1 (.slice A vs.length c) vs.length (strsV vs) ∧ Below W.heap.size W w') ∧
    (∀ W, Rd W 2 fv fs.length (fldsV fs) → Calls Try.prog 31 #[.agg #[.int .i64 mi, .int .i64 st, fv]] W fun e w' => e = .returned (.string T) ∧ Below W.heap.size W w') ∧
    (∀ W, Rd W 2 fv fs.length (fldsV fs) → Calls Try.prog 32 #[.agg #[.int .i64 mi, .int .i64 st, fv]] W fun e w' => e = .returned (.string T) ∧ Below W.heap.size W w') := by
  obtain ⟨hn, hl, hv⟩ := keep_facts hk
  have hw := wt_keep fs hl
  have hl1 : ∀ f ∈ fs, f.1.length ≤ 1000000 := fun f hf => Nat.le_trans (hl f hf).1 (by decide)
  have hvl := values_len fs nm.data.toList
  exact ⟨_, _, _, valuesL fs nm.data.toList, by omega, fun W h => get_c W mi st fv fs nm hnm (by omega) hl1 (by omega) h, fun W h => rget_c W mi st fv fs nm hnm (by omega) hl1 (by omega) h,
    fun W h => (values_c W mi st fv fs nm hnm (by omega) hl1 h).mono fun e w' ⟨A, c, he, hS, hb⟩ => ⟨A, c, he, Rd.of_own hS, hb⟩,
    fun W h => (rvalues_c W mi st fv fs nm hnm (by omega) hl1 h).mono fun e w' ⟨A, c, he, hS, hb⟩ => ⟨A, c, he, Rd.of_own hS, hb⟩,
    fun W h => hFormat_c mi st h0 h1 fv fs W (by omega) (by omega) h, fun W h => rHFormat_c mi st h0 h1 fv fs W (by omega) (by omega) h⟩
end Go.Proofs.Ytegejmbkpdlekaa
