/- A slice of bytes that the call itself grows: words and laws; the methods and functions of chapter 3 on one byte. -/
import Derived.Test.YtaopehogpdgkgaaGreatStrs
import Derived.Test.YtaopehogpdgkgaaGreatPctPlain
import Derived.OneCell
import Derived.Deep.AppendLies
import Derived.Deep.RegionLaw
import Derived.OwnWalk
namespace Go.Proofs.YtaopehogpdgkgaaGreat
open Go.RowKit

def bv (b : UInt8) : Value := .int .u8 (b.toNat : Int)
/-- the slice value v owns a row (from block base on) that holds the bytes l -/
def Own (w : World) (base : Nat) (v : Value) (l : List UInt8) : Prop := w.ownsRow base 5 1 v l.length (l.map bv)
theorem Own.nil (w : World) (base : Nat) : Own w base (.slice none 0 0) [] := World.ownsRow_nil w base _ 1
theorem Own.alloc {w : World} {base : Nat} {v : Value} {l : List UInt8} (h : Own w base v l) (o : Obj) : Own (w.alloc o) base v l := World.ownsRow.alloc h o
theorem Own.drew {w : World} {base : Nat} {v : Value} {l : List UInt8} (h : Own w base v l) : Own w.drew base v l := h
theorem Own.conv {w : World} {base : Nat} {v : Value} {l : List UInt8} (h : Own w base v l) (src : TypeId) (hs : Tryz.prog.underlying src = some (.slice 5)) :
    (convert src 9 v).run Tryz.prog w = .ok (.string (S l)) w := by
  rcases h.2 with ⟨rfl, hn⟩ | ⟨g, cap, cur, rfl, _, hh, hnc, _, hsz, htk⟩
  · have : l = [] := List.eq_nil_of_length_eq_zero hn
    subst this
    rw [run_convert_bytes_string w src 9 5 none 0 0 hs Tryz.underlying5 Tryz.underlying9]
    simp [Conv.bytesToString, S]; rfl
  · refine run_convert_bytes_back (P := Tryz.prog) w src 9 5 ⟨g, 0, none⟩ cap l hs Tryz.underlying5 Tryz.underlying9 fun j hj => ?_
    exact World.ownsRow.cells h (g := g) rfl j _ (by simp [hj, bv])
theorem info5 : (Tryz.prog.info? 5).map (fun i => (i.zero, i.size, i.bytes)) = some (some (.int .u8 0), 1, 1) := by kernel_rfl

/-- append of bytes to a row of the call's own -/
theorem wpList_append_bytes {ops : Array Oper} {rest : List Oper} {o : Oper} {a : Act} {w : World} {Q : Exit → Act → World → Prop} (hgd : o.guard = none) (s x : Operand) (t : TypeId)
    (ho : o.op = .call { callee := .builtin .append, args := #[s, x], argTypes := #[t, t] }) (ht : Tryz.prog.underlying t = some (.slice 5))
    (base : Nat) (v : Value) (l : List UInt8) (hs : a.eval s = v) (hown : Own w base v l)
    (ad : Addr) (m c : Nat) (news : List UInt8) (hx : a.eval x = .slice (some ad) m c) (hl : news.length = m) (hnews : ∀ j u, (news.map bv)[j]? = some u → w.cell? (ad.add j) = some u)
    (hlen : l.length + m ≤ 100000000) (hbase : base ≤ w.heap.size)
    (h : ∀ v' w', Own w' base v' (l ++ news) → w.grownBy w' v.ownBlock → wpList Tryz.prog ops Q rest (a.put o.dst v') w') : wpList Tryz.prog ops Q (o :: rest) a w := by
  obtain ⟨i0, hi, hz0, hz1, hz2⟩ := info_parts info5
  refine wpList_append_own w hgd s x t ho base 5 i0 (.int .u8 0) 1 1 ht hi hz0 hz1 hz2 rfl (by decide) v l.length (l.map bv) hs hown ad m c (news.map bv) hx (by simp [hl]) hnews ?_ (by unfold maxLen; omega) (by omega) hbase ?_
  · intro u hu; obtain ⟨b, _, rfl⟩ := List.mem_map.1 hu; rfl
  · intro v' w' hown' hg _
    refine h v' w' ?_ hg
    unfold Own
    rw [List.map_append, List.length_append, hl]
    exact hown'
theorem wpList_append_blies {ops : Array Oper} {rest : List Oper} {o : Oper} {a : Act} {w : World} {Q : Exit → Act → World → Prop} (hgd : o.guard = none) (s x : Operand) (t : TypeId)
    (ho : o.op = .call { callee := .builtin .append, args := #[s, x], argTypes := #[t, t] }) (ht : Tryz.prog.underlying t = some (.slice 5))
    (base : Nat) (v : Value) (l : List UInt8) (hs : a.eval s = v) (hown : Own w base v l)
    (ad : Addr) (m c : Nat) (news : List UInt8) (hx : a.eval x = .slice (some ad) m c) (hl : news.length = m) (hm : 0 < m) (hnews : ∀ j u, (news.map bv)[j]? = some u → w.cell? (ad.add j) = some u)
    (hlen : l.length + m ≤ 100000000) (hbase : base ≤ w.heap.size)
    (h : ∀ g cap w', Own w' base (.slice (some ⟨g, 0, none⟩) (l.length + m) cap) (l ++ news) → w.grownBy w' v.ownBlock → wpList Tryz.prog ops Q rest (a.put o.dst (.slice (some ⟨g, 0, none⟩) (l.length + m) cap)) w') : wpList Tryz.prog ops Q (o :: rest) a w := by
  obtain ⟨i0, hi, hz0, hz1, hz2⟩ := info_parts info5
  refine wpList_plain hgd fun _ hK => wp_append_lies w s x t ho base 5 i0 (.int .u8 0) 1 1 ht hi hz0 hz1 hz2 rfl (by decide) v l.length (l.map bv) hs hown ad m c (news.map bv) hx (by simp [hl]) hnews ?_ hm (by unfold maxLen; omega) (by omega) hbase _ rfl ?_
  · intro u hu; obtain ⟨b, _, rfl⟩ := List.mem_map.1 hu; rfl
  · intro g cap w' hown' hg _ _
    refine hK _ _ (h g cap w' ?_ hg)
    unfold Own
    rw [List.map_append, List.length_append, hl]
    exact hown'
theorem news_bytes (w : World) (l : List UInt8) (C : Array Value) (hC : C = (l.map bv).toArray) : ∀ j u, (l.map bv)[j]? = some u → (w.alloc (.cells C 5)).cell? ((⟨w.heap.size, 0, none⟩ : Addr).add j) = some u := by
  subst hC
  exact World.news_of_block (heap_alloc_new w _)
theorem below_app {w wr w' : World} {B : Nat} {v : Value} {l : List UInt8} {o : Obj} (h : Below B w wr) (ho : Own wr B v l) (hB : B ≤ wr.heap.size) (hg : (wr.alloc o).grownBy w' v.ownBlock) : Below B w w' :=
  (h.alloc hB o).grown hg (by simp; omega) (fun k hk => (World.ownsRow.lt ho k hk).1)
end Go.Proofs.YtaopehogpdgkgaaGreat
