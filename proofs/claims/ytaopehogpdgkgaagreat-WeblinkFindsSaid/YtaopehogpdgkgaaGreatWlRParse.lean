/- Contract of webfingerref22.Parse. -/
import Derived.Test.YtaopehogpdgkgaaGreatWlRLinkW
namespace Go.Proofs.YtaopehogpdgkgaaGreat
open Go.RowKit
/-- behind the append of a link -/
theorem rl_app {w W w8 : World} {o : Obj} {v v' rv pv : Value} {l : List Lnk} {cs : List Value} {x : Lnk} (hB : Below w.heap.size w W)
    (h1 : W.ownsRow w.heap.size 59 3 v l.length cs) (h2 : LinksRel W w.heap.size l cs) (hS : Strs W w.heap.size rv x.2.1) (hF : Flds W w.heap.size pv x.2.2) (hg : (W.alloc o).grownBy w8 v.ownBlock)
    (hown : w8.ownsRow w.heap.size 59 3 v' (l.length + 1) (cs ++ [.string (S x.1), rv, pv])) : Links w8 w.heap.size v' (l ++ [x]) ∧ Below w.heap.size w w8 := by
  have ha : W.grownBy (W.alloc o) none := World.grownBy_alloc W o none
  have hn : ∀ g, (none : Option Nat) = some g → g < w.heap.size ∨ Off W g := fun g hg => by cases hg
  have hv : ∀ k, v.ownBlock = some k → w.heap.size ≤ k := fun k hk => (World.ownsRow.lt h1 k hk).1
  exact ⟨Links.snoc (h1.alloc o) (h2.off ha hn) hg hown (hS.off ha hn) (hF.off ha hn), (hB.alloc hB.size o).grown hg (by have := hB.size; simp; omega) hv⟩
def WRP (w wr : World) (s : ByteArray) (gf : Nat) (X : Except Nat (List Lnk)) (u4 u5 : Value) : Prop :=
  ∃ (j : Nat) (acc : List Lnk) (n : Nat), u5 = .int .i64 (j : Int) ∧ j ≤ s.size ∧ s.size ≤ j + gf ∧ acc.length ≤ 64 ∧ s.size < j + n ∧ preE acc (wlF n acc.length (s.data.toList.drop j)) = X ∧
    Links wr w.heap.size u4 acc ∧ Below w.heap.size w wr
end Go.Proofs.YtaopehogpdgkgaaGreat
