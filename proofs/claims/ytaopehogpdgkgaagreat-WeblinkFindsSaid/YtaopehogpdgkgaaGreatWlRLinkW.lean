/- Contract of webfingerref22.link: the walk. -/
import Derived.Test.YtaopehogpdgkgaaGreatWlRLink
namespace Go.Proofs.YtaopehogpdgkgaaGreat
open Go.RowKit
def RL2 (w wr : World) (gW : Nat) (s : ByteArray) (k gf : Nat) (t : List UInt8) (Y : Option (List Fld × List UInt8)) (u1 u9 : Value) : Prop :=
  ∃ (j : Nat) (rv pv : Value) (acc : List Fld) (l : List UInt8) (n : Nat), u1 = .int .i64 (j : Int) ∧ u9 = .bool (anyRel acc) ∧ k < j ∧ j ≤ s.size ∧ s.size ≤ j + gf ∧ acc.length ≤ j ∧
    l.length < n ∧ s.data.toList.drop j = blankL l ∧ preP acc (paramsF n l) = Y ∧ LQ w wr gW #[.string (S t), rv, pv] rv pv (relsL acc) acc
end Go.Proofs.YtaopehogpdgkgaaGreat
