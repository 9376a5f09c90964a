/- The target of a link: plain, and the contract of weblink.target. -/
import Derived.Test.YtegejmbkpdlekaaMrefQ
namespace Go.Proofs.Ytegejmbkpdlekaa
open Go.RowKit
/-- behind a '<': what stands before the '>', and the rest -/
def tgtL : List UInt8 → Option (List UInt8 × List UInt8)
  | [] => none
  | c :: t => if inVN c.toNat then (if c.toNat = 62 then some ([], t) else (tgtL t).map fun x => (c :: x.1, x.2)) else none
section
variable {s : ByteArray} {j k : Nat} {acc : List UInt8} {X : Option (List UInt8 × List UInt8)}
theorem tgt_end (h : ¬ j < s.size) (H : pre2 acc (tgtL (s.data.toList.drop j)) = X) : X = none := by
  rw [drop_end s j h] at H; rw [← H]; rfl
theorem tgt_close (h : j < s.size) (hc : s[j].toNat = 62) (H : pre2 acc (tgtL (s.data.toList.drop j)) = X) : X = some (acc, s.data.toList.drop (j + 1)) := by
  rw [drop_cons s j h, tgtL, if_pos (by rw [hc]; rfl), if_pos hc] at H; rw [← H]; simp [pre2]
theorem tgt_step (h : j < s.size) (hc : ¬ s[j].toNat = 62) (hv : inVN s[j].toNat = true) (H : pre2 acc (tgtL (s.data.toList.drop j)) = X) : pre2 (acc ++ [s[j]]) (tgtL (s.data.toList.drop (j + 1))) = X := by
  rw [drop_cons s j h, tgtL, if_pos hv, if_neg hc, pre2_cons] at H; exact H
theorem tgt_bad (h : j < s.size) (hv : inVN s[j].toNat = false) (H : pre2 acc (tgtL (s.data.toList.drop j)) = X) : X = none := by
  rw [drop_cons s j h, tgtL, if_neg (by simp [hv])] at H; rw [← H]; rfl
theorem ext_snoc (hk : k ≤ j) (h : j < s.size) (H : s.extract k j = S acc) : s.extract k (j + 1) = S (acc ++ [s[j]]) := by
  have e : acc = (s.data.toList.drop k).take (j - k) := by
    have := congrArg (fun t : ByteArray => t.data.toList) H
    rw [Lib.extract_data] at this; exact this.symm
  apply ByteArray.ext; apply Array.toList_inj.1
  rw [Lib.extract_data, e]
  show _ = (s.data.toList.drop k).take (j - k) ++ [s[j]]
  rw [show j + 1 - k = (j - k) + 1 by omega, List.take_add_one, List.getElem?_drop, show k + (j - k) = j by omega]
  rw [List.getElem?_eq_getElem (by rw [size_toList]; exact h)]
  rfl
theorem ext_nil (k : Nat) : s.extract k k = S [] := by
  apply ByteArray.ext; apply Array.toList_inj.1
  rw [Lib.extract_data]; simp [S]
end
end Go.Proofs.Ytegejmbkpdlekaa
