/- Quoted strings and values, plain and the cursor's contracts. -/
import Derived.Test.YtaopehogpdgkgaaGreatCurWhile
namespace Go.Proofs.YtaopehogpdgkgaaGreat
open Go.RowKit
def inVN (n : Nat) : Bool := n == 9 || (decide (32 ≤ n) && n != 127)
/-- behind the opening quote: what is quoted, and the rest -/
def quoL : List UInt8 → Option (List UInt8 × List UInt8)
  | [] => none
  | c :: t => if c.toNat = 34 then some ([], t) else if c.toNat = 92 then
      (match t with
      | [] => none
      | d :: u => if inVN d.toNat then (quoL u).map fun x => (d :: x.1, x.2) else none)
    else if inVN c.toNat then (quoL t).map fun x => (c :: x.1, x.2) else none
theorem quoL_cons (c : UInt8) (t : List UInt8) : quoL (c :: t) = if c.toNat = 34 then some ([], t) else if c.toNat = 92 then
      (match t with
      | [] => none
      | d :: u => if inVN d.toNat then (quoL u).map fun x => (d :: x.1, x.2) else none)
    else if inVN c.toNat then (quoL t).map fun x => (c :: x.1, x.2) else none := by rw [quoL.eq_def]
def quoted (l : List UInt8) : Option (List UInt8 × List UInt8) :=
  match l with
  | [] => none
  | c :: t => if c.toNat = 34 then quoL t else none
def pre2 (acc : List UInt8) (x : Option (List UInt8 × List UInt8)) : Option (List UInt8 × List UInt8) := x.map fun y => (acc ++ y.1, y.2)
theorem pre2_nil (x : Option (List UInt8 × List UInt8)) : pre2 [] x = x := by cases x <;> rfl
theorem pre2_cons (acc : List UInt8) (c : UInt8) (x : Option (List UInt8 × List UInt8)) : pre2 acc (x.map fun y => (c :: y.1, y.2)) = pre2 (acc ++ [c]) x := by cases x <;> simp [pre2]
section
variable {s : ByteArray} {j : Nat} {acc : List UInt8} {X : Option (List UInt8 × List UInt8)}
theorem quo_end (h : ¬ j < s.size) (H : pre2 acc (quoL (s.data.toList.drop j)) = X) : X = none := by
  rw [drop_end s j h] at H; rw [← H]; rfl
theorem quo_close (h : j < s.size) (hc : s[j].toNat = 34) (H : pre2 acc (quoL (s.data.toList.drop j)) = X) : X = some (acc, s.data.toList.drop (j + 1)) := by
  rw [drop_cons s j h, quoL_cons, if_pos hc] at H; rw [← H]; simp [pre2]
theorem quo_step (h : j < s.size) (h1 : ¬ s[j].toNat = 34) (h2 : ¬ s[j].toNat = 92) (hv : inVN s[j].toNat = true) (H : pre2 acc (quoL (s.data.toList.drop j)) = X) : pre2 (acc ++ [s[j]]) (quoL (s.data.toList.drop (j + 1))) = X := by
  rw [drop_cons s j h, quoL_cons, if_neg h1, if_neg h2, if_pos hv, pre2_cons] at H; exact H
theorem quo_bad (h : j < s.size) (h1 : ¬ s[j].toNat = 34) (h2 : ¬ s[j].toNat = 92) (hv : inVN s[j].toNat = false) (H : pre2 acc (quoL (s.data.toList.drop j)) = X) : X = none := by
  rw [drop_cons s j h, quoL_cons, if_neg h1, if_neg h2, if_neg (by simp [hv])] at H; rw [← H]; rfl
theorem quo_back (h : j < s.size) (h2 : s[j].toNat = 92) (h' : j + 1 < s.size) (hv : inVN s[j + 1].toNat = true) (H : pre2 acc (quoL (s.data.toList.drop j)) = X) : pre2 (acc ++ [s[j + 1]]) (quoL (s.data.toList.drop (j + 1 + 1))) = X := by
  rw [drop_cons s j h, drop_cons s (j + 1) h', quoL_cons, if_neg (by omega), if_pos h2] at H
  simp only [if_pos hv] at H
  rw [pre2_cons] at H; exact H
theorem quo_backbad (h : j < s.size) (h2 : s[j].toNat = 92) (h' : j + 1 < s.size) (hv : inVN s[j + 1].toNat = false) (H : pre2 acc (quoL (s.data.toList.drop j)) = X) : X = none := by
  rw [drop_cons s j h, drop_cons s (j + 1) h', quoL_cons, if_neg (by omega), if_pos h2] at H
  simp only [hv] at H
  rw [← H]; rfl
theorem quo_backend (h : j < s.size) (h2 : s[j].toNat = 92) (h' : ¬ j + 1 < s.size) (H : pre2 acc (quoL (s.data.toList.drop j)) = X) : X = none := by
  rw [drop_cons s j h, drop_end s (j + 1) h', quoL_cons, if_neg (by omega), if_pos h2] at H
  rw [← H]; rfl
theorem quoted_open (h : j < s.size) (hc : (s[j].toNat : Int) = 34) : quoted (s.data.toList.drop j) = quoL (s.data.toList.drop (j + 1)) := by
  rw [drop_cons s j h]; simp only [quoted]; rw [if_pos (by omega)]
theorem quoted_not (h : ∀ hlt : j < s.size, (s[j].toNat : Int) ≠ 34) : quoted (s.data.toList.drop j) = none := by
  by_cases hlt : j < s.size
  · rw [drop_cons s j hlt]; simp only [quoted]; rw [if_neg (by have := h hlt; omega)]
  · rw [drop_end s j hlt]; rfl
end
theorem inValue_c (c : Int) (h0 : 0 ≤ c) (h1 : c ≤ 255) (w : World) : Calls Tryz.prog 65 #[.int .u8 c] w fun e w' => e = .returned (.bool (inVN c.toNat)) ∧ w = w' := by
  have hb : inVN c.toNat = ((c == 9) || (decide (32 ≤ c) && c != 127)) := by
    obtain ⟨n, rfl⟩ := byte_cases h0 h1
    revert n; decide +kernel
  have HB := Lib.hid hb
  clear hb
  go_enter Tryz.func65, Tryz.ntmps65
  go_wp2
  all_goals
    go_ret
    refine ⟨ret_b ?_, rfl⟩
    rw [HB.out]
    first
      | (simp [*]; done)
      | (have hn : ¬ 32 ≤ c := by omega
         simp [*])
theorem rPrintable_c (c : Int) (h0 : 0 ≤ c) (h1 : c ≤ 255) (w : World) : Calls Tryz.prog 81 #[.int .u8 c] w fun e w' => e = .returned (.bool (inVN c.toNat)) ∧ w = w' := by
  have hb : inVN c.toNat = ((c == 9) || (decide (32 ≤ c) && c != 127)) := by
    obtain ⟨n, rfl⟩ := byte_cases h0 h1
    revert n; decide +kernel
  have HB := Lib.hid hb
  clear hb
  go_enter Tryz.func81, Tryz.ntmps81
  go_wp2
  all_goals
    go_ret
    refine ⟨ret_b ?_, rfl⟩
    rw [HB.out]
    first
      | (simp [*]; done)
      | (have hn : ¬ 32 ≤ c := by omega
         simp [*])
end Go.Proofs.YtaopehogpdgkgaaGreat
