/- The status line of a head, program and reference (chapter 18). -/
import Derived.Test.YtegejmbkpdlekaaHdNext
import Derived.Test.YtegejmbkpdlekaaOf
namespace Go.Proofs.Ytegejmbkpdlekaa
open Go.RowKit
def preL : List UInt8 := [72, 84, 84, 80, 47, 49, 46]
def chN (r : List UInt8) (i : Nat) : Nat := (r.getD i 0).toNat
theorem chN_at {s : ByteArray} {i : Nat} (h : i < s.size) : chN s.data.toList i = s[i].toNat := by
  unfold chN
  rw [List.getD_eq_getElem?_getD, List.getElem?_eq_getElem (by simpa using h)]
  rfl
/-- the number of three bytes -/
def num3 (l : List UInt8) : Option Nat := if digitsL l && decide (100 ≤ (parseL digitN 10 999 l).1 ∧ (parseL digitN 10 999 l).1 ≤ 599) then some (parseL digitN 10 999 l).1 else none
theorem strict3 (a b c : UInt8) : num3 [a, b, c] = if (strictL 599 [a, b, c]).2 = 0 ∧ 100 ≤ (strictL 599 [a, b, c]).1 then some (strictL 599 [a, b, c]).1 else none := by
  by_cases hd : digitsL [a, b, c] = true
  · have hd' : allB digitN [a, b, c] = true := by simpa [digitsL] using hd
    have h3 : digitN a.toNat = true ∧ digitN b.toNat = true ∧ digitN c.toNat = true := by simpa [allB] using hd'
    obtain ⟨ha, hb, hc⟩ := h3
    simp only [digitN, Bool.and_eq_true, decide_eq_true_eq] at ha hb hc
    have ea : hexV a.toNat = a.toNat - 48 := by unfold hexV; rw [if_pos ha.2]
    have eb : hexV b.toNat = b.toNat - 48 := by unfold hexV; rw [if_pos hb.2]
    have ec : hexV c.toNat = c.toNat - 48 := by unfold hexV; rw [if_pos hc.2]
    have hp : parseL digitN 10 999 [a, b, c] = (((a.toNat - 48) * 10 + (b.toNat - 48)) * 10 + (c.toNat - 48), 0) := by
      unfold parseL
      rw [if_neg (by simp), if_neg (by rw [hd']; simp)]
      simp only [foldV, ea, eb, ec]
      rw [if_neg (by omega), if_neg (by omega), if_neg (by omega)]
      simp
    unfold num3
    rw [hd, hp]
    unfold strictL
    by_cases h0 : a.toNat = 48
    · have : a = 48 := UInt8.toNat_inj.1 h0
      subst this
      rw [hd]
      have : ¬ 100 ≤ (((48 : UInt8).toNat - 48) * 10 + (b.toNat - 48)) * 10 + (c.toNat - 48) := by
        have : (48 : UInt8).toNat = 48 := rfl
        omega
      simp
      intro h; omega
    · have hz : ([a, b, c].headD 0 == 48) = false := by
        simp; intro h; exact h0 (by rw [h]; rfl)
      rw [hd, hz]
      simp only [Bool.true_and, Bool.and_false, if_false, Bool.false_eq_true]
      by_cases h6 : ((a.toNat - 48) * 10 + (b.toNat - 48)) * 10 + (c.toNat - 48) ≤ 599
      · have hq : parseL digitN 10 599 [a, b, c] = (((a.toNat - 48) * 10 + (b.toNat - 48)) * 10 + (c.toNat - 48), 0) := by
          unfold parseL
          rw [if_neg (by simp), if_neg (by rw [hd']; simp)]
          simp only [foldV, ea, eb, ec]
          rw [if_neg (by omega), if_neg (by omega), if_neg (by omega)]
          simp
        rw [hq]
        simp [h6]
      · have hq : parseL digitN 10 599 [a, b, c] = (0, 4) := by
          unfold parseL
          rw [if_neg (by simp), if_neg (by rw [hd']; simp)]
          simp only [foldV, ea, eb, ec]
          rw [if_neg (by omega), if_neg (by omega), if_pos (by omega)]
        rw [hq]
        simp; omega
  · have hd0 : digitsL [a, b, c] = false := by simpa using hd
    have hd' : allB digitN [a, b, c] = false := by simpa [digitsL] using hd0
    have hs : strictL 599 [a, b, c] = (0, 1) := by
      unfold strictL
      rw [hd0]
      simp only [Bool.false_and, Bool.false_eq_true, if_false]
      unfold parseL
      rw [if_neg (by simp), if_pos hd']
    unfold num3
    rw [hs, hd0]
    simp
theorem three {l : List UInt8} (h : 5 ≤ l.length) : ∃ a b c, (l.drop 2).take 3 = [a, b, c] := by
  match l, h with
  | x :: y :: a :: b :: c :: t, _ => exact ⟨a, b, c, rfl⟩
/-- what is read behind the seven bytes -/
def statusR (r : List UInt8) : Option (Nat × Nat) :=
  if 6 ≤ r.length ∧ (chN r 0 = 48 ∨ chN r 0 = 49) ∧ chN r 1 = 32 ∧ chN r 5 = 32 ∧ valueB (r.drop 6) = true then (num3 ((r.drop 2).take 3)).map fun n => (chN r 0 - 48, n) else none
def statusL (s : List UInt8) : Option (Nat × Nat) := if Lib.hasPrefix s preL then statusR (s.drop 7) else none
def statV (x : Option (Nat × Nat)) : Value :=
  match x with
  | none => .tuple #[.agg #[.int .i64 0, .int .i64 0, .slice none 0 0], .bool false]
  | some (m, n) => .tuple #[.agg #[.int .i64 (m : Int), .int .i64 (n : Int), .slice none 0 0], .bool true]
theorem statusL_pre {s : ByteArray} {r : ByteArray} {b : Bool} (hr : r = ⟨(Lib.trimPrefix s.data.toList preL).toArray⟩) (hb : b = Lib.hasPrefix s.data.toList preL) : statusL s.data.toList = if b then statusR r.data.toList else none := by
  subst hr hb
  unfold statusL Lib.trimPrefix
  cases Lib.hasPrefix s.data.toList preL <;> rfl
section
variable {r : ByteArray} {X : Option (Nat × Nat)}
theorem st_no (h : ¬ (6 ≤ r.data.toList.length ∧ (chN r.data.toList 0 = 48 ∨ chN r.data.toList 0 = 49) ∧ chN r.data.toList 1 = 32 ∧ chN r.data.toList 5 = 32 ∧ valueB (r.data.toList.drop 6) = true)) (H : statusR r.data.toList = X) : X = none := by
  rw [← H]; unfold statusR; rw [if_neg h]
theorem st_len (h : ¬ 6 ≤ r.size) (H : statusR r.data.toList = X) : X = none := st_no (fun q => h q.1) H
theorem st_m (h : 6 ≤ r.size) (h0 : ¬ (r[0].toNat : Int) = 48) (h1 : ¬ (r[0].toNat : Int) = 49) (H : statusR r.data.toList = X) : X = none :=
  st_no (fun ⟨_, q, _⟩ => by rw [chN_at (by omega)] at q; omega) H
theorem st_1 (h : 6 ≤ r.size) (h0 : ¬ (r[1].toNat : Int) = 32) (H : statusR r.data.toList = X) : X = none :=
  st_no (fun ⟨_, _, q, _⟩ => by rw [chN_at (by omega)] at q; omega) H
theorem st_5 (h : 6 ≤ r.size) (h0 : ¬ (r[5].toNat : Int) = 32) (H : statusR r.data.toList = X) : X = none :=
  st_no (fun ⟨_, _, _, q, _⟩ => by rw [chN_at (by omega)] at q; omega) H
theorem st_v (h0 : valueB (r.data.toList.drop 6) = false) (H : statusR r.data.toList = X) : X = none :=
  st_no (fun ⟨_, _, _, _, q⟩ => by rw [h0] at q; cases q) H
theorem st_go (h : 6 ≤ r.size) (h0 : (r[0].toNat : Int) = 48 ∨ (r[0].toNat : Int) = 49) (h1 : (r[1].toNat : Int) = 32) (h5 : (r[5].toNat : Int) = 32) (hv : valueB (r.data.toList.drop 6) = true) (H : statusR r.data.toList = X) :
    X = (num3 ((r.data.toList.drop 2).take 3)).map fun n => (r[0].toNat - 48, n) := by
  rw [← H]; unfold statusR
  rw [if_pos ⟨h, by rw [chN_at (by omega)]; omega, by rw [chN_at (by omega)]; omega, by rw [chN_at (by omega)]; omega, hv⟩, chN_at (by omega)]
theorem st_bad (h : 6 ≤ r.size) (hn : (strictL 599 ((r.data.toList.drop 2).take 3)).2 ≠ 0 ∨ (strictL 599 ((r.data.toList.drop 2).take 3)).1 < 100) (k : Nat) (H : X = (num3 ((r.data.toList.drop 2).take 3)).map fun n => (k, n)) : X = none := by
  obtain ⟨a, b, c, e⟩ := three (l := r.data.toList) (by rw [size_toList]; omega)
  rw [e] at H hn
  rw [H, strict3, if_neg (by omega)]; rfl
theorem st_ok (h : 6 ≤ r.size) (h2 : (strictL 599 ((r.data.toList.drop 2).take 3)).2 = 0) (h1 : 100 ≤ (strictL 599 ((r.data.toList.drop 2).take 3)).1) (k : Nat) (H : X = (num3 ((r.data.toList.drop 2).take 3)).map fun n => (k, n)) : X = some (k, (strictL 599 ((r.data.toList.drop 2).take 3)).1) := by
  obtain ⟨a, b, c, e⟩ := three (l := r.data.toList) (by rw [size_toList]; omega)
  rw [e] at H h1 h2 ⊢
  rw [H, strict3, if_pos ⟨h2, h1⟩]; rfl
end
theorem ext_drop (s : ByteArray) (i : Nat) : (s.extract i s.size).data.toList = s.data.toList.drop i := by
  simp [List.take_of_length_le]
theorem ext_tk (s : ByteArray) (i j : Nat) : (s.extract i j).data.toList = (s.data.toList.drop i).take (j - i) := by
  simp [List.take_drop]
theorem strict_le (l : List UInt8) : (strictL 599 l).1 ≤ 599 := by
  unfold strictL; split
  · simp
  · exact parse_le _ _ _ _
end Go.Proofs.Ytegejmbkpdlekaa
