/- Freshness, plain; contracts of seconds, least (program) and seconds (reference). -/
import Derived.Test.YtegejmbkpdlekaaGet
import Derived.Test.YtegejmbkpdlekaaStrict
namespace Go.Proofs.Ytegejmbkpdlekaa
open Go.RowKit
def maxU : Nat := 18446744073709551615
/-- the number of a string, the greatest one if it is too great -/
def secP (l : List UInt8) : Nat × Bool := if (parseL digitN 10 maxU l).2 = 4 then (maxU, true) else ((parseL digitN 10 maxU l).1, decide ((parseL digitN 10 maxU l).2 = 0))
def noStoreW : List UInt8 := [110, 111, 45, 115, 116, 111, 114, 101]
def noCacheW : List UInt8 := [110, 111, 45, 99, 97, 99, 104, 101]
def maxAgeW : List UInt8 := [109, 97, 120, 45, 97, 103, 101]
/-- the least max-age of directives that permit to cache -/
def leastF : List Fld → Nat → Bool → Option (Nat × Bool)
  | [], a, b => some (a, b)
  | f :: t, a, b => if f.1 = noStoreW ∨ f.1 = noCacheW then none else if f.1 = maxAgeW then (if (secP f.2).2 then leastF t (min a (secP f.2).1) true else none) else leastF t a b
theorem fold_le (base most : Nat) : ∀ (l : List UInt8) (n m : Nat), n ≤ most → foldV base most n l = some m → m ≤ most
  | [], n, m, hn, h => by simp only [foldV] at h; injection h with h; omega
  | b :: t, n, m, hn, h => by
    simp only [foldV] at h
    by_cases hc : most < n * base + hexV b.toNat
    · rw [if_pos hc] at h; cases h
    · rw [if_neg hc] at h
      exact fold_le base most t _ m (by omega) h
theorem parse_le (p : Nat → Bool) (base most : Nat) (l : List UInt8) : (parseL p base most l).1 ≤ most := by
  unfold parseL
  by_cases h1 : l = []
  · rw [if_pos h1]; simp
  · rw [if_neg h1]
    by_cases h2 : allB p l = false
    · rw [if_pos h2]; simp
    · rw [if_neg h2]
      cases hf : foldV base most 0 l with
      | none => simp
      | some n => exact fold_le _ _ _ _ _ (Nat.zero_le _) hf
theorem sec_le (l : List UInt8) : (secP l).1 ≤ maxU := by
  unfold secP
  by_cases h : (parseL digitN 10 maxU l).2 = 4
  · rw [if_pos h]; exact Nat.le_refl _
  · rw [if_neg h]; exact parse_le _ _ _ _
theorem least_le : ∀ (l : List Fld) (a : Nat) (b : Bool) (x : Nat × Bool), a ≤ maxU → leastF l a b = some x → x.1 ≤ maxU
  | [], a, b, x, ha, h => by simp only [leastF] at h; injection h with h; rw [← h]; exact ha
  | f :: t, a, b, x, ha, h => by
    simp only [leastF] at h
    by_cases h1 : f.1 = noStoreW ∨ f.1 = noCacheW
    · rw [if_pos h1] at h; cases h
    · rw [if_neg h1] at h
      by_cases h2 : f.1 = maxAgeW
      · rw [if_pos h2] at h
        by_cases h3 : (secP f.2).2 = true
        · rw [if_pos h3] at h; exact least_le t _ _ x (by omega) h
        · rw [if_neg h3] at h; cases h
      · rw [if_neg h2] at h; exact least_le t _ _ x ha h
theorem nat_eq0 (c : Nat) : decide (c = 0) = ((c : Int) == 0) := by rw [Bool.eq_iff_iff]; simp
theorem U_max : U maxU := by unfold U maxU; omega
theorem secP_4 {l : List UInt8} (h : (parseL digitN 10 maxU l).2 = 4) : secP l = (maxU, true) := by unfold secP; rw [if_pos h]
theorem secP_n {l : List UInt8} (h : ¬ (parseL digitN 10 maxU l).2 = 4) : secP l = ((parseL digitN 10 maxU l).1, decide ((parseL digitN 10 maxU l).2 = 0)) := by unfold secP; rw [if_neg h]
set_option maxRecDepth 100000 in
set_option maxHeartbeats 1000000 in
theorem seconds_c (s : ByteArray) (hs : s.size ≤ 1000000) (w : World) :
    Calls Try.prog 44 #[.string s] w fun e w' => e = .returned (.tuple #[.int .u64 ((secP s.data.toList).1 : Nat), .bool (secP s.data.toList).2]) ∧ w = w' := by
  have HP := Lib.hid (nParse_c s hs maxU U_max w)
  have H4 := Lib.hid (@secP_4 s.data.toList)
  have HN := Lib.hid (@secP_n s.data.toList)
  generalize hr : parseL digitN 10 maxU s.data.toList = r at *
  obtain ⟨n, c⟩ := r
  clear hr
  go_enter Try.func44, Try.ntmps44
  go_wp2_with fail
  refine HP.out.mono ?_
  rintro e w' ⟨rfl, rfl⟩
  by_cases h4 : c = 4
  · subst h4
    have HX := Lib.hid (H4.out rfl)
    go_wp2_with fail
    go_ret2
    exact ⟨by rw [HX.out]; rfl, rfl⟩
  · have e4 : ((c : Int) == 4) = false := by simp; omega
    have HX := Lib.hid (HN.out h4)
    clear h4
    go_wp2_with fail
    go_ret2
    exact ⟨by rw [HX.out, nat_eq0]; rfl, rfl⟩
set_option maxRecDepth 100000 in
set_option maxHeartbeats 1000000 in
theorem rseconds_c (s : ByteArray) (hs : s.size ≤ 1000000) (w : World) :
    Calls Try.prog 46 #[.string s] w fun e w' => e = .returned (.tuple #[.int .u64 ((secP s.data.toList).1 : Nat), .bool (secP s.data.toList).2]) ∧ w = w' := by
  have HP := Lib.hid (rnParse_c s hs maxU U_max w)
  have H4 := Lib.hid (@secP_4 s.data.toList)
  have HN := Lib.hid (@secP_n s.data.toList)
  generalize hr : parseL digitN 10 maxU s.data.toList = r at *
  obtain ⟨n, c⟩ := r
  clear hr
  go_enter Try.func46, Try.ntmps46
  go_wp2_with fail
  refine HP.out.mono ?_
  rintro e w' ⟨rfl, rfl⟩
  by_cases h4 : c = 4
  · subst h4
    have HX := Lib.hid (H4.out rfl)
    go_wp2_with fail
    go_ret2
    exact ⟨by rw [HX.out]; rfl, rfl⟩
  · have e4 : ((c : Int) == 4) = false := by simp; omega
    have HX := Lib.hid (HN.out h4)
    clear h4
    go_wp2_with fail
    go_ret2
    exact ⟨by rw [HX.out, nat_eq0]; rfl, rfl⟩
end Go.Proofs.Ytegejmbkpdlekaa
