/- The reference's lines: each ends with the two bytes (plain law, chapter 18). -/
import Derived.Test.YtegejmbkpdlekaaHdApp
namespace Go.Proofs.Ytegejmbkpdlekaa
open Go.RowKit
theorem index_app : ∀ r : List UInt8, Lib.index (r ++ crlfL) crlfL = if 0 ≤ Lib.index r crlfL then Lib.index r crlfL else (r.length : Int)
  | [] => by decide
  | b :: l => by
    have ih := index_app l
    have hp : crlfL.isPrefixOf (b :: (l ++ crlfL)) = crlfL.isPrefixOf (b :: l) := by
      cases l with
      | nil => simp [crlfL, List.isPrefixOf]
      | cons c t => simp [crlfL, List.isPrefixOf]
    rw [List.cons_append]
    unfold Lib.index
    rw [hp, ih]
    by_cases h : crlfL.isPrefixOf (b :: l) = true
    · rw [if_pos h, if_pos h]; simp
    · rw [if_neg h, if_neg h]
      have hg := Lib.index_ge l crlfL
      by_cases h0 : 0 ≤ Lib.index l crlfL
      · have h1 : (Lib.index l crlfL == -1) = false := by simp; omega
        rw [if_pos h0, h1]; simp only [Bool.false_eq_true, if_false]; rw [if_pos (by omega)]
      · have h1 : (Lib.index l crlfL == -1) = true := by simp; omega
        have h2 : ((l.length : Int) == -1) = false := by rw [beq_eq_false_iff_ne]; omega
        rw [if_neg h0, h1, h2]; simp
/-- the reference's rest for the program's -/
def rrest (r : List UInt8) (m : Bool) : List UInt8 := if m then r ++ crlfL else []
theorem rr_index {r : List UInt8} : ∃ k : Nat, Lib.index (r ++ crlfL) crlfL = (k : Int) ∧ k ≤ r.length ∧ (r ++ crlfL).take k = lineL r ∧ (r ++ crlfL).drop (k + 2) = rrest (restL r) (moreL r) := by
  rw [index_app]
  by_cases h : 0 ≤ Lib.index r crlfL
  · obtain ⟨k, hk⟩ : ∃ k : Nat, Lib.index r crlfL = k := ⟨(Lib.index r crlfL).toNat, by omega⟩
    have hr := Lib.index_room r crlfL h
    have hc : crlfL.length = 2 := rfl
    refine ⟨k, by rw [if_pos h, hk], by omega, ?_, ?_⟩
    · unfold lineL Lib.cut
      rw [if_pos h, hk, List.take_append_of_le_length (by omega)]; rfl
    · unfold rrest restL moreL Lib.cut
      rw [if_pos h, hk, List.drop_append_of_le_length (by omega)]; rfl
  · refine ⟨r.length, by rw [if_neg h], Nat.le_refl _, ?_, ?_⟩
    · unfold lineL Lib.cut
      rw [if_neg h]; simp
    · unfold rrest restL moreL Lib.cut
      rw [if_neg h]; simp [crlfL]
theorem index_col : ∀ l : List UInt8, Lib.index l [58] = if twN notColon l < l.length then (twN notColon l : Int) else -1
  | [] => by decide
  | b :: l => by
    have ih := index_col l
    unfold Lib.index
    by_cases hb : b = 58
    · subst hb
      rw [if_pos (by simp [List.isPrefixOf])]
      have : twN notColon (58 :: l) = 0 := by simp [twN, notColon]
      rw [this]; simp
    · have hp : ([58] : List UInt8).isPrefixOf (b :: l) = false := by simp [List.isPrefixOf]; exact fun e => hb e.symm
      have hn : notColon b.toNat = true := by
        simp only [notColon, Bool.not_eq_true', beq_eq_false_iff_ne, ne_eq]
        intro e; exact hb (UInt8.toNat_inj.1 e)
      have ht : twN notColon (b :: l) = twN notColon l + 1 := by simp [twN, hn]
      rw [hp, ih, ht]
      simp only [Bool.false_eq_true, if_false, List.length_cons]
      by_cases h : twN notColon l < l.length
      · have h1 : ((twN notColon l : Int) == -1) = false := by rw [beq_eq_false_iff_ne]; omega
        have h2 : twN notColon l + 1 < l.length + 1 := by omega
        simp only [h, h2, if_true, h1, Bool.false_eq_true, if_false]; omega
      · have h2 : ¬ twN notColon l + 1 < l.length + 1 := by omega
        simp only [h, h2, if_false]; rfl
theorem tw_len (l : List UInt8) : twN notColon l ≤ l.length := List.Sublist.length_le (List.takeWhile_sublist _)
theorem col_cut (l : List UInt8) : ((Lib.cut l [58]).2.2 = true ↔ twN notColon l ≠ l.length) ∧ (twN notColon l ≠ l.length → (Lib.cut l [58]).1 = l.take (twN notColon l) ∧ (Lib.cut l [58]).2.1 = l.drop (twN notColon l + 1)) := by
  have hl := tw_len l
  unfold Lib.cut
  rw [index_col]
  by_cases h : twN notColon l < l.length
  · rw [if_pos h, if_pos (by omega)]
    exact ⟨⟨fun _ => by omega, fun _ => rfl⟩, fun _ => ⟨by rw [Int.toNat_natCast], by rw [Int.toNat_natCast]; rfl⟩⟩
  · rw [if_neg h, if_neg (by omega)]
    exact ⟨⟨fun e => by simp at e, fun e => by omega⟩, fun e => by omega⟩
end Go.Proofs.Ytegejmbkpdlekaa
