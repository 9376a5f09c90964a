/- Contract of webfingerref22.words. -/
import Derived.Test.YtaopehogpdgkgaaGreatWlParse
namespace Go.Proofs.YtaopehogpdgkgaaGreat
open Go.RowKit
def nbN (n : Nat) : Bool := !blankN n
theorem blank_head {l t : List UInt8} {c : UInt8} (h : blankL l = c :: t) : blankN c.toNat = false := by
  induction l with
  | nil => cases h
  | cons x u ih =>
    by_cases hx : blankN x.toNat = true
    · exact ih (by rw [← h]; simp [blankL, hx])
    · have e : blankL (x :: u) = x :: u := by simp [blankL, hx]
      rw [e] at h; injection h with h1 _; subst h1; simpa using hx
theorem words_step {s : ByteArray} {j : Nat} {l : List UInt8} (h : j < s.size) (hl : s.data.toList.drop j = blankL l) :
    wordsL (s.data.toList.drop j) = ((s.data.toList.drop j).takeWhile fun x => nbN x.toNat) :: wordsL (blankL (s.data.toList.drop (j + twN nbN (s.data.toList.drop j)))) := by
  have hb : blankN s[j].toNat = false := blank_head (hl.symm.trans (drop_cons s j h))
  unfold wordsL
  rw [wordsA_blank, tw_dropS, wordsA_word]
  have hne : ((s.data.toList.drop j).takeWhile fun x => !blankN x.toNat).isEmpty = false := by
    rw [drop_cons s j h]; simp [hb]
  rw [List.nil_append, hne]
  rfl
theorem words_end {s : ByteArray} {j : Nat} (h : ¬ j < s.size) : wordsL (s.data.toList.drop j) = [] := by rw [drop_end s j h]; rfl
end Go.Proofs.YtaopehogpdgkgaaGreat
