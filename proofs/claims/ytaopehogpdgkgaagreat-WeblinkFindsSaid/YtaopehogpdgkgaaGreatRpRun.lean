/- (*strings.byteStringReplacer).Replace at the replacer of grammar.Write. -/
import Derived.Test.YtaopehogpdgkgaaGreatRpDo
import Derived.Lib.Bytealg
import Derived.Laws.CopyOwn
import Derived.Deep.OwnRows
import Derived.Deep.QuietTactic
import Derived.BigQuiet
import Derived.IntWalk
namespace Go.Proofs.YtaopehogpdgkgaaGreat
open Go.RowKit
set_option maxRecDepth 100000 in
set_option maxHeartbeats 1000000 in
theorem count_c (s : ByteArray) (c : UInt8) (w : World) :
    Calls Tryz.prog 146 #[.string s, .string ⟨#[c]⟩] w fun e w' => e = .returned (.int .i64 (Lib.countByte s.data.toList c : Nat)) ∧ w = w' := by
  go_enter Tryz.func146, Tryz.ntmps146
  go_wp2
  rw [run_callFunc_extern Tryz.func148 (by kernel_rfl) (by kernel_rfl) (by kernel_rfl) (e := Extern.BytealgCount.count) (by kernel_rfl), Lib.run_countString]
  simp only [Result.andThen]
  rw [Oper.upon_value]
  go_wp2
  go_ret
  exact ⟨rfl, rfl⟩
def cntQ (l : List UInt8) : Nat := Lib.countByte l 34 + Lib.countByte l 92
theorem cntQ_cons (c : UInt8) (l : List UInt8) : cntQ (c :: l) = (if c.toNat = 34 ∨ c.toNat = 92 then 1 else 0) + cntQ l := by
  have h34 : (c == 34) = decide (c.toNat = 34) := by
    rw [Bool.eq_iff_iff, beq_iff_eq, decide_eq_true_eq]
    exact ⟨fun e => by rw [e]; rfl, fun e => UInt8.toNat_inj.1 (by rw [e]; rfl)⟩
  have h92 : (c == 92) = decide (c.toNat = 92) := by
    rw [Bool.eq_iff_iff, beq_iff_eq, decide_eq_true_eq]
    exact ⟨fun e => by rw [e]; rfl, fun e => UInt8.toNat_inj.1 (by rw [e]; rfl)⟩
  unfold cntQ Lib.countByte
  rw [List.count_cons, List.count_cons, h34, h92]
  by_cases a : c.toNat = 34
  · have b : ¬ c.toNat = 92 := by omega
    simp [a]; omega
  · by_cases b : c.toNat = 92
    · simp [b]; omega
    · simp [a, b]
theorem quote_cnt (l : List UInt8) : (quoteL l).length = l.length + cntQ l := by
  induction l with
  | nil => rfl
  | cons c l ih =>
    have e : quoteL (c :: l) = (if c.toNat = 34 ∨ c.toNat = 92 then [92, c] else [c]) ++ quoteL l := by simp [quoteL]
    rw [e, cntQ_cons, List.length_append, ih, List.length_cons]
    by_cases h : c.toNat = 34 ∨ c.toNat = 92
    · rw [if_pos h, if_pos h]; simp; omega
    · rw [if_neg h, if_neg h]; simp; omega
theorem quote_none (l : List UInt8) (h : cntQ l = 0) : quoteL l = l := by
  induction l with
  | nil => rfl
  | cons c l ih =>
    rw [cntQ_cons] at h
    have e : quoteL (c :: l) = (if c.toNat = 34 ∨ c.toNat = 92 then [92, c] else [c]) ++ quoteL l := by simp [quoteL]
    by_cases hc : c.toNat = 34 ∨ c.toNat = 92
    · rw [if_pos hc] at h; omega
    · rw [e, if_neg hc, ih (by rw [if_neg hc] at h; omega)]; rfl
theorem cnt_take (s : ByteArray) (k : Nat) (h : k < s.size) : cntQ (s.data.toList.take (k + 1)) = cntQ (s.data.toList.take k) + (if s[k].toNat = 34 ∨ s[k].toNat = 92 then 1 else 0) := by
  have e : s.data.toList.take (k + 1) = s.data.toList.take k ++ [s[k]] := List.take_succ_eq_append_getElem (by simpa using h)
  have app : ∀ a b : List UInt8, cntQ (a ++ b) = cntQ a + cntQ b := fun a b => by unfold cntQ Lib.countByte; rw [List.count_append, List.count_append]; omega
  rw [e, app, cntQ_cons]; rfl
theorem cnt_le (l : List UInt8) : cntQ l ≤ l.length := by
  have h1 := quoteL_len l
  have h2 := quote_cnt l
  omega
end Go.Proofs.YtaopehogpdgkgaaGreat
