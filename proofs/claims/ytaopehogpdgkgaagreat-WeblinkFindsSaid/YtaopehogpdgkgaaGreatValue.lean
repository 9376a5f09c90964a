/- Contract of the cursor's Value. -/
import Derived.Test.YtaopehogpdgkgaaGreatQuoted
namespace Go.Proofs.YtaopehogpdgkgaaGreat
open Go.RowKit
def tokO (l : List UInt8) : Option (List UInt8 × List UInt8) := if (tokL l).isEmpty then none else some (tokL l, tokR l)
def valueL (l : List UInt8) : Option (List UInt8 × List UInt8) :=
  match l with
  | [] => none
  | c :: t => if c.toNat = 34 then quoL t else tokO (c :: t)
theorem valueL_quo {s : ByteArray} {k : Nat} (h : k < s.size) (hc : s[k].toNat = 34) : valueL (s.data.toList.drop k) = quoted (s.data.toList.drop k) := by
  rw [drop_cons s k h]; simp only [valueL, quoted]; rw [if_pos hc, if_pos hc]
theorem valueL_tok {s : ByteArray} {k : Nat} (h : k < s.size) (hc : ¬ s[k].toNat = 34) : valueL (s.data.toList.drop k) = tokO (s.data.toList.drop k) := by
  rw [drop_cons s k h]; simp only [valueL]; rw [if_neg hc]
theorem valueL_end {s : ByteArray} {k : Nat} (h : ¬ k < s.size) : valueL (s.data.toList.drop k) = tokO (s.data.toList.drop k) := by
  rw [drop_end s k h]; rfl
theorem valV_tok (l : List UInt8) : valV (tokO l) = .tuple #[.string (S (tokL l)), .bool (!(tokL l).isEmpty)] := by
  unfold tokO
  cases h : tokL l with
  | nil => rfl
  | cons x t => rfl
theorem valV_parts (x : Option (List UInt8 × List UInt8)) : ∃ (v : ByteArray) (t : Bool), valV x = .tuple #[.string v, .bool t] := by
  cases x with
  | none => exact ⟨_, _, rfl⟩
  | some y => exact ⟨_, _, rfl⟩
theorem tokO_rest {l v r : List UInt8} (h : tokO l = some (v, r)) : tokR l = r := by
  unfold tokO at h
  split at h
  · cases h
  · injection h with h; injection h
set_option maxRecDepth 100000 in
set_option maxHeartbeats 1000000 in
theorem cValue_c (b : Nat) (s : ByteArray) (k : Nat) (hk : k ≤ s.size) (hs : s.size ≤ 1000000) (w : World) (hc : Cur w b s k) :
    Calls Tryz.prog 32 #[.pointer (some ⟨b, 0, none⟩)] w fun e w' => e = .returned (valV (valueL (s.data.toList.drop k))) ∧ AtRest w' b s k (valueL (s.data.toList.drop k)) ∧ Only b w w' := by
  have HC := Lib.hid hc
  have c0 := hc.c0
  have c1 := hc.c1
  clear hc
  have HD := fun n => cDone_c b s k _ (HC.out.drewN (w := w) n)
  by_cases hlt : k < s.size
  · have hd : decide (s.size ≤ k) = false := by simp; omega
    rw [hd] at HD
    have HD := Lib.hid HD
    have hb := byte_lt s[k]
    by_cases x34 : s[k].toNat = 34
    · have e34 : ((s[k].toNat : Int) == 34) = true := by rw [x34]; rfl
      have HX := Lib.hid (valueL_quo hlt x34)
      clear x34
      go_enter Tryz.func32, Tryz.ntmps32
      go_wp2_with fail
      go_quiet ((go_at_call 31; exact q_done (HD.out _)))
      go_wp2_with fail
      refine (cQuoted_c b s k hk hs _ (HC.out.drewN (w := w) nq)).mono ?_
      rintro e w1 ⟨he, hr, ho⟩
      obtain ⟨v, t, hv⟩ := valV_parts (quoted (s.data.toList.drop k))
      have HV := Lib.hid hv
      obtain rfl := he.trans (ret_w hv.symm)
      clear he hv
      go_wp2_with fail
      go_ret2
      rw [HX.out]
      exact ⟨ret_w HV.out, hr, ((Only.refl b w).drewN nq).trans ho⟩
    · have e34 : ((s[k].toNat : Int) == 34) = false := by simp; omega
      have HX := Lib.hid (valueL_tok hlt x34)
      clear x34
      go_enter Tryz.func32, Tryz.ntmps32
      go_wp2_with fail
      go_quiet ((go_at_call 31; exact q_done (HD.out _)))
      go_wp2_with fail
      refine (cToken_c b s k hk hs _ (HC.out.drewN (w := w) nq)).mono ?_
      rintro e w1 ⟨rfl, ⟨k', h1, h2, h3, h4⟩, ho⟩
      go_wp2_with fail
      go_ret2
      rw [HX.out]
      exact ⟨ret_w (valV_tok _), ⟨k', h1, h2, h4, fun v r h => h3.trans (tokO_rest h)⟩, ((Only.refl b w).drewN nq).trans ho⟩
  · have hd : decide (s.size ≤ k) = true := by simp; omega
    rw [hd] at HD
    have HD := Lib.hid HD
    have HX := Lib.hid (valueL_end hlt)
    go_enter Tryz.func32, Tryz.ntmps32
    go_wp2_with fail
    go_quiet ((go_at_call 31; exact q_done (HD.out _)))
    go_wp2_with fail
    refine (cToken_c b s k hk hs _ (HC.out.drewN (w := w) nq)).mono ?_
    rintro e w1 ⟨rfl, ⟨k', h1, h2, h3, h4⟩, ho⟩
    go_wp2_with fail
    go_ret2
    rw [HX.out]
    exact ⟨ret_w (valV_tok _), ⟨k', h1, h2, h4, fun v r h => h3.trans (tokO_rest h)⟩, ((Only.refl b w).drewN nq).trans ho⟩
end Go.Proofs.YtaopehogpdgkgaaGreat
