/- Digits; a response is never cached for longer than a day, and a greater age never means more seconds. -/
import Derived.Test.YtegejmbkpdlekaaSane21
import Derived.Test.YtegejmbkpdlekaaFormat
namespace Go.Proofs.Ytegejmbkpdlekaa
open Go.RowKit
set_option maxHeartbeats 1000000 in
set_option maxRecDepth 100000 in
theorem lawDigits_c (n : Nat) (hn : U n) (w : World) :
    Calls Try.prog 21 #[.int .u64 n] w fun e w' => e = .returned (.string (S (fmtL n))) ∧ Below w.heap.size w w' := by
  have hp : n < pw 19 := by unfold U at hn; rw [pw19]; omega
  have HP := Lib.hid hp
  have HU := Lib.hid hn
  clear hn hp
  go_enter Try.func21, Try.ntmps21
  go_wp2_with fail
  go_loopw [0, 3] (fun u v wr => ∃ m k : Nat, ∃ suf : List UInt8, u = .int .u64 m ∧ v = .string (S suf) ∧ k ≤ 19 ∧ (S suf).size = 19 - k ∧ m ≤ n ∧ m < pw k ∧ digs k m ++ suf = fmtL n ∧ Below w.heap.size w wr) (fun u _ _ => (intOf u).toNat)
  case atStart => exact ⟨n, 19, [], rfl, rfl, by omega, rfl, Nat.le_refl _, HP.out, by simp [fmtL], Below.refl _ _⟩
  case round =>
    obtain ⟨m, k, suf, rfl, rfl, hk, hsz, hmn, hpw, hd, hB⟩ := hrel
    have hu := HU.out.2
    have hm2 : (m : Int) ≤ 18446744073709551615 := by omega
    have HD := Lib.hid hd
    have HPW := Lib.hid hpw
    have HSZ := Lib.hid hsz
    have hsz1 : (S suf).size ≤ 19 := by omega
    have hcv := fun w => conv1 w (dig m)
    rw [show ((dig m).toNat : Int) = 48 + (m : Int) % 10 by rw [dig_toNat]; omega] at hcv
    have happ : S [dig m] ++ S suf = S (dig m :: suf) := by apply ByteArray.ext; apply Array.toList_inj.1; simp [S]
    have HAPP := Lib.hid happ
    have hone : (S [dig m]).size ≤ 1 := by rw [S_size]; simp
    clear hd hpw hu hsz happ
    by_cases h10 : m < 10
    · have HX := Lib.hid (show digs k m ++ suf = dig m :: suf from by rw [digs_stop h10]; rfl)
      have hq : ((m : Int) / 10 == 0) = true := by simp; omega
      go_wp2_with fail
      go_ret
      exact ⟨ret_s (by rw [HAPP.out, ← HD.out, HX.out]), hB.alloc hB.size _⟩
    · obtain ⟨hk0, hq⟩ := pw_pos HPW.out h10
      obtain ⟨k', rfl⟩ : ∃ k', k = k' + 1 := ⟨k - 1, by omega⟩
      have HX := Lib.hid (show digs k' (m / 10) ++ dig m :: suf = fmtL n from by rw [← HD.out, digs_go hk0 h10]; simp)
      have HQ := Lib.hid hq
      have hq0 : ((m : Int) / 10 == 0) = false := by simp; omega
      have HS2 := Lib.hid (show (S (dig m :: suf)).size = 19 - k' from by have := HSZ.out; rw [S_size] at *; simp; omega)
      clear hq
      go_wp2_with fail
      go_roundw
      case rel => exact ⟨m / 10, k', dig m :: suf, by go_num, congrArg _ HAPP.out, by omega, HS2.out, by omega, HQ.out, HX.out, hB.alloc hB.size _⟩
      case measure => simp [intOf]; omega

theorem parse_fmt {n : Nat} (h : n ≤ maxU) : parseL digitN 10 maxU (fmtL n) = (n, 0) := by
  have hp : n < pw 19 := by rw [pw19]; unfold maxU at h; omega
  unfold parseL
  rw [if_neg (show ¬ fmtL n = [] from digs_ne 19 n), if_neg (by rw [show allB digitN (fmtL n) = true from digs_all 19 n]; simp)]
  rw [show foldV 10 maxU 0 (fmtL n) = some n from fold_digs 19 n maxU hp h]
theorem sec_fmt {n : Nat} (h : n ≤ maxU) : secP (fmtL n) = (n, true) := by
  unfold secP; rw [parse_fmt h]; rfl
theorem named_cc (c : List UInt8) : namedL ccW (ccW, c) = true := rfl
theorem named_ca (c : List UInt8) : namedL ccW (agW, c) = false := rfl
theorem named_ac (c : List UInt8) : namedL agW (ccW, c) = false := rfl
theorem named_aa (c : List UInt8) : namedL agW (agW, c) = true := rfl
theorem values_cc (c d : List UInt8) : valuesL (headsL c d) ccW = [c] := by
  unfold headsL; rw [valuesL, if_pos (named_cc c), valuesL, if_neg (by rw [named_ca]; simp)]; rfl
theorem values_ag (c d : List UInt8) : valuesL (headsL c d) agW = [d] := by
  unfold headsL; rw [valuesL, if_neg (by rw [named_ac]; simp), valuesL, if_pos (named_aa d)]; rfl
def obN (c : List UInt8) (n : Nat) : Nat :=
  match (match dirF (c.length + 1) c with | none => none | some ds => leastF ds maxU false) with
  | none => 0
  | some x => if x.2 then min (x.1 - n) 86400 else 0
theorem of_bound (c : List UInt8) {n : Nat} (h : n ≤ maxU) : ofL (headsL c (fmtL n)) = obN c n := by
  have h1 : joinG (headsL c (fmtL n)) ccW = c := by unfold joinG; rw [values_cc, Lib.join_one]
  have h2 : joinG (headsL c (fmtL n)) agW = fmtL n := by unfold joinG; rw [values_ag, Lib.join_one]
  have h3 : ageP (headsL c (fmtL n)) = (n, true) := by unfold ageP; rw [values_ag, h2, if_pos (by simp), sec_fmt h]
  unfold ofL ctlP
  rw [values_cc, h1, h3, if_pos (by simp)]
  unfold obN
  cases dirF (c.length + 1) c with
  | none => rfl
  | some ds =>
    simp only
    cases leastF ds maxU false with
    | none => rfl
    | some x => simp only [Bool.and_true]
theorem obN_le (c : List UInt8) (n : Nat) : obN c n ≤ 86400 := by
  unfold obN
  split
  · omega
  · split
    · exact Nat.min_le_right _ _
    · omega
theorem obN_mono (c : List UInt8) {n m : Nat} (h : n ≤ m) : obN c m ≤ obN c n := by
  unfold obN
  split
  · omega
  · rename_i x _
    split
    · have : x.1 - m ≤ x.1 - n := by omega
      simp only [Nat.min_def]; split <;> split <;> omega
    · omega
theorem bound_facts (c : ByteArray) (hc : c.size ≤ 500) (n m : Nat) (hn : n ≤ maxU) (hm : m ≤ maxU) (h : n ≤ m) : ∃ x y : Nat, y ≤ x ∧ x ≤ 86400 ∧
    (∀ W A d, Rd W 2 (.slice A 2 d) 2 (fldsV (headsL c.data.toList (S (fmtL n)).data.toList)) → Calls Try.prog 16 #[.agg #[.int .i64 0, .int .i64 200, .slice A 2 d]] W fun e w' => e = .returned (freshV x) ∧ Below W.heap.size W w') ∧
    (∀ W A d, Rd W 2 (.slice A 2 d) 2 (fldsV (headsL c.data.toList (S (fmtL m)).data.toList)) → Calls Try.prog 16 #[.agg #[.int .i64 0, .int .i64 200, .slice A 2 d]] W fun e w' => e = .returned (freshV y) ∧ Below W.heap.size W w') := by
  refine ⟨obN c.data.toList n, obN c.data.toList m, obN_mono _ h, obN_le _ _, fun W A d hR => ?_, fun W A d hR => ?_⟩
  · have hl := fmtL_len n
    have := of_heads c (S (fmtL n)) W A d (by rw [S_size]; omega) hR
    rw [S_list, of_bound _ hn] at this
    exact this
  · have hl := fmtL_len m
    have := of_heads c (S (fmtL m)) W A d (by rw [S_size]; omega) hR
    rw [S_list, of_bound _ hm] at this
    exact this
theorem freshV_pos {x : Nat} (h : 0 < x) : freshV x = .agg #[.bool true, .int .u64 (x : Int)] := by unfold freshV; rw [decide_eq_true h]
theorem freshV_zero : freshV 0 = .agg #[.bool false, .int .u64 0] := rfl
end Go.Proofs.Ytegejmbkpdlekaa
