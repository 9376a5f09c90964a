/- Contracts of the cursor's while (at blanks and at token bytes), Blank, Token. -/
import Derived.Test.YtaopehogpdgkgaaGreatCur
import Derived.Deep.LoopGhost
namespace Go.Proofs.YtaopehogpdgkgaaGreat
open Go.RowKit
/-- how many bytes of a class stand at the head -/
def twN (p : Nat → Bool) (l : List UInt8) : Nat := (l.takeWhile fun x => p x.toNat).length
theorem tw_hit {p : Nat → Bool} {s : ByteArray} {j : Nat} (h : j < s.size) (hp : p s[j].toNat = true) : twN p (s.data.toList.drop j) = twN p (s.data.toList.drop (j + 1)) + 1 := by
  rw [drop_cons s j h]; simp [twN, hp]
theorem tw_miss {p : Nat → Bool} {s : ByteArray} {j : Nat} (h : j < s.size) (hp : p s[j].toNat = false) : twN p (s.data.toList.drop j) = 0 := by
  rw [drop_cons s j h]; simp [twN, hp]
theorem tw_end {p : Nat → Bool} {s : ByteArray} {j : Nat} (h : ¬ j < s.size) : twN p (s.data.toList.drop j) = 0 := by
  rw [drop_end s j h]; rfl
theorem tw_le (p : Nat → Bool) (s : ByteArray) (j : Nat) (h : j ≤ s.size) : j + twN p (s.data.toList.drop j) ≤ s.size := by
  have h1 : twN p (s.data.toList.drop j) ≤ (s.data.toList.drop j).length := List.Sublist.length_le (List.takeWhile_sublist _)
  rw [List.length_drop, size_toList] at h1; omega
theorem tw_drop (p : Nat → Bool) (l : List UInt8) : l.drop (twN p l) = l.dropWhile fun x => p x.toNat := by
  unfold twN
  induction l with
  | nil => rfl
  | cons x t ih => by_cases h : p x.toNat = true <;> simp [h, ih]
theorem tw_take (p : Nat → Bool) (l : List UInt8) : l.take (twN p l) = l.takeWhile fun x => p x.toNat := by
  unfold twN
  induction l with
  | nil => rfl
  | cons x t ih => by_cases h : p x.toNat = true <;> simp [h, ih]
theorem tw_dropS (p : Nat → Bool) (s : ByteArray) (k : Nat) : s.data.toList.drop (k + twN p (s.data.toList.drop k)) = (s.data.toList.drop k).dropWhile fun x => p x.toNat := by
  rw [← tw_drop, List.drop_drop]
theorem ext_tw (p : Nat → Bool) (s : ByteArray) (k : Nat) : s.extract k (k + twN p (s.data.toList.drop k)) = S ((s.data.toList.drop k).takeWhile fun x => p x.toNat) := by
  apply ByteArray.ext; apply Array.toList_inj.1
  rw [Lib.extract_data, ← tw_take, Nat.add_sub_cancel_left]; rfl
theorem isBlank_c (c : Int) (h0 : 0 ≤ c) (h1 : c ≤ 255) (w : World) : Calls Tryz.prog 47 #[.int .u8 c] w fun e w' => e = .returned (.bool (blankN c.toNat)) ∧ w = w' := by
  obtain ⟨n, rfl⟩ := byte_cases h0 h1
  have hb : (((n.val : Int) == 32) || ((n.val : Int) == 9)) = blankN ((n.val : Int)).toNat := by
    revert n; decide +kernel
  go_enter Tryz.func47, Tryz.ntmps47
  go_wp2
  all_goals
    go_ret
    exact ⟨ret_b (by rw [← hb]; simp [*]), rfl⟩

set_option maxHeartbeats 1000000 in
theorem whileBlank_c (b : Nat) (s : ByteArray) (k : Nat) (hk : k ≤ s.size) (hs : s.size ≤ 1000000) (w : World) (hc : Cur w b s k) :
    Calls Tryz.prog 45 #[.pointer (some ⟨b, 0, none⟩), .func (.func 47) #[] #[]] w fun e w' => e = .returned (.string (s.extract k (k + twN blankN (s.data.toList.drop k)))) ∧
      Cur w' b s (k + twN blankN (s.data.toList.drop k)) ∧ Only b w w' := by
  have hle := tw_le blankN s k hk
  have HK := Lib.hid (rfl : k + twN blankN (s.data.toList.drop k) = k + twN blankN (s.data.toList.drop k))
  generalize hK : k + twN blankN (s.data.toList.drop k) = K at *
  have c1 := hc.c1
  go_enter Tryz.func45, Tryz.ntmps45
  go_wp2_with fail
  go_loopg [] (s.size - k) (fun gf wr => ∃ j : Nat, k ≤ j ∧ j ≤ s.size ∧ s.size ≤ j + gf ∧ Cur wr b s j ∧ j + twN blankN (s.data.toList.drop j) = K ∧ Only b w wr)
  case atStart => exact ⟨k, Nat.le_refl _, hk, by omega, hc, hK, Only.refl _ _⟩
  case round =>
    obtain ⟨j, hkj, hj, hg, hcj, hJ, hO⟩ := hrel
    have HC := Lib.hid hcj
    have HJ := Lib.hid hJ
    clear c1 hc hJ
    have c0 := hcj.c0
    have c1 := hcj.c1
    have f1 := hcj.f1
    clear hcj
    by_cases hlt : j < s.size
    · have hd : decide (s.size ≤ j) = false := by simp; omega
      have HD := fun n => cDone_c b s j _ (HC.out.drewN n)
      rw [hd] at HD
      have HD := Lib.hid HD
      have hb := byte_lt s[j]
      by_cases hp : blankN s[j].toNat = true
      · have HP := fun n => isBlank_c (s[j].toNat : Int) (by omega) (by omega) (wr.drewN n)
        rw [show ((s[j].toNat : Int)).toNat = s[j].toNat from by simp, hp] at HP
        have HP := Lib.hid HP
        go_wp2_with fail
        go_quiet (first | (go_at_call 31; exact q_done (HD.out _)) | (go_at_call 47; exact q_same (HP.out _)))
        go_wp2_with fail
        go_roundg (gk - 1)
        case measure => omega
        case rel => exact ⟨j + 1, by omega, by omega, by omega, (HC.out.drewN _).set (j + 1), by have := HJ.out; rw [tw_hit hlt hp] at this; omega, (hO.drewN _).trans (Only.set _)⟩
      · have hp' : blankN s[j].toNat = false := by simpa using hp
        have HP := fun n => isBlank_c (s[j].toNat : Int) (by omega) (by omega) (wr.drewN n)
        rw [show ((s[j].toNat : Int)).toNat = s[j].toNat from by simp, hp'] at HP
        have HP := Lib.hid HP
        have e : j = K := by have := HJ.out; rw [tw_miss hlt hp'] at this; omega
        subst e
        clear hp
        go_wp2_with fail
        go_quiet (first | (go_at_call 31; exact q_done (HD.out _)) | (go_at_call 47; exact q_same (HP.out _)))
        go_wp2_with fail
        go_quiet (fail)
        go_wp2_with fail
        go_ret
        exact ⟨rfl, HC.out, (hO.drewN _).drewN _⟩
    · have hd : decide (s.size ≤ j) = true := by simp; omega
      have HD := fun n => cDone_c b s j _ (HC.out.drewN n)
      rw [hd] at HD
      have HD := Lib.hid HD
      have e : j = K := by have := HJ.out; rw [tw_end hlt] at this; omega
      subst e
      go_wp2_with fail
      go_quiet ((go_at_call 31; exact q_done (HD.out _)))
      go_wp2_with fail
      go_quiet (fail)
      go_wp2_with fail
      go_ret
      exact ⟨rfl, HC.out, (hO.drewN _).drewN _⟩

set_option maxHeartbeats 1000000 in
theorem whileToken_c (b : Nat) (s : ByteArray) (k : Nat) (hk : k ≤ s.size) (hs : s.size ≤ 1000000) (w : World) (hc : Cur w b s k) :
    Calls Tryz.prog 45 #[.pointer (some ⟨b, 0, none⟩), .func (.func 46) #[] #[]] w fun e w' => e = .returned (.string (s.extract k (k + twN tokenN (s.data.toList.drop k)))) ∧
      Cur w' b s (k + twN tokenN (s.data.toList.drop k)) ∧ Only b w w' := by
  have hle := tw_le tokenN s k hk
  have HK := Lib.hid (rfl : k + twN tokenN (s.data.toList.drop k) = k + twN tokenN (s.data.toList.drop k))
  generalize hK : k + twN tokenN (s.data.toList.drop k) = K at *
  have c1 := hc.c1
  go_enter Tryz.func45, Tryz.ntmps45
  go_wp2_with fail
  go_loopg [] (s.size - k) (fun gf wr => ∃ j : Nat, k ≤ j ∧ j ≤ s.size ∧ s.size ≤ j + gf ∧ Cur wr b s j ∧ j + twN tokenN (s.data.toList.drop j) = K ∧ Only b w wr)
  case atStart => exact ⟨k, Nat.le_refl _, hk, by omega, hc, hK, Only.refl _ _⟩
  case round =>
    obtain ⟨j, hkj, hj, hg, hcj, hJ, hO⟩ := hrel
    have HC := Lib.hid hcj
    have HJ := Lib.hid hJ
    clear c1 hc hJ
    have c0 := hcj.c0
    have c1 := hcj.c1
    have f1 := hcj.f1
    clear hcj
    by_cases hlt : j < s.size
    · have hd : decide (s.size ≤ j) = false := by simp; omega
      have HD := fun n => cDone_c b s j _ (HC.out.drewN n)
      rw [hd] at HD
      have HD := Lib.hid HD
      have hb := byte_lt s[j]
      by_cases hp : tokenN s[j].toNat = true
      · have HP := fun n => isToken_c (s[j].toNat : Int) (by omega) (by omega) (wr.drewN n)
        rw [show ((s[j].toNat : Int)).toNat = s[j].toNat from by simp, hp] at HP
        have HP := Lib.hid HP
        go_wp2_with fail
        go_quiet (first | (go_at_call 31; exact q_done (HD.out _)) | (go_at_call 46; exact q_same (HP.out _)))
        go_wp2_with fail
        go_roundg (gk - 1)
        case measure => omega
        case rel => exact ⟨j + 1, by omega, by omega, by omega, (HC.out.drewN _).set (j + 1), by have := HJ.out; rw [tw_hit hlt hp] at this; omega, (hO.drewN _).trans (Only.set _)⟩
      · have hp' : tokenN s[j].toNat = false := by simpa using hp
        have HP := fun n => isToken_c (s[j].toNat : Int) (by omega) (by omega) (wr.drewN n)
        rw [show ((s[j].toNat : Int)).toNat = s[j].toNat from by simp, hp'] at HP
        have HP := Lib.hid HP
        have e : j = K := by have := HJ.out; rw [tw_miss hlt hp'] at this; omega
        subst e
        clear hp
        go_wp2_with fail
        go_quiet (first | (go_at_call 31; exact q_done (HD.out _)) | (go_at_call 46; exact q_same (HP.out _)))
        go_wp2_with fail
        go_quiet (fail)
        go_wp2_with fail
        go_ret
        exact ⟨rfl, HC.out, (hO.drewN _).drewN _⟩
    · have hd : decide (s.size ≤ j) = true := by simp; omega
      have HD := fun n => cDone_c b s j _ (HC.out.drewN n)
      rw [hd] at HD
      have HD := Lib.hid HD
      have e : j = K := by have := HJ.out; rw [tw_end hlt] at this; omega
      subst e
      go_wp2_with fail
      go_quiet ((go_at_call 31; exact q_done (HD.out _)))
      go_wp2_with fail
      go_quiet (fail)
      go_wp2_with fail
      go_ret
      exact ⟨rfl, HC.out, (hO.drewN _).drewN _⟩

def blankL (l : List UInt8) : List UInt8 := l.dropWhile fun x => blankN x.toNat
def tokL (l : List UInt8) : List UInt8 := l.takeWhile fun x => tokenN x.toNat
def tokR (l : List UInt8) : List UInt8 := l.dropWhile fun x => tokenN x.toNat
set_option maxHeartbeats 400000 in
theorem cBlank_c (b : Nat) (s : ByteArray) (k : Nat) (hk : k ≤ s.size) (hs : s.size ≤ 1000000) (w : World) (hc : Cur w b s k) :
    Calls Tryz.prog 29 #[.pointer (some ⟨b, 0, none⟩)] w fun e w' => e = .returned (.tuple #[]) ∧
      (∃ k', k ≤ k' ∧ k' ≤ s.size ∧ s.data.toList.drop k' = blankL (s.data.toList.drop k) ∧ Cur w' b s k') ∧ Only b w w' := by
  have HC := Lib.hid hc
  clear hc
  go_enter Tryz.func29, Tryz.ntmps29
  go_wp2_with fail
  refine (whileBlank_c b s k hk hs _ HC.out).mono ?_
  rintro e w1 ⟨rfl, h1, h2⟩
  go_wp2_with fail
  go_end0
  exact ⟨rfl, ⟨_, by omega, tw_le _ _ _ hk, tw_dropS _ _ _, h1⟩, h2⟩
theorem ext_ne {s : ByteArray} {a b : Nat} {l : List UInt8} (h : s.extract a b = S l) : (!(s.extract a b).toList.isEmpty) = !l.isEmpty := by
  rw [h, S_toList]
set_option maxHeartbeats 400000 in
theorem cToken_c (b : Nat) (s : ByteArray) (k : Nat) (hk : k ≤ s.size) (hs : s.size ≤ 1000000) (w : World) (hc : Cur w b s k) :
    Calls Tryz.prog 27 #[.pointer (some ⟨b, 0, none⟩)] w fun e w' => e = .returned (.tuple #[.string (S (tokL (s.data.toList.drop k))), .bool (!(tokL (s.data.toList.drop k)).isEmpty)]) ∧
      (∃ k', k ≤ k' ∧ k' ≤ s.size ∧ s.data.toList.drop k' = tokR (s.data.toList.drop k) ∧ Cur w' b s k') ∧ Only b w w' := by
  have HC := Lib.hid hc
  clear hc
  have HE := Lib.hid (ext_tw tokenN s k)
  have HN := Lib.hid (ext_ne (ext_tw tokenN s k))
  have HL := Lib.hid (tw_le tokenN s k hk)
  have HD := Lib.hid (tw_dropS tokenN s k)
  have HW := Lib.hid (whileToken_c b s k hk hs w HC.out)
  have HKk := Lib.hid (show k ≤ k + twN tokenN (s.data.toList.drop k) from Nat.le_add_right _ _)
  generalize k + twN tokenN (s.data.toList.drop k) = K at *
  go_enter Tryz.func27, Tryz.ntmps27
  go_wp2_with fail
  refine HW.out.mono ?_
  rintro e w1 ⟨rfl, h1, h2⟩
  go_wp2_with fail
  go_ret2
  exact ⟨ret_w (show _ = Value.tuple #[.string (s.extract k K), .bool (!(s.extract k K).toList.isEmpty)] from by rw [HN.out, HE.out]; rfl), ⟨K, HKk.out, HL.out, HD.out, h1⟩, h2⟩
end Go.Proofs.YtaopehogpdgkgaaGreat
