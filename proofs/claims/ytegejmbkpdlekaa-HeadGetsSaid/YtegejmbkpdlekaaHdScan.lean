/- The head's byte scans: value, name, printables, Tokens, Index (chapter 18). -/
import Derived.Test.YtegejmbkpdlekaaShelfHead
import Derived.Test.YtegejmbkpdlekaaQuo
import Derived.Test.YtegejmbkpdlekaaCurWhile
namespace Go.Proofs.Ytegejmbkpdlekaa
open Go.RowKit

def valueB (l : List UInt8) : Bool := allB inVN l
def nameB (l : List UInt8) : Bool := allB tokenN l && !l.isEmpty

theorem name_miss {l : List UInt8} (h : false = allB tokenN l) : false = nameB l := by unfold nameB; rw [← h]; rfl
theorem name_all {s : ByteArray} (h : true = allB tokenN s.data.toList) : (!s.toList.isEmpty) = nameB s.data.toList := by unfold nameB; rw [← h, ByteArray.toList_eq]; rfl
theorem inV_eq (b : UInt8) : inVN b.toNat = !(((b.toNat : Int) < 32 && (b.toNat : Int) != 9) || (b.toNat : Int) == 127) := by
  generalize b.toNat = n
  rw [Bool.eq_iff_iff]; simp [inVN]; omega

set_option maxHeartbeats 1000000 in
theorem hName_c (s : ByteArray) (hs : s.size ≤ 1000000) (w : World) :
    Calls Try.prog 52 #[.string s] w fun e w' => e = .returned (.bool (nameB s.data.toList)) ∧ w = w' := by
  go_enter Try.func52, Try.ntmps52
  go_wp2_with fail
  go_loop [6] (fun i => ∃ k : Nat, k ≤ s.size ∧ i = .int .i64 k ∧ allB tokenN (s.data.toList.drop k) = allB tokenN s.data.toList) (fun i => s.size - (intOf i).toNat)
  case atStart => exact ⟨0, Nat.zero_le _, rfl, rfl⟩
  case round =>
    obtain ⟨k, hk, rfl, hn⟩ := hrel
    have HN := Lib.hid hn
    clear hn
    by_cases hlt : k < s.size
    · have hb := byte_lt s[k]
      by_cases hd : tokenN s[k].toNat = true
      · have HD := Lib.hid hd
        go_wp2_with (go_at_call 70; refine (isToken_c _ (by omega) (by omega) _).mono ?_; rintro e w' ⟨rfl, rfl⟩)
        go_round
        case rel => exact ⟨k + 1, by omega, by go_num, all_hit hlt HN.out HD.out⟩
        case measure => simp [intOf]; omega
      · have hd' : tokenN s[k].toNat = false := by simpa using hd
        clear hd
        have HD := Lib.hid hd'
        go_wp2_with (go_at_call 70; refine (isToken_c _ (by omega) (by omega) _).mono ?_; rintro e w' ⟨rfl, rfl⟩)
        go_ret
        exact ⟨ret_b (name_miss (all_miss hlt HN.out HD.out)), rfl⟩
    · go_wp2_with fail
      go_ret
      exact ⟨ret_b (name_all (all_end hlt HN.out)), rfl⟩

set_option maxHeartbeats 1000000 in
theorem rTokens_c (s : ByteArray) (hs : s.size ≤ 1000000) (w : World) :
    Calls Try.prog 58 #[.string s] w fun e w' => e = .returned (.bool (nameB s.data.toList)) ∧ w = w' := by
  go_enter Try.func58, Try.ntmps58
  go_wp2_with fail
  go_loop [3] (fun i => ∃ k : Nat, k ≤ s.size ∧ i = .int .i64 k ∧ allB tokenN (s.data.toList.drop k) = allB tokenN s.data.toList) (fun i => s.size - (intOf i).toNat)
  case atStart => exact ⟨0, Nat.zero_le _, rfl, rfl⟩
  case round =>
    obtain ⟨k, hk, rfl, hn⟩ := hrel
    have HN := Lib.hid hn
    clear hn
    by_cases hlt : k < s.size
    · have hb := byte_lt s[k]
      by_cases hd : tokenN s[k].toNat = true
      · have HD := Lib.hid hd
        go_wp2_with (go_at_call 73; refine (rIsToken_c _ (by omega) (by omega) _).mono ?_; rintro e w' ⟨rfl, rfl⟩)
        go_round
        case rel => exact ⟨k + 1, by omega, by go_num, all_hit hlt HN.out HD.out⟩
        case measure => simp [intOf]; omega
      · have hd' : tokenN s[k].toNat = false := by simpa using hd
        clear hd
        have HD := Lib.hid hd'
        go_wp2_with (go_at_call 73; refine (rIsToken_c _ (by omega) (by omega) _).mono ?_; rintro e w' ⟨rfl, rfl⟩)
        go_ret
        exact ⟨ret_b (name_miss (all_miss hlt HN.out HD.out)), rfl⟩
    · go_wp2_with fail
      go_ret
      exact ⟨ret_b (name_all (all_end hlt HN.out)), rfl⟩

set_option maxHeartbeats 1000000 in
theorem rPrintables_c (s : ByteArray) (hs : s.size ≤ 1000000) (w : World) :
    Calls Try.prog 59 #[.string s] w fun e w' => e = .returned (.bool (valueB s.data.toList)) ∧ w = w' := by
  go_enter Try.func59, Try.ntmps59
  go_wp2_with fail
  go_loop [3] (fun i => ∃ k : Nat, k ≤ s.size ∧ i = .int .i64 k ∧ allB inVN (s.data.toList.drop k) = allB inVN s.data.toList) (fun i => s.size - (intOf i).toNat)
  case atStart => exact ⟨0, Nat.zero_le _, rfl, rfl⟩
  case round =>
    obtain ⟨k, hk, rfl, hn⟩ := hrel
    have HN := Lib.hid hn
    clear hn
    by_cases hlt : k < s.size
    · have hb := byte_lt s[k]
      by_cases hd : inVN s[k].toNat = true
      · have HD := Lib.hid hd
        go_wp2_with (go_at_call 84; refine (rPrintable_c _ (by omega) (by omega) _).mono ?_; rintro e w' ⟨rfl, rfl⟩)
        go_round
        case rel => exact ⟨k + 1, by omega, by go_num, all_hit hlt HN.out HD.out⟩
        case measure => simp [intOf]; omega
      · have hd' : inVN s[k].toNat = false := by simpa using hd
        clear hd
        have HD := Lib.hid hd'
        go_wp2_with (go_at_call 84; refine (rPrintable_c _ (by omega) (by omega) _).mono ?_; rintro e w' ⟨rfl, rfl⟩)
        go_ret
        exact ⟨ret_b (all_miss hlt HN.out HD.out), rfl⟩
    · go_wp2_with fail
      go_ret
      exact ⟨ret_b (all_end hlt HN.out), rfl⟩

set_option maxHeartbeats 2000000 in
theorem hValue_c (s : ByteArray) (hs : s.size ≤ 1000000) (w : World) :
    Calls Try.prog 53 #[.string s] w fun e w' => e = .returned (.bool (valueB s.data.toList)) ∧ w = w' := by
  go_enter Try.func53, Try.ntmps53
  go_wp2_with fail
  go_loop [7] (fun i => ∃ k : Nat, k ≤ s.size ∧ i = .int .i64 k ∧ allB inVN (s.data.toList.drop k) = allB inVN s.data.toList) (fun i => s.size - (intOf i).toNat)
  case atStart => exact ⟨0, Nat.zero_le _, rfl, rfl⟩
  case round =>
    obtain ⟨k, hk, rfl, hn⟩ := hrel
    have HN := Lib.hid hn
    clear hn
    by_cases hlt : k < s.size
    · have hb := byte_lt s[k]
      have hd := inV_eq s[k]
      by_cases h1 : (s[k].toNat : Int) < 32
      · by_cases h2 : ((s[k].toNat : Int) == 9) = true
        · have h3 : ((s[k].toNat : Int) == 127) = false := by simp at h2 ⊢; omega
          have HD := Lib.hid (hd.trans (by simp only [bne, h1, h2, h3]; rfl) : inVN s[k].toNat = true)
          have h2' : (s[k].toNat : Int) = 9 := by simpa using h2
          clear hd h2
          go_wp2_with fail
          go_round
          case rel => exact ⟨k + 1, by omega, by go_num, all_hit hlt HN.out HD.out⟩
          case measure => simp [intOf]; omega
        · have h2' : ((s[k].toNat : Int) == 9) = false := by simpa using h2
          have h3 : ((s[k].toNat : Int) == 127) = false := by simp; omega
          have HD := Lib.hid (hd.trans (by simp only [bne, h1, h2', h3]; rfl) : inVN s[k].toNat = false)
          clear hd
          have h2n : ¬ (s[k].toNat : Int) = 9 := by simpa using h2
          go_wp2_with fail
          go_ret
          exact ⟨ret_b (all_miss hlt HN.out HD.out), rfl⟩
      · by_cases h2 : ((s[k].toNat : Int) == 127) = true
        · have HD := Lib.hid (hd.trans (by simp only [h1, h2]; simp) : inVN s[k].toNat = false)
          clear hd
          go_wp2_with fail
          go_ret
          exact ⟨ret_b (all_miss hlt HN.out HD.out), rfl⟩
        · have h2' : ((s[k].toNat : Int) == 127) = false := by simpa using h2
          have HD := Lib.hid (hd.trans (by simp only [h1, h2']; simp) : inVN s[k].toNat = true)
          clear hd h2
          go_wp2_with fail
          go_round
          case rel => exact ⟨k + 1, by omega, by go_num, all_hit hlt HN.out HD.out⟩
          case measure => simp [intOf]; omega
    · go_wp2_with fail
      go_ret
      exact ⟨ret_b (all_end hlt HN.out), rfl⟩

/-- the place of the first colon, or the length -/
def notColon (n : Nat) : Bool := !(n == 58)
theorem mem58 (b : UInt8) : memB [58] ((b.toNat : Int)).toNat = !notColon b.toNat := by
  rw [Int.toNat_natCast]; rw [Bool.eq_iff_iff]; simp [memB, notColon]; exact eq_comm
theorem tw_stop {p : Nat → Bool} {s : ByteArray} {k n : Nat} (hk : k < s.size) (h : p s[k].toNat = false) (H : k + twN p (s.data.toList.drop k) = n) : (k : Int) = n := by rw [tw_miss hk h] at H; omega
theorem tw_fin {p : Nat → Bool} {s : ByteArray} {k n : Nat} (h0 : k ≤ s.size) (hk : ¬ k < s.size) (H : k + twN p (s.data.toList.drop k) = n) : (s.size : Int) = n := by rw [tw_end hk] at H; omega
theorem tw_next {p : Nat → Bool} {s : ByteArray} {k n : Nat} (hk : k < s.size) (h : p s[k].toNat = true) (H : k + twN p (s.data.toList.drop k) = n) : (k + 1) + twN p (s.data.toList.drop (k + 1)) = n := by rw [tw_hit hk h] at H; omega

set_option maxHeartbeats 1000000 in
theorem rIndex_c (s : ByteArray) (hs : s.size ≤ 1000000) (w : World) :
    Calls Try.prog 57 #[.string s, .string ⟨#[58]⟩] w fun e w' => e = .returned (.int .i64 (twN notColon s.data.toList : Nat)) ∧ w = w' := by
  go_enter Try.func57, Try.ntmps57
  go_wp2_with fail
  go_loop [5] (fun i => ∃ k : Nat, k ≤ s.size ∧ i = .int .i64 k ∧ k + twN notColon (s.data.toList.drop k) = twN notColon s.data.toList) (fun i => s.size - (intOf i).toNat)
  case atStart => exact ⟨0, Nat.zero_le _, rfl, by rw [List.drop_zero]; omega⟩
  case round =>
    obtain ⟨k, hk, rfl, hn⟩ := hrel
    have HN := Lib.hid hn
    clear hn
    by_cases hlt : k < s.size
    · have hb := byte_lt s[k]
      have HP := fun w => rIn_c (s[k].toNat : Int) (by omega) (by omega) (⟨#[58]⟩ : ByteArray) (by decide) w
      rw [show (⟨#[58]⟩ : ByteArray).data.toList = [58] from rfl, mem58] at HP
      by_cases hd : notColon s[k].toNat = true
      · rw [hd] at HP
        have HD := Lib.hid hd
        have HP := Lib.hid HP
        clear hd
        go_wp2_with (go_at_call 83; refine (HP.out _).mono ?_; rintro e w' ⟨rfl, rfl⟩)
        go_round
        case rel => exact ⟨k + 1, by omega, by go_num, tw_next hlt HD.out HN.out⟩
        case measure => simp [intOf]; omega
      · have hd' : notColon s[k].toNat = false := by simpa using hd
        rw [hd'] at HP
        have HD := Lib.hid hd'
        have HP := Lib.hid HP
        clear hd hd'
        go_wp2_with (go_at_call 83; refine (HP.out _).mono ?_; rintro e w' ⟨rfl, rfl⟩)
        go_ret
        exact ⟨ret_i (tw_stop hlt HD.out HN.out), rfl⟩
    · go_wp2_with fail
      go_ret
      exact ⟨ret_i (tw_fin hk hlt HN.out), rfl⟩
end Go.Proofs.Ytegejmbkpdlekaa
