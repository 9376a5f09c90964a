/- Contracts of the functions on one byte (program and reference): each returns its class, given as a plain function on numbers below 256, and leaves the world as it is. -/
import Derived.Test.YtgkcjpidekefoaaRows
import Derived.WalkKit
import Derived.WalkSpells
import Derived.WalkLawsBesides
import Derived.Lib.Bytealg
import Derived.Lib.Hide
import Derived.Test.YtgkcjpidekefoaaPlain
namespace Go.Proofs.Ytgkcjpidekefoaa
open Go.RowKit

theorem byte_cases {c : Int} (h0 : 0 ≤ c) (h1 : c ≤ 255) : ∃ n : Fin 256, c = (n.val : Int) :=
  ⟨⟨c.toNat, by omega⟩, by simp; omega⟩
theorem ret_b {a b : Bool} (h : a = b) : Ending.returned (.bool a) = .returned (.bool b) := by rw [h]
theorem ret_i {k : IntKind} {a b : Int} (h : a = b) : Ending.returned (.int k a) = .returned (.int k b) := by rw [h]

theorem x74 (s : ByteArray) (c : Int) (w : World) : (callFunc 74 #[.string s, .int .u8 c]).run Try.prog w = .ok (.value (.int .i64 (Lib.indexByte s.data.toList c.toNat.toUInt8))) w := by
  rw [run_callFunc_extern (P := Try.prog) (f := 74) (fn := Try.f74) (e := Extern.BytealgIndexByte.indexByte) (by kernel_rfl) (by kernel_rfl) (by kernel_rfl) (by kernel_rfl) (by kernel_rfl), Lib.run_indexByteString]
  rfl

set_option maxHeartbeats 400000 in
theorem among_c (c : Int) (h0 : 0 ≤ c) (h1 : c ≤ 255) (s : ByteArray) (w : World) :
    Calls Try.prog 58 #[.int .u8 c, .string s] w fun e w' => e = .returned (.bool (memB s.data.toList c.toNat)) ∧ w = w' := by
  have hx := x74
  go_enter Try.func58, Try.ntmps58
  go_wp2
  go_ret
  exact ⟨ret_b (memB_indexByte _ _ (by omega)), rfl⟩


set_option maxHeartbeats 400000 in
theorem isAlpha_c (c : Int) (h0 : 0 ≤ c) (h1 : c ≤ 255) (w : World) :
    Calls Try.prog 15 #[.int .u8 c] w fun e w' => e = .returned (.bool (alphaN c.toNat)) ∧ w = w' := by
  obtain ⟨n, rfl⟩ := byte_cases h0 h1
  go_enter Try.func15, Try.ntmps15
  go_wp2
  all_goals
    go_ret
    refine ⟨ret_b ?_, rfl⟩
    clear h0 h1
    clear w
    revert n
    decide +kernel


set_option maxHeartbeats 400000 in
theorem rIsAlpha_c (c : Int) (h0 : 0 ≤ c) (h1 : c ≤ 255) (w : World) :
    Calls Try.prog 16 #[.int .u8 c] w fun e w' => e = .returned (.bool (alphaN c.toNat)) ∧ w = w' := by
  obtain ⟨n, rfl⟩ := byte_cases h0 h1
  go_enter Try.func16, Try.ntmps16
  go_wp2
  all_goals
    go_ret
    refine ⟨ret_b ?_, rfl⟩
    clear h0 h1
    clear w
    revert n
    decide +kernel


set_option maxHeartbeats 400000 in
theorem isDigit_c (c : Int) (h0 : 0 ≤ c) (h1 : c ≤ 255) (w : World) :
    Calls Try.prog 17 #[.int .u8 c] w fun e w' => e = .returned (.bool (digitN c.toNat)) ∧ w = w' := by
  obtain ⟨n, rfl⟩ := byte_cases h0 h1
  go_enter Try.func17, Try.ntmps17
  go_wp2
  all_goals
    go_ret
    refine ⟨ret_b ?_, rfl⟩
    clear h0 h1
    clear w
    revert n
    decide +kernel


set_option maxHeartbeats 400000 in
theorem rIsDigit_c (c : Int) (h0 : 0 ≤ c) (h1 : c ≤ 255) (w : World) :
    Calls Try.prog 18 #[.int .u8 c] w fun e w' => e = .returned (.bool (digitN c.toNat)) ∧ w = w' := by
  obtain ⟨n, rfl⟩ := byte_cases h0 h1
  go_enter Try.func18, Try.ntmps18
  go_wp2
  all_goals
    go_ret
    refine ⟨ret_b ?_, rfl⟩
    clear h0 h1
    clear w
    revert n
    decide +kernel


set_option maxHeartbeats 400000 in
theorem blank_c (c : Int) (h0 : 0 ≤ c) (h1 : c ≤ 255) (w : World) :
    Calls Try.prog 60 #[.int .u8 c] w fun e w' => e = .returned (.bool (blankN c.toNat)) ∧ w = w' := by
  obtain ⟨n, rfl⟩ := byte_cases h0 h1
  go_enter Try.func60, Try.ntmps60
  go_wp2
  all_goals
    go_ret
    refine ⟨ret_b ?_, rfl⟩
    clear h0 h1
    clear w
    revert n
    decide +kernel


set_option maxHeartbeats 400000 in
theorem rBlank_c (c : Int) (h0 : 0 ≤ c) (h1 : c ≤ 255) (w : World) :
    Calls Try.prog 61 #[.int .u8 c] w fun e w' => e = .returned (.bool (blankN c.toNat)) ∧ w = w' := by
  obtain ⟨n, rfl⟩ := byte_cases h0 h1
  go_enter Try.func61, Try.ntmps61
  go_wp2
  all_goals
    go_ret
    refine ⟨ret_b ?_, rfl⟩
    clear h0 h1
    clear w
    revert n
    decide +kernel


set_option maxHeartbeats 400000 in
theorem isHex_c (c : Int) (h0 : 0 ≤ c) (h1 : c ≤ 255) (w : World) :
    Calls Try.prog 19 #[.int .u8 c] w fun e w' => e = .returned (.bool (hexN c.toNat)) ∧ w = w' := by
  obtain ⟨n, rfl⟩ := byte_cases h0 h1
  go_enter Try.func19, Try.ntmps19
  go_wp2_with (first | (go_at_call 17; refine (isDigit_c _ (by omega) (by omega) _).mono ?_; rintro e w' ⟨rfl, rfl⟩))
  all_goals
    go_ret
    refine ⟨ret_b ?_, rfl⟩
    clear h0 h1
    clear w
    revert n
    decide +kernel


set_option maxHeartbeats 400000 in
theorem rIsHex_c (c : Int) (h0 : 0 ≤ c) (h1 : c ≤ 255) (w : World) :
    Calls Try.prog 20 #[.int .u8 c] w fun e w' => e = .returned (.bool (hexN c.toNat)) ∧ w = w' := by
  obtain ⟨n, rfl⟩ := byte_cases h0 h1
  go_enter Try.func20, Try.ntmps20
  go_wp2_with (first | (go_at_call 18; refine (rIsDigit_c _ (by omega) (by omega) _).mono ?_; rintro e w' ⟨rfl, rfl⟩))
  all_goals
    go_ret
    refine ⟨ret_b ?_, rfl⟩
    clear h0 h1
    clear w
    revert n
    decide +kernel


set_option maxHeartbeats 400000 in
theorem alnum_c (c : Int) (h0 : 0 ≤ c) (h1 : c ≤ 255) (w : World) :
    Calls Try.prog 57 #[.int .u8 c] w fun e w' => e = .returned (.bool (alnumN c.toNat)) ∧ w = w' := by
  obtain ⟨n, rfl⟩ := byte_cases h0 h1
  go_enter Try.func57, Try.ntmps57
  go_wp2_with (first | (go_at_call 15; refine (isAlpha_c _ (by omega) (by omega) _).mono ?_; rintro e w' ⟨rfl, rfl⟩) | (go_at_call 17; refine (isDigit_c _ (by omega) (by omega) _).mono ?_; rintro e w' ⟨rfl, rfl⟩))
  all_goals
    go_ret
    refine ⟨ret_b ?_, rfl⟩
    clear h0 h1
    clear w
    revert n
    decide +kernel


set_option maxHeartbeats 400000 in
theorem isUnreserved_c (c : Int) (h0 : 0 ≤ c) (h1 : c ≤ 255) (w : World) :
    Calls Try.prog 21 #[.int .u8 c] w fun e w' => e = .returned (.bool (unresN c.toNat)) ∧ w = w' := by
  obtain ⟨n, rfl⟩ := byte_cases h0 h1
  go_enter Try.func21, Try.ntmps21
  go_wp2_with (first | (go_at_call 57; refine (alnum_c _ (by omega) (by omega) _).mono ?_; rintro e w' ⟨rfl, rfl⟩) | (go_at_call 58; refine (among_c _ (by omega) (by omega) _ _).mono ?_; rintro e w' ⟨rfl, rfl⟩))
  all_goals
    go_ret
    refine ⟨ret_b ?_, rfl⟩
    clear h0 h1
    clear w
    revert n
    decide +kernel


set_option maxHeartbeats 400000 in
theorem isSubDelim_c (c : Int) (h0 : 0 ≤ c) (h1 : c ≤ 255) (w : World) :
    Calls Try.prog 23 #[.int .u8 c] w fun e w' => e = .returned (.bool (subN c.toNat)) ∧ w = w' := by
  obtain ⟨n, rfl⟩ := byte_cases h0 h1
  go_enter Try.func23, Try.ntmps23
  go_wp2_with (first | (go_at_call 58; refine (among_c _ (by omega) (by omega) _ _).mono ?_; rintro e w' ⟨rfl, rfl⟩))
  all_goals
    go_ret
    refine ⟨ret_b ?_, rfl⟩
    clear h0 h1
    clear w
    revert n
    decide +kernel


set_option maxHeartbeats 400000 in
theorem isPchar_c (c : Int) (h0 : 0 ≤ c) (h1 : c ≤ 255) (w : World) :
    Calls Try.prog 25 #[.int .u8 c] w fun e w' => e = .returned (.bool (pcharN c.toNat)) ∧ w = w' := by
  obtain ⟨n, rfl⟩ := byte_cases h0 h1
  go_enter Try.func25, Try.ntmps25
  go_wp2_with (first | (go_at_call 21; refine (isUnreserved_c _ (by omega) (by omega) _).mono ?_; rintro e w' ⟨rfl, rfl⟩) | (go_at_call 23; refine (isSubDelim_c _ (by omega) (by omega) _).mono ?_; rintro e w' ⟨rfl, rfl⟩) | (go_at_call 58; refine (among_c _ (by omega) (by omega) _ _).mono ?_; rintro e w' ⟨rfl, rfl⟩))
  all_goals
    go_ret
    refine ⟨ret_b ?_, rfl⟩
    clear h0 h1
    clear w
    revert n
    decide +kernel


set_option maxHeartbeats 400000 in
theorem isToken_c (c : Int) (h0 : 0 ≤ c) (h1 : c ≤ 255) (w : World) :
    Calls Try.prog 27 #[.int .u8 c] w fun e w' => e = .returned (.bool (tokenN c.toNat)) ∧ w = w' := by
  obtain ⟨n, rfl⟩ := byte_cases h0 h1
  go_enter Try.func27, Try.ntmps27
  go_wp2_with (first | (go_at_call 57; refine (alnum_c _ (by omega) (by omega) _).mono ?_; rintro e w' ⟨rfl, rfl⟩) | (go_at_call 58; refine (among_c _ (by omega) (by omega) _ _).mono ?_; rintro e w' ⟨rfl, rfl⟩))
  all_goals
    go_ret
    refine ⟨ret_b ?_, rfl⟩
    clear h0 h1
    clear w
    revert n
    decide +kernel


set_option maxHeartbeats 400000 in
theorem rIn_c (c : Int) (h0 : 0 ≤ c) (h1 : c ≤ 255) (s : ByteArray) (hs : s.size ≤ 9223372036854775807) (w : World) :
    Calls Try.prog 59 #[.int .u8 c, .string s] w fun e w' => e = .returned (.bool (memB s.data.toList c.toNat)) ∧ w = w' := by
  obtain ⟨n, rfl⟩ : ∃ n : Nat, c = n := ⟨c.toNat, by omega⟩
  go_enter Try.func59, Try.ntmps59
  go_wp2
  go_loop [5] (fun i => ∃ k : Nat, k ≤ s.size ∧ i = .int .i64 k ∧ memB (s.data.toList.drop k) n = memB s.data.toList n) (fun i => s.size - (intOf i).toNat)
  case atStart => exact ⟨0, Nat.zero_le _, rfl, rfl⟩
  case round =>
    obtain ⟨k, hk, rfl, hn⟩ := hrel
    have HN := Lib.hid hn
    clear hn
    by_cases hlt : k < s.size
    · go_wp2
      · go_ret
        exact ⟨ret_b (mem_hit hlt HN.out ‹_›), rfl⟩
      · go_round
        case rel => exact ⟨k + 1, by omega, by go_num, mem_miss hlt HN.out ‹_›⟩
        case measure => simp [intOf]; omega
    · go_wp2
      go_ret
      exact ⟨ret_b (mem_end hlt HN.out), rfl⟩


set_option maxHeartbeats 400000 in
theorem rIsUnreserved_c (c : Int) (h0 : 0 ≤ c) (h1 : c ≤ 255) (w : World) :
    Calls Try.prog 22 #[.int .u8 c] w fun e w' => e = .returned (.bool (unresN c.toNat)) ∧ w = w' := by
  obtain ⟨n, rfl⟩ := byte_cases h0 h1
  go_enter Try.func22, Try.ntmps22
  go_wp2_with (first | (go_at_call 16; refine (rIsAlpha_c _ (by omega) (by omega) _).mono ?_; rintro e w' ⟨rfl, rfl⟩) | (go_at_call 18; refine (rIsDigit_c _ (by omega) (by omega) _).mono ?_; rintro e w' ⟨rfl, rfl⟩) | (go_at_call 59; refine (rIn_c _ (by omega) (by omega) _ (by decide) _).mono ?_; rintro e w' ⟨rfl, rfl⟩))
  all_goals
    go_ret
    refine ⟨ret_b ?_, rfl⟩
    clear h0 h1
    clear w
    revert n
    decide +kernel


set_option maxHeartbeats 400000 in
theorem rIsSubDelim_c (c : Int) (h0 : 0 ≤ c) (h1 : c ≤ 255) (w : World) :
    Calls Try.prog 24 #[.int .u8 c] w fun e w' => e = .returned (.bool (subN c.toNat)) ∧ w = w' := by
  obtain ⟨n, rfl⟩ := byte_cases h0 h1
  go_enter Try.func24, Try.ntmps24
  go_wp2_with (first | (go_at_call 59; refine (rIn_c _ (by omega) (by omega) _ (by decide) _).mono ?_; rintro e w' ⟨rfl, rfl⟩))
  all_goals
    go_ret
    refine ⟨ret_b ?_, rfl⟩
    clear h0 h1
    clear w
    revert n
    decide +kernel


set_option maxHeartbeats 400000 in
theorem rIsPchar_c (c : Int) (h0 : 0 ≤ c) (h1 : c ≤ 255) (w : World) :
    Calls Try.prog 26 #[.int .u8 c] w fun e w' => e = .returned (.bool (pcharN c.toNat)) ∧ w = w' := by
  obtain ⟨n, rfl⟩ := byte_cases h0 h1
  go_enter Try.func26, Try.ntmps26
  go_wp2_with (first | (go_at_call 22; refine (rIsUnreserved_c _ (by omega) (by omega) _).mono ?_; rintro e w' ⟨rfl, rfl⟩) | (go_at_call 24; refine (rIsSubDelim_c _ (by omega) (by omega) _).mono ?_; rintro e w' ⟨rfl, rfl⟩) | (go_at_call 59; refine (rIn_c _ (by omega) (by omega) _ (by decide) _).mono ?_; rintro e w' ⟨rfl, rfl⟩))
  all_goals
    go_ret
    refine ⟨ret_b ?_, rfl⟩
    clear h0 h1
    clear w
    revert n
    decide +kernel


set_option maxHeartbeats 400000 in
theorem rIsToken_c (c : Int) (h0 : 0 ≤ c) (h1 : c ≤ 255) (w : World) :
    Calls Try.prog 28 #[.int .u8 c] w fun e w' => e = .returned (.bool (tokenN c.toNat)) ∧ w = w' := by
  obtain ⟨n, rfl⟩ := byte_cases h0 h1
  go_enter Try.func28, Try.ntmps28
  go_wp2_with (first | (go_at_call 16; refine (rIsAlpha_c _ (by omega) (by omega) _).mono ?_; rintro e w' ⟨rfl, rfl⟩) | (go_at_call 18; refine (rIsDigit_c _ (by omega) (by omega) _).mono ?_; rintro e w' ⟨rfl, rfl⟩) | (go_at_call 59; refine (rIn_c _ (by omega) (by omega) _ (by decide) _).mono ?_; rintro e w' ⟨rfl, rfl⟩))
  all_goals
    go_ret
    refine ⟨ret_b ?_, rfl⟩
    clear h0 h1
    clear w
    revert n
    decide +kernel

end Go.Proofs.Ytgkcjpidekefoaa
