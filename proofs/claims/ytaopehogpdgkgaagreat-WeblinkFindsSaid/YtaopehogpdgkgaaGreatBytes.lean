/- Contracts of the functions on one byte (program and reference): each returns its class, given as a plain function on numbers below 256, and leaves the world as it is. -/
import Derived.Test.YtaopehogpdgkgaaGreatRows
import Derived.WalkKit
import Derived.WalkSpells
import Derived.WalkLawsBesides
import Derived.Lib.Bytealg
import Derived.Lib.Hide
import Derived.Test.YtaopehogpdgkgaaGreatPlain
namespace Go.Proofs.YtaopehogpdgkgaaGreat
open Go.RowKit

theorem byte_cases {c : Int} (h0 : 0 ≤ c) (h1 : c ≤ 255) : ∃ n : Fin 256, c = (n.val : Int) :=
  ⟨⟨c.toNat, by omega⟩, by simp; omega⟩
theorem ret_b {a b : Bool} (h : a = b) : Ending.returned (.bool a) = .returned (.bool b) := by rw [h]
theorem ret_i {k : IntKind} {a b : Int} (h : a = b) : Ending.returned (.int k a) = .returned (.int k b) := by rw [h]

theorem x74 (s : ByteArray) (c : Int) (w : World) : (callFunc 94 #[.string s, .int .u8 c]).run Tryz.prog w = .ok (.value (.int .i64 (Lib.indexByte s.data.toList c.toNat.toUInt8))) w := by
  rw [run_callFunc_extern (P := Tryz.prog) (f := 94) (fn := Tryz.f94) (e := Extern.BytealgIndexByte.indexByte) (by kernel_rfl) (by kernel_rfl) (by kernel_rfl) (by kernel_rfl) (by kernel_rfl), Lib.run_indexByteString]
  rfl

set_option maxHeartbeats 400000 in
theorem among_c (c : Int) (h0 : 0 ≤ c) (h1 : c ≤ 255) (s : ByteArray) (w : World) :
    Calls Tryz.prog 64 #[.int .u8 c, .string s] w fun e w' => e = .returned (.bool (memB s.data.toList c.toNat)) ∧ w = w' := by
  have hx := x74
  go_enter Tryz.func64, Tryz.ntmps64
  go_wp2
  go_ret
  exact ⟨ret_b (memB_indexByte _ _ (by omega)), rfl⟩


set_option maxHeartbeats 400000 in
theorem isAlpha_c (c : Int) (h0 : 0 ≤ c) (h1 : c ≤ 255) (w : World) :
    Calls Tryz.prog 75 #[.int .u8 c] w fun e w' => e = .returned (.bool (alphaN c.toNat)) ∧ w = w' := by
  obtain ⟨n, rfl⟩ := byte_cases h0 h1
  go_enter Tryz.func75, Tryz.ntmps75
  go_wp2
  all_goals
    go_ret
    refine ⟨ret_b ?_, rfl⟩
    clear h0 h1
    clear w
    revert n
    decide +kernel


set_option maxHeartbeats 400000 in
theorem rIsAlpha_c (c : Int) (h0 : 0 ≤ c) (h1 : c ≤ 255) (w : World) :
    Calls Tryz.prog 78 #[.int .u8 c] w fun e w' => e = .returned (.bool (alphaN c.toNat)) ∧ w = w' := by
  obtain ⟨n, rfl⟩ := byte_cases h0 h1
  go_enter Tryz.func78, Tryz.ntmps78
  go_wp2
  all_goals
    go_ret
    refine ⟨ret_b ?_, rfl⟩
    clear h0 h1
    clear w
    revert n
    decide +kernel


set_option maxHeartbeats 400000 in
theorem isDigit_c (c : Int) (h0 : 0 ≤ c) (h1 : c ≤ 255) (w : World) :
    Calls Tryz.prog 76 #[.int .u8 c] w fun e w' => e = .returned (.bool (digitN c.toNat)) ∧ w = w' := by
  obtain ⟨n, rfl⟩ := byte_cases h0 h1
  go_enter Tryz.func76, Tryz.ntmps76
  go_wp2
  all_goals
    go_ret
    refine ⟨ret_b ?_, rfl⟩
    clear h0 h1
    clear w
    revert n
    decide +kernel


set_option maxHeartbeats 400000 in
theorem rIsDigit_c (c : Int) (h0 : 0 ≤ c) (h1 : c ≤ 255) (w : World) :
    Calls Tryz.prog 79 #[.int .u8 c] w fun e w' => e = .returned (.bool (digitN c.toNat)) ∧ w = w' := by
  obtain ⟨n, rfl⟩ := byte_cases h0 h1
  go_enter Tryz.func79, Tryz.ntmps79
  go_wp2
  all_goals
    go_ret
    refine ⟨ret_b ?_, rfl⟩
    clear h0 h1
    clear w
    revert n
    decide +kernel


set_option maxHeartbeats 400000 in
theorem rBlank_c (c : Int) (h0 : 0 ≤ c) (h1 : c ≤ 255) (w : World) :
    Calls Tryz.prog 67 #[.int .u8 c] w fun e w' => e = .returned (.bool (blankN c.toNat)) ∧ w = w' := by
  obtain ⟨n, rfl⟩ := byte_cases h0 h1
  go_enter Tryz.func67, Tryz.ntmps67
  go_wp2
  all_goals
    go_ret
    refine ⟨ret_b ?_, rfl⟩
    clear h0 h1
    clear w
    revert n
    decide +kernel


set_option maxHeartbeats 400000 in
theorem alnum_c (c : Int) (h0 : 0 ≤ c) (h1 : c ≤ 255) (w : World) :
    Calls Tryz.prog 63 #[.int .u8 c] w fun e w' => e = .returned (.bool (alnumN c.toNat)) ∧ w = w' := by
  obtain ⟨n, rfl⟩ := byte_cases h0 h1
  go_enter Tryz.func63, Tryz.ntmps63
  go_wp2_with (first | (go_at_call 75; refine (isAlpha_c _ (by omega) (by omega) _).mono ?_; rintro e w' ⟨rfl, rfl⟩) | (go_at_call 76; refine (isDigit_c _ (by omega) (by omega) _).mono ?_; rintro e w' ⟨rfl, rfl⟩))
  all_goals
    go_ret
    refine ⟨ret_b ?_, rfl⟩
    clear h0 h1
    clear w
    revert n
    decide +kernel


set_option maxHeartbeats 400000 in
theorem isToken_c (c : Int) (h0 : 0 ≤ c) (h1 : c ≤ 255) (w : World) :
    Calls Tryz.prog 46 #[.int .u8 c] w fun e w' => e = .returned (.bool (tokenN c.toNat)) ∧ w = w' := by
  obtain ⟨n, rfl⟩ := byte_cases h0 h1
  go_enter Tryz.func46, Tryz.ntmps46
  go_wp2_with (first | (go_at_call 63; refine (alnum_c _ (by omega) (by omega) _).mono ?_; rintro e w' ⟨rfl, rfl⟩) | (go_at_call 64; refine (among_c _ (by omega) (by omega) _ _).mono ?_; rintro e w' ⟨rfl, rfl⟩))
  all_goals
    go_ret
    refine ⟨ret_b ?_, rfl⟩
    clear h0 h1
    clear w
    revert n
    decide +kernel


set_option maxHeartbeats 400000 in
theorem rIn_c (c : Int) (h0 : 0 ≤ c) (h1 : c ≤ 255) (s : ByteArray) (hs : s.size ≤ 9223372036854775807) (w : World) :
    Calls Tryz.prog 80 #[.int .u8 c, .string s] w fun e w' => e = .returned (.bool (memB s.data.toList c.toNat)) ∧ w = w' := by
  obtain ⟨n, rfl⟩ : ∃ n : Nat, c = n := ⟨c.toNat, by omega⟩
  go_enter Tryz.func80, Tryz.ntmps80
  go_wp2
  go_loop [5] (fun i => ∃ k : Nat, k ≤ s.size ∧ i = .int .i64 k ∧ memB (s.data.toList.drop k) n = memB s.data.toList n) (fun i => s.size - (intOf i).toNat)
  case atStart => exact ⟨0, Nat.zero_le _, rfl, rfl⟩
  case round =>
    obtain ⟨k, hk, rfl, hn⟩ := hrel
    have HN := Lib.hid hn
    clear hn
    by_cases hlt : k < s.size
    · go_wp2
      · go_ret
        exact ⟨ret_b (mem_hit hlt HN.out ‹_›), rfl⟩
      · go_round
        case rel => exact ⟨k + 1, by omega, by go_num, mem_miss hlt HN.out ‹_›⟩
        case measure => simp [intOf]; omega
    · go_wp2
      go_ret
      exact ⟨ret_b (mem_end hlt HN.out), rfl⟩


set_option maxHeartbeats 400000 in
theorem rIsToken_c (c : Int) (h0 : 0 ≤ c) (h1 : c ≤ 255) (w : World) :
    Calls Tryz.prog 66 #[.int .u8 c] w fun e w' => e = .returned (.bool (tokenN c.toNat)) ∧ w = w' := by
  obtain ⟨n, rfl⟩ := byte_cases h0 h1
  go_enter Tryz.func66, Tryz.ntmps66
  go_wp2_with (first | (go_at_call 78; refine (rIsAlpha_c _ (by omega) (by omega) _).mono ?_; rintro e w' ⟨rfl, rfl⟩) | (go_at_call 79; refine (rIsDigit_c _ (by omega) (by omega) _).mono ?_; rintro e w' ⟨rfl, rfl⟩) | (go_at_call 80; refine (rIn_c _ (by omega) (by omega) _ (by decide) _).mono ?_; rintro e w' ⟨rfl, rfl⟩))
  all_goals
    go_ret
    refine ⟨ret_b ?_, rfl⟩
    clear h0 h1
    clear w
    revert n
    decide +kernel

end Go.Proofs.YtaopehogpdgkgaaGreat
