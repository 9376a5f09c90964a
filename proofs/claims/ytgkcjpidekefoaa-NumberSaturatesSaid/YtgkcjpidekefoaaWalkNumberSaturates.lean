/- The statement NumberSaturates holds: for every three numbers the law returns true. The walk. -/
import Derived.Test.YtgkcjpidekefoaaRows
import Derived.WalkKit
import Derived.WalkSpells
import Derived.WalkLawsBesides
import Derived.ProofKit
import Derived.OpenShut
import Derived.ShutString
import Derived.ChangeOld
import Derived.Below
import Derived.Test.YtgkcjpidekefoaaSane04
namespace Go.Proofs.Ytgkcjpidekefoaa.numberSaturates
open Go.ChangeShapes Go.WideShapes Go.ChangeAt Go.RowKit
open Go.ChangeMaps (open_string shut_string)
set_option linter.unusedVariables false

theorem own : ownKnob Try.prog.godebug = none := by kernel_rfl
theorem u64_U {a : Int} (h : (Lit.int .u64 a).wf = true) : U a := bounds_u64 h

set_option maxHeartbeats 400000 in
theorem walk (a0 : Int) (a1 : Int) (a2 : Int) (w0 : (Lit.int .u64 a0).wf = true) (w1 : (Lit.int .u64 a1).wf = true) (w2 : (Lit.int .u64 a2).wf = true) (w : World) :
    Calls Try.prog 8 #[.int .u64 a0, .int .u64 a1, .int .u64 a2] w fun e w' => e = .returned (.bool true) ∧ Below w.heap.size w w' := by
  have ua := u64_U w0
  have ub := u64_U w1
  have uc := u64_U w2
  have UA := Lib.hid ua
  have UB := Lib.hid ub
  have UC := Lib.hid uc
  have US := Lib.hid (satA_U ua ub)
  have UBC := Lib.hid (satA_U ub uc)
  have q1 : a0 ≤ satA a0 a1 := by unfold U at *; unfold satA; split <;> omega
  have q2 := Lib.hid (show satA a1 a0 = satA a0 a1 from by unfold satA; split <;> split <;> omega)
  have q3 := Lib.hid (show satA (satA a0 a1) a2 = satA a0 (satA a1 a2) from by unfold U at *; unfold satA; split <;> split <;> split <;> (try split) <;> omega)
  have q4 : satS a0 a1 ≤ a0 := by unfold U at *; unfold satS; split <;> omega
  have q5 := Lib.hid (show satA a0 a1 = 18446744073709551615 ∨ satS (satA a0 a1) a1 = a0 from by unfold U at *; unfold satA; split <;> first | (left; rfl) | (right; unfold satS; split <;> omega))
  clear w0 w1 w2 ua ub uc
  have hB := Below.refl w.heap.size w
  go_enter Try.func8, Try.ntmps8
  go_wp2_with fail
  refine (sane04_c _).mono ?_
  rintro e w1 ⟨rfl, hb⟩
  replace hB := hB.trans (hb.mono hB.size)
  clear hb
  go_wp2_with fail
  refine (add_c _ _ UA.out UB.out _).mono ?_
  rintro e w' ⟨rfl, rfl⟩
  go_wp2_with fail
  refine (rAdd_c _ _ UA.out UB.out _).mono ?_
  rintro e w' ⟨rfl, rfl⟩
  go_wp2_with fail
  refine (sub_c _ _ UA.out UB.out _).mono ?_
  rintro e w' ⟨rfl, rfl⟩
  go_wp2_with fail
  refine (rSub_c _ _ UA.out UB.out _).mono ?_
  rintro e w' ⟨rfl, rfl⟩
  go_wp2_with fail
  refine (add_c _ _ UB.out UA.out _).mono ?_
  rintro e w' ⟨he, rfl⟩
  obtain rfl := he.trans (ret_i q2.out)
  clear he
  go_wp2_with fail
  refine (add_c _ _ US.out UC.out _).mono ?_
  rintro e w' ⟨he, rfl⟩
  obtain rfl := he.trans (ret_i q3.out)
  clear he
  go_wp2_with fail
  refine (add_c _ _ UB.out UC.out _).mono ?_
  rintro e w' ⟨rfl, rfl⟩
  go_wp2_with fail
  refine (add_c _ _ UA.out UBC.out _).mono ?_
  rintro e w' ⟨rfl, rfl⟩
  go_wp2_with fail
  refine (sub_c _ _ UA.out UB.out _).mono ?_
  rintro e w' ⟨rfl, rfl⟩
  go_wp2_with fail
  · go_ret
    exact ⟨rfl, hB⟩
  · have q6 : satS (satA a0 a1) a1 = a0 := by rcases q5.out with h | h; exact absurd h ‹_›; exact h
    have Q6 := Lib.hid q6
    clear q6
    go_wp2_with fail
    refine (sub_c _ _ US.out UB.out _).mono ?_
    rintro e w' ⟨he, rfl⟩
    obtain rfl := he.trans (ret_i Q6.out)
    clear he
    go_wp2_with fail
    go_ret
    exact ⟨rfl, hB⟩
end Go.Proofs.Ytgkcjpidekefoaa.numberSaturates
