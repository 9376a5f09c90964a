/- The statement NumberParses holds: for every string and bound the law returns true. The walk. -/
import Derived.Test.YtgkcjpidekefoaaRows
import Derived.WalkKit
import Derived.WalkSpells
import Derived.WalkLawsBesides
import Derived.ProofKit
import Derived.OpenShut
import Derived.ShutString
import Derived.ChangeOld
import Derived.Below
import Derived.Test.YtgkcjpidekefoaaSane04
namespace Go.Proofs.Ytgkcjpidekefoaa.numberParses
open Go.ChangeShapes Go.WideShapes Go.ChangeAt Go.RowKit
open Go.ChangeMaps (open_string shut_string)
set_option linter.unusedVariables false

theorem own : ownKnob Try.prog.godebug = none := by kernel_rfl
theorem u64_U {a : Int} (h : (Lit.int .u64 a).wf = true) : U a := bounds_u64 h

set_option maxHeartbeats 400000 in
theorem walk (a0 : ByteArray) (a1 : Int) (w0 : a0.size ≤ maxLen) (w1 : (Lit.int .u64 a1).wf = true) (w : World) :
    Calls Try.prog 7 #[.string a0, .int .u64 a1] w fun e w' => e = .returned (.bool true) ∧ Below w.heap.size w w' := by
  unfold maxLen at w0
  have hu := u64_U w1
  obtain ⟨m, rfl⟩ : ∃ m : Nat, a1 = m := ⟨a1.toNat, by have := hu.1; omega⟩
  have HU := Lib.hid hu
  clear w1 hu
  have hB := Below.refl w.heap.size w
  by_cases h0 : 500 < a0.size
  · go_enter Try.func7, Try.ntmps7
    go_wp2_with fail
    refine (sane04_c _).mono ?_
    rintro e w1 ⟨rfl, hb⟩
    replace hB := hB.trans (hb.mono hB.size)
    clear hb
    go_wp2_with fail
    go_ret
    exact ⟨rfl, hB⟩
  · go_enter Try.func7, Try.ntmps7
    go_wp2_with fail
    refine (sane04_c _).mono ?_
    rintro e w1 ⟨rfl, hb⟩
    replace hB := hB.trans (hb.mono hB.size)
    clear hb
    go_wp2_with fail
    refine (nParse_c a0 (by omega) m HU.out _).mono ?_
    rintro e w' ⟨rfl, rfl⟩
    go_wp2_with fail
    refine (rnParse_c a0 (by omega) m HU.out _).mono ?_
    rintro e w' ⟨rfl, rfl⟩
    go_wp2_with fail
    refine (strict_c a0 (by omega) m HU.out _).mono ?_
    rintro e w' ⟨rfl, rfl⟩
    go_wp2_with fail
    refine (rStrict_c a0 (by omega) m HU.out _).mono ?_
    rintro e w' ⟨rfl, rfl⟩
    go_wp2_with fail
    refine (nHex_c a0 (by omega) m HU.out _).mono ?_
    rintro e w' ⟨rfl, rfl⟩
    go_wp2_with fail
    refine (rnHex_c a0 (by omega) m HU.out _).mono ?_
    rintro e w' ⟨rfl, rfl⟩
    go_wp2_with fail
    go_ret
    exact ⟨rfl, hB⟩
end Go.Proofs.Ytgkcjpidekefoaa.numberParses
