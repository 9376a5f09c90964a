/- The statement PercentNormalizes holds: for every string and set of bytes the law returns true. The walk. -/
import Derived.Test.YtgkcjpidekefoaaRows
import Derived.WalkKit
import Derived.WalkSpells
import Derived.WalkLawsBesides
import Derived.ProofKit
import Derived.OpenShut
import Derived.ShutString
import Derived.ChangeOld
import Derived.Below
import Derived.Test.YtgkcjpidekefoaaSane03
namespace Go.Proofs.Ytgkcjpidekefoaa.percentNormalizes
open Go.ChangeShapes Go.WideShapes Go.ChangeAt Go.RowKit
open Go.ChangeMaps (open_string shut_string)
set_option linter.unusedVariables false

theorem own : ownKnob Try.prog.godebug = none := by kernel_rfl

set_option maxHeartbeats 400000 in
theorem walk (a0 : ByteArray) (a1 : ByteArray) (w0 : a0.size ≤ maxLen) (w1 : a1.size ≤ maxLen) (w : World) :
    Calls Try.prog 10 #[.string a0, .string a1] w fun e w' => e = .returned (.bool true) ∧ Below w.heap.size w w' := by
  obtain ⟨t, n, HD⟩ := normV_parts a1 a0
  have HD := Lib.hid HD
  have hB := Below.refl w.heap.size w
  by_cases h1 : 3000 < a0.size
  · by_cases h2 : a0.size ≤ 16384
    · go_enter Try.func10, Try.ntmps10
      go_wp2_with fail
      refine (sane03_c _).mono ?_
      rintro e w1 ⟨rfl, hb⟩
      replace hB := hB.trans (hb.mono hB.size)
      clear hb
      go_wp2_with fail
      go_ret
      exact ⟨rfl, hB⟩
    · by_cases h3 : 100 < a1.size
      · go_enter Try.func10, Try.ntmps10
        go_wp2_with fail
        refine (sane03_c _).mono ?_
        rintro e w1 ⟨rfl, hb⟩
        replace hB := hB.trans (hb.mono hB.size)
        clear hb
        go_wp2_with fail
        go_ret
        exact ⟨rfl, hB⟩
      · go_enter Try.func10, Try.ntmps10
        go_wp2_with fail
        refine (sane03_c _).mono ?_
        rintro e w1 ⟨rfl, hb⟩
        replace hB := hB.trans (hb.mono hB.size)
        clear hb
        go_wp2_with fail
        refine (pnorm_c a0 a1 _).mono ?_
        rintro e w1 ⟨he, hb⟩
        obtain rfl := he.trans (ret_v HD.out.symm)
        clear he
        replace hB := hB.trans (hb.mono hB.size)
        clear hb
        go_wp2_with fail
        refine (rpnorm_c a0 a1 (by omega) _).mono ?_
        rintro e w1 ⟨he, hb⟩
        obtain rfl := he.trans (ret_v HD.out.symm)
        clear he
        replace hB := hB.trans (hb.mono hB.size)
        clear hb
        go_wp2_with fail
        go_ret
        exact ⟨rfl, hB⟩
  · by_cases h3 : 100 < a1.size
    · go_enter Try.func10, Try.ntmps10
      go_wp2_with fail
      refine (sane03_c _).mono ?_
      rintro e w1 ⟨rfl, hb⟩
      replace hB := hB.trans (hb.mono hB.size)
      clear hb
      go_wp2_with fail
      go_ret
      exact ⟨rfl, hB⟩
    · go_enter Try.func10, Try.ntmps10
      go_wp2_with fail
      refine (sane03_c _).mono ?_
      rintro e w1 ⟨rfl, hb⟩
      replace hB := hB.trans (hb.mono hB.size)
      clear hb
      go_wp2_with fail
      refine (pnorm_c a0 a1 _).mono ?_
      rintro e w1 ⟨he, hb⟩
      obtain rfl := he.trans (ret_v HD.out.symm)
      clear he
      replace hB := hB.trans (hb.mono hB.size)
      clear hb
      go_wp2_with fail
      refine (rpnorm_c a0 a1 (by omega) _).mono ?_
      rintro e w1 ⟨he, hb⟩
      obtain rfl := he.trans (ret_v HD.out.symm)
      clear he
      replace hB := hB.trans (hb.mono hB.size)
      clear hb
      go_wp2_with fail
      go_ret
      exact ⟨rfl, hB⟩
end Go.Proofs.Ytgkcjpidekefoaa.percentNormalizes
