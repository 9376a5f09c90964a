/- The statement PercentDecodes holds: for every string the law returns true. The walk. -/
import Derived.Test.YtgkcjpidekefoaaRows
import Derived.WalkKit
import Derived.WalkSpells
import Derived.WalkLawsBesides
import Derived.ProofKit
import Derived.OpenShut
import Derived.ShutString
import Derived.ChangeOld
import Derived.Below
import Derived.Test.YtgkcjpidekefoaaSane03
namespace Go.Proofs.Ytgkcjpidekefoaa.percentDecodes
open Go.ChangeShapes Go.WideShapes Go.ChangeAt Go.RowKit
open Go.ChangeMaps (open_string shut_string)
set_option linter.unusedVariables false

theorem own : ownKnob Try.prog.godebug = none := by kernel_rfl

set_option maxHeartbeats 400000 in
theorem walk (a0 : ByteArray) (w0 : a0.size ≤ maxLen) (w : World) :
    Calls Try.prog 11 #[.string a0] w fun e w' => e = .returned (.bool true) ∧ Below w.heap.size w w' := by
  obtain ⟨t, n, HD⟩ := decV_parts a0
  have HD := Lib.hid HD
  have hB := Below.refl w.heap.size w
  by_cases h0 : 3000 < a0.size ∧ a0.size ≤ 16384
  · obtain ⟨h0, h1⟩ := h0
    go_enter Try.func11, Try.ntmps11
    go_wp2_with fail
    refine (sane03_c _).mono ?_
    rintro e w1 ⟨rfl, hb⟩
    replace hB := hB.trans (hb.mono hB.size)
    clear hb
    go_wp2_with fail
    go_ret
    exact ⟨rfl, hB⟩
  · by_cases h1 : 3000 < a0.size
    · have h2 : ¬ a0.size ≤ 16384 := fun h => h0 ⟨h1, h⟩
      clear h0
      go_enter Try.func11, Try.ntmps11
      go_wp2_with fail
      refine (sane03_c _).mono ?_
      rintro e w1 ⟨rfl, hb⟩
      replace hB := hB.trans (hb.mono hB.size)
      clear hb
      go_wp2_with fail
      refine (pdecode_c a0 _).mono ?_
      rintro e w1 ⟨he, hb⟩
      obtain rfl := he.trans (ret_v HD.out.symm)
      clear he
      replace hB := hB.trans (hb.mono hB.size)
      clear hb
      go_wp2_with fail
      refine (rpdecode_c a0 _).mono ?_
      rintro e w1 ⟨he, hb⟩
      obtain rfl := he.trans (ret_v HD.out.symm)
      clear he
      replace hB := hB.trans (hb.mono hB.size)
      clear hb
      go_wp2_with fail
      go_ret
      exact ⟨rfl, hB⟩
    · clear h0
      go_enter Try.func11, Try.ntmps11
      go_wp2_with fail
      refine (sane03_c _).mono ?_
      rintro e w1 ⟨rfl, hb⟩
      replace hB := hB.trans (hb.mono hB.size)
      clear hb
      go_wp2_with fail
      refine (pdecode_c a0 _).mono ?_
      rintro e w1 ⟨he, hb⟩
      obtain rfl := he.trans (ret_v HD.out.symm)
      clear he
      replace hB := hB.trans (hb.mono hB.size)
      clear hb
      go_wp2_with fail
      refine (rpdecode_c a0 _).mono ?_
      rintro e w1 ⟨he, hb⟩
      obtain rfl := he.trans (ret_v HD.out.symm)
      clear he
      replace hB := hB.trans (hb.mono hB.size)
      clear hb
      go_wp2_with fail
      go_ret
      exact ⟨rfl, hB⟩
end Go.Proofs.Ytgkcjpidekefoaa.percentDecodes
