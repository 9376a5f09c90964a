/- The statement PercentOnce holds: for every string and set of bytes the law returns true. The walk. -/
import Derived.Test.YtgkcjpidekefoaaRows
import Derived.WalkKit
import Derived.WalkSpells
import Derived.WalkLawsBesides
import Derived.ProofKit
import Derived.OpenShut
import Derived.ShutString
import Derived.ChangeOld
import Derived.Below
import Derived.Test.YtgkcjpidekefoaaSane03
namespace Go.Proofs.Ytgkcjpidekefoaa.percentOnce
open Go.ChangeShapes Go.WideShapes Go.ChangeAt Go.RowKit
open Go.ChangeMaps (open_string shut_string)
set_option linter.unusedVariables false

theorem own : ownKnob Try.prog.godebug = none := by kernel_rfl

set_option maxHeartbeats 400000 in
theorem walk (a0 : ByteArray) (a1 : ByteArray) (w0 : a0.size ≤ maxLen) (w1 : a1.size ≤ maxLen) (w : World) :
    Calls Try.prog 13 #[.string a0, .string a1] w fun e w' => e = .returned (.bool true) ∧ Below w.heap.size w w' := by
  have hB := Below.refl w.heap.size w
  by_cases h0 : 1000 < a0.size
  · go_enter Try.func13, Try.ntmps13
    go_wp2_with fail
    refine (sane03_c _).mono ?_
    rintro e w1 ⟨rfl, hb⟩
    replace hB := hB.trans (hb.mono hB.size)
    clear hb
    go_wp2_with fail
    go_ret
    exact ⟨rfl, hB⟩
  · by_cases h1 : 100 < a1.size
    · go_enter Try.func13, Try.ntmps13
      go_wp2_with fail
      refine (sane03_c _).mono ?_
      rintro e w1 ⟨rfl, hb⟩
      replace hB := hB.trans (hb.mono hB.size)
      clear hb
      go_wp2_with fail
      go_ret
      exact ⟨rfl, hB⟩
    · cases hn : normP a1.data.toList a0.data.toList with
      | error n =>
        have HN := Lib.hid (normV_err (s := a0) (also := a1) (by omega) hn)
        obtain ⟨n0, n1⟩ := norm_err5 _ _ _ _ (Nat.le_refl _) hn
        clear hn
        go_enter Try.func13, Try.ntmps13
        go_wp2_with fail
        refine (sane03_c _).mono ?_
        rintro e w1 ⟨rfl, hb⟩
        replace hB := hB.trans (hb.mono hB.size)
        clear hb
        go_wp2_with fail
        refine (pnorm_c a0 a1 _).mono ?_
        rintro e w1 ⟨he, hb⟩
        obtain rfl := he.trans (ret_v HN.out.symm)
        clear he
        replace hB := hB.trans (hb.mono hB.size)
        clear hb
        go_wp2_with fail
        go_ret
        exact ⟨rfl, hB⟩
      | ok r =>
        obtain ⟨o1, ⟨d, o2, o3⟩, o4⟩ := once _ _ _ hn
        rw [size_toList] at o4
        have hr : (S r).size ≤ a0.size := by rw [S_size]; exact o4
        have HN := Lib.hid (normV_ok (s := a0) (also := a1) (by omega) hn)
        have HN2 := Lib.hid (normV_ok (s := S r) (also := a1) (by omega) o1)
        have HD := Lib.hid (decV_ok (s := a0) (by omega) o2)
        have HD2 := Lib.hid (decV_ok (s := S r) (by omega) o3)
        clear hn o1 o2 o3 o4
        go_enter Try.func13, Try.ntmps13
        go_wp2_with fail
        refine (sane03_c _).mono ?_
        rintro e w1 ⟨rfl, hb⟩
        replace hB := hB.trans (hb.mono hB.size)
        clear hb
        go_wp2_with fail
        refine (pnorm_c a0 a1 _).mono ?_
        rintro e w1 ⟨he, hb⟩
        obtain rfl := he.trans (ret_v HN.out.symm)
        clear he
        replace hB := hB.trans (hb.mono hB.size)
        clear hb
        go_wp2_with fail
        refine (pnorm_c _ _ _).mono ?_
        rintro e w1 ⟨he, hb⟩
        obtain rfl := he.trans (ret_v HN2.out.symm)
        clear he
        replace hB := hB.trans (hb.mono hB.size)
        clear hb
        go_wp2_with fail
        refine (pdecode_c _ _).mono ?_
        rintro e w1 ⟨he, hb⟩
        obtain rfl := he.trans (ret_v HD.out.symm)
        clear he
        replace hB := hB.trans (hb.mono hB.size)
        clear hb
        go_wp2_with fail
        refine (pdecode_c _ _).mono ?_
        rintro e w1 ⟨he, hb⟩
        obtain rfl := he.trans (ret_v HD2.out.symm)
        clear he
        replace hB := hB.trans (hb.mono hB.size)
        clear hb
        go_wp2_with fail
        go_ret
        exact ⟨rfl, hB⟩
end Go.Proofs.Ytgkcjpidekefoaa.percentOnce
