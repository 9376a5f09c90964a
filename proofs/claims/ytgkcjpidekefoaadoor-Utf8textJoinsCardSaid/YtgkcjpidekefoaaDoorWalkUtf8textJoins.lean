/- The statement Utf8textJoins holds: for every two strings the law returns true. The walk. -/
import Derived.Test.YtgkcjpidekefoaaDoorRows
import Derived.WalkKit
import Derived.WalkSpells
import Derived.WalkLawsBesides
import Derived.ProofKit
import Derived.OpenShut
import Derived.ShutString
import Derived.ChangeOld
import Derived.Below
import Derived.Test.YtgkcjpidekefoaaDoorSane02
namespace Go.Proofs.YtgkcjpidekefoaaDoor.utf8textJoins
open Go.ChangeShapes Go.WideShapes Go.ChangeAt Go.RowKit
open Go.ChangeMaps (open_string shut_string)
set_option linter.unusedVariables false

theorem own : ownKnob Tryd.prog.godebug = none := by kernel_rfl

set_option maxHeartbeats 400000 in
theorem walk (a0 : ByteArray) (a1 : ByteArray) (w0 : a0.size ≤ maxLen) (w1 : a1.size ≤ maxLen) (w : World) (hf : Forms w) :
    Calls Tryd.prog 7 #[.string a0, .string a1] w fun e w' => e = .returned (.bool true) ∧ Below w.heap.size w w' := by
  unfold maxLen at w0 w1
  have hB := Below.refl w.heap.size w
  by_cases h0 : 1000 < a0.size
  · go_enter Tryd.func7, Tryd.ntmps7
    go_wp2_with fail
    refine (sane02_c _ hf).mono ?_
    rintro e w1 ⟨rfl, hb⟩
    replace hB := hB.trans (hb.mono hB.size)
    clear hb
    go_wp2_with fail
    go_ret
    exact ⟨rfl, hB⟩
  · by_cases h1 : 1000 < a1.size
    · go_enter Tryd.func7, Tryd.ntmps7
      go_wp2_with fail
      refine (sane02_c _ hf).mono ?_
      rintro e w1 ⟨rfl, hb⟩
      replace hB := hB.trans (hb.mono hB.size)
      clear hb
      go_wp2_with fail
      go_ret
      exact ⟨rfl, hB⟩
    · have hl : (a0 ++ a1).size ≤ 1000000 := by rw [ByteArray.size_append]; omega
      have HL := Lib.hid hl
      clear hl
      cases hc : countL a0.data.toList with
      | none =>
        have HC := Lib.hid (show (countL a0.data.toList).isSome = false from by rw [hc]; rfl)
        clear hc
        go_enter Tryd.func7, Tryd.ntmps7
        go_wp2_with fail
        refine (sane02_c _ hf).mono ?_
        rintro e w1 ⟨rfl, hb⟩
        replace hB := hB.trans (hb.mono hB.size)
        clear hb
        go_wp2_with fail
        refine (valid_c _ (by omega) _ (hf.go hB)).mono ?_
        rintro e w1 ⟨he, hb⟩
        obtain rfl := he.trans (ret_b HC.out)
        clear he
        replace hB := hB.trans (hb.mono hB.size)
        clear hb
        go_wp2_with fail
        go_ret
        exact ⟨rfl, hB⟩
      | some n =>
        have HC := Lib.hid (show (countL a0.data.toList).isSome = true from by rw [hc]; rfl)
        have HN := Lib.hid (show cntI (countL a0.data.toList) = n from by rw [hc]; rfl)
        have ha := count_app a0.data.toList.length a0.data.toList a1.data.toList n (Nat.le_refl _) hc
        have he : (a0 ++ a1).data.toList = a0.data.toList ++ a1.data.toList := by simp
        cases hm : countL a1.data.toList with
        | none =>
          have HB := Lib.hid (show (countL a1.data.toList).isSome = false from by rw [hm]; rfl)
          have HA := Lib.hid (show (countL (a0 ++ a1).data.toList).isSome = false from by rw [he, ha, hm]; rfl)
          clear hc ha he hm
          go_enter Tryd.func7, Tryd.ntmps7
          go_wp2_with fail
          refine (sane02_c _ hf).mono ?_
          rintro e w1 ⟨rfl, hb⟩
          replace hB := hB.trans (hb.mono hB.size)
          clear hb
          go_wp2_with fail
          refine (valid_c _ (by omega) _ (hf.go hB)).mono ?_
          rintro e w1 ⟨he, hb⟩
          obtain rfl := he.trans (ret_b HC.out)
          clear he
          replace hB := hB.trans (hb.mono hB.size)
          clear hb
          go_wp2_with fail
          refine (valid_c _ HL.out _ (hf.go hB)).mono ?_
          rintro e w1 ⟨he, hb⟩
          obtain rfl := he.trans (ret_b HA.out)
          clear he
          replace hB := hB.trans (hb.mono hB.size)
          clear hb
          go_wp2_with fail
          refine (valid_c _ (by omega) _ (hf.go hB)).mono ?_
          rintro e w1 ⟨he, hb⟩
          obtain rfl := he.trans (ret_b HB.out)
          clear he
          replace hB := hB.trans (hb.mono hB.size)
          clear hb
          go_wp2_with fail
          refine (valid_c _ (by omega) _ (hf.go hB)).mono ?_
          rintro e w1 ⟨he, hb⟩
          obtain rfl := he.trans (ret_b HB.out)
          clear he
          replace hB := hB.trans (hb.mono hB.size)
          clear hb
          go_wp2_with fail
          go_ret
          exact ⟨rfl, hB⟩
        | some m =>
          have HB := Lib.hid (show (countL a1.data.toList).isSome = true from by rw [hm]; rfl)
          have HM := Lib.hid (show cntI (countL a1.data.toList) = m from by rw [hm]; rfl)
          have HA := Lib.hid (show (countL (a0 ++ a1).data.toList).isSome = true from by rw [he, ha, hm]; rfl)
          have HS := Lib.hid (show cntI (countL (a0 ++ a1).data.toList) = (n : Int) + m from by rw [he, ha, hm]; simp [cntI, addC]; omega)
          have hn := count_le hc
          have hm' := count_le hm
          rw [size_toList] at hn hm'
          clear hc ha he hm
          go_enter Tryd.func7, Tryd.ntmps7
          go_wp2_with fail
          refine (sane02_c _ hf).mono ?_
          rintro e w1 ⟨rfl, hb⟩
          replace hB := hB.trans (hb.mono hB.size)
          clear hb
          go_wp2_with fail
          refine (valid_c _ (by omega) _ (hf.go hB)).mono ?_
          rintro e w1 ⟨he, hb⟩
          obtain rfl := he.trans (ret_b HC.out)
          clear he
          replace hB := hB.trans (hb.mono hB.size)
          clear hb
          go_wp2_with fail
          refine (valid_c _ HL.out _ (hf.go hB)).mono ?_
          rintro e w1 ⟨he, hb⟩
          obtain rfl := he.trans (ret_b HA.out)
          clear he
          replace hB := hB.trans (hb.mono hB.size)
          clear hb
          go_wp2_with fail
          refine (valid_c _ (by omega) _ (hf.go hB)).mono ?_
          rintro e w1 ⟨he, hb⟩
          obtain rfl := he.trans (ret_b HB.out)
          clear he
          replace hB := hB.trans (hb.mono hB.size)
          clear hb
          go_wp2_with fail
          refine (valid_c _ (by omega) _ (hf.go hB)).mono ?_
          rintro e w1 ⟨he, hb⟩
          obtain rfl := he.trans (ret_b HB.out)
          clear he
          replace hB := hB.trans (hb.mono hB.size)
          clear hb
          go_wp2_with fail
          refine (count_c _ HL.out _ (hf.go hB)).mono ?_
          rintro e w1 ⟨he, hb⟩
          obtain rfl := he.trans (ret_i HS.out)
          clear he
          replace hB := hB.trans (hb.mono hB.size)
          clear hb
          go_wp2_with fail
          refine (count_c _ (by omega) _ (hf.go hB)).mono ?_
          rintro e w1 ⟨he, hb⟩
          obtain rfl := he.trans (ret_i HN.out)
          clear he
          replace hB := hB.trans (hb.mono hB.size)
          clear hb
          go_wp2_with fail
          refine (count_c _ (by omega) _ (hf.go hB)).mono ?_
          rintro e w1 ⟨he, hb⟩
          obtain rfl := he.trans (ret_i HM.out)
          clear he
          replace hB := hB.trans (hb.mono hB.size)
          clear hb
          go_wp2_with fail
          go_ret
          exact ⟨rfl, hB⟩
end Go.Proofs.YtgkcjpidekefoaaDoor.utf8textJoins
