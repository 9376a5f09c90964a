/- The statement AsciiAgain holds: for every string and byte the law returns true. The walk. -/
import Derived.Test.YtgkcjpidekefoaaRows
import Derived.WalkKit
import Derived.WalkSpells
import Derived.WalkLawsBesides
import Derived.ProofKit
import Derived.OpenShut
import Derived.ShutString
import Derived.ChangeOld
import Derived.Below
import Derived.Test.YtgkcjpidekefoaaSane01
namespace Go.Proofs.Ytgkcjpidekefoaa.asciiAgain
open Go.ChangeShapes Go.WideShapes Go.ChangeAt Go.RowKit
open Go.ChangeMaps (open_string shut_string)
set_option linter.unusedVariables false

theorem own : ownKnob Try.prog.godebug = none := by kernel_rfl

set_option maxHeartbeats 400000 in
theorem walk (a0 : ByteArray) (a1 : Int) (w0 : a0.size ≤ maxLen) (w1 : (Lit.int .u8 a1).wf = true) (w : World) :
    Calls Try.prog 5 #[.string a0, .int .u8 a1] w fun e w' => e = .returned (.bool true) ∧ Below w.heap.size w w' := by
  unfold maxLen at w0
  obtain ⟨c0, c1⟩ : 0 ≤ a1 ∧ a1 ≤ 255 := bounds_u8 w1
  clear w1
  have hB := Below.refl w.heap.size w
  have hll := lowerL_len a0.data.toList
  have htl := trimL_len a0.data.toList
  have hsz := size_toList a0
  have hs1 : (S (lowerL a0.data.toList)).size ≤ a0.size := by rw [S_size]; omega
  have hs2 : a0.size ≤ (S (lowerL a0.data.toList)).size := by rw [S_size]; omega
  have hs3 : (S (trimL a0.data.toList)).size ≤ a0.size := by rw [S_size]; omega
  clear hll htl hsz
  by_cases h0 : 2000 < a0.size
  · go_enter Try.func5, Try.ntmps5
    go_wp2_with fail
    refine (sane01_c _).mono ?_
    rintro e w1 ⟨rfl, hb⟩
    replace hB := hB.trans (hb.mono hB.size)
    clear hb
    go_wp2_with fail
    go_ret
    exact ⟨rfl, hB⟩
  · go_enter Try.func5, Try.ntmps5
    go_wp2_with fail
    refine (sane01_c _).mono ?_
    rintro e w1 ⟨rfl, hb⟩
    replace hB := hB.trans (hb.mono hB.size)
    clear hb
    go_wp2_with fail
    refine (lower_c _ (by omega) _).mono ?_
    rintro e w1 ⟨rfl, hb⟩
    replace hB := hB.trans (hb.mono hB.size)
    clear hb
    go_wp2_with fail
    refine (trim_c _ (by omega) _).mono ?_
    rintro e w' ⟨rfl, rfl⟩
    go_wp2_with fail
    refine (lower_c _ (by omega) _).mono ?_
    rintro e w1 ⟨he, hb⟩
    obtain rfl := he.trans (ret_s (congrArg S (lower_lower a0.data.toList)))
    clear he
    replace hB := hB.trans (hb.mono hB.size)
    clear hb
    go_wp2_with fail
    refine (equal_c _ _ (by omega) (by omega) _).mono ?_
    rintro e w1 ⟨he, hb⟩
    obtain rfl := he.trans (ret_b (equal_lower a0.data.toList))
    clear he
    replace hB := hB.trans (hb.mono hB.size)
    clear hb
    go_wp2_with fail
    refine (trim_c _ (by omega) _).mono ?_
    rintro e w' ⟨he, rfl⟩
    obtain rfl := he.trans (ret_s (congrArg S (trim_trim a0.data.toList)))
    clear he
    have hun := unres_pchar (n := a1.toNat) (by omega)
    by_cases hu : unresN a1.toNat = true
    · have hps : pcharN a1.toNat = true ∧ subN a1.toNat = false := by simpa [hu] using hun
      obtain ⟨hp, hsb⟩ := hps
      clear hun
      go_wp2_with (first | (go_at_call 21; refine (isUnreserved_c _ c0 c1 _).mono ?_; rintro e w' ⟨rfl, rfl⟩) | (go_at_call 25; refine (isPchar_c _ c0 c1 _).mono ?_; rintro e w' ⟨rfl, rfl⟩) | (go_at_call 23; refine (isSubDelim_c _ c0 c1 _).mono ?_; rintro e w' ⟨rfl, rfl⟩))
      go_ret
      exact ⟨rfl, hB⟩
    · have hu' : unresN a1.toNat = false := by simpa using hu
      clear hun hu
      go_wp2_with (go_at_call 21; refine (isUnreserved_c _ c0 c1 _).mono ?_; rintro e w' ⟨rfl, rfl⟩)
      go_ret
      exact ⟨rfl, hB⟩
end Go.Proofs.Ytgkcjpidekefoaa.asciiAgain
