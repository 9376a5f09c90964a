/- The statement WeblinkMany holds: for every number the law returns true. The walk. -/
import Derived.Test.YtaopehogpdgkgaaRows
import Derived.WalkKit
import Derived.WalkSpells
import Derived.WalkLawsBesides
import Derived.ProofKit
import Derived.OpenShut
import Derived.ShutString
import Derived.ChangeOld
import Derived.Below
import Derived.Test.YtaopehogpdgkgaaWlRes
namespace Go.Proofs.Ytaopehogpdgkgaa.weblinkMany
open Go.ChangeShapes Go.WideShapes Go.ChangeAt Go.RowKit
open Go.ChangeMaps (open_string shut_string)
set_option linter.unusedVariables false

theorem own : ownKnob Try.prog.godebug = none := by kernel_rfl

set_option maxHeartbeats 400000 in
theorem walk (a0 : Int) (w0 : (Lit.int .u8 a0).wf = true) (w : World) :
    Calls Try.prog 4 #[.int .u8 a0] w fun e w' => e = .returned (.bool true) ∧ Below w.heap.size w w' := by
  obtain ⟨h0, h1⟩ : 0 ≤ a0 ∧ a0 ≤ 255 := bounds_u8 w0
  clear w0
  have hB := Below.refl w.heap.size w
  obtain ⟨q, hq5, hq⟩ : ∃ q : Nat, q < 5 ∧ a0 % 5 = (q : Int) := ⟨(a0 % 5).toNat, by omega, by omega⟩
  have HM := Lib.hid (many_all ⟨q, hq5⟩)
  go_enter Try.func4, Try.ntmps4
  go_wp2_with fail
  refine (sane22_c _).mono ?_
  rintro e w1 ⟨rfl, hb⟩
  replace hB := hB.trans (hb.mono hB.size)
  clear hb
  go_wp2_with fail
  go_loop [4, 5] (fun u4 u5 => ∃ i : Nat, i ≤ 62 + q ∧ u5 = .int .i64 (i : Int) ∧ u4 = .string (S (repL i))) (fun _ u5 => 62 + q - (intOf u5).toNat)
  case atStart => exact ⟨0, by omega, rfl, rfl⟩
  case round =>
    obtain ⟨i, hi, rfl, rfl⟩ := hrel
    by_cases hlt : i < 62 + q
    · have hl : (S (repL i)).size ≤ 1000 := by rw [S_size, repL_len]; omega
      go_wp2_with fail
      go_round
      case rel => exact ⟨i + 1, by omega, by go_num, rep_snoc i⟩
      case measure => simp [intOf]; omega
    · obtain rfl : i = 62 + q := by omega
      go_wp2_with fail
      refine (wlParse_c (S (repL (62 + q))) (by rw [S_size, repL_len]; omega) _).mono ?_
      rintro e w2 ⟨hW2, hb2⟩
      have hB2 := hB.trans (hb2.mono hB.size)
      obtain ⟨c, l, v, rfl, hX, hv, _⟩ := wr_parts hW2
      obtain ⟨A, c1, rfl⟩ := hv.slice
      have hM := HM.out
      rw [hX] at hM
      obtain ⟨hc, hl⟩ := hM
      simp only at hc hl
      clear hX hv hW2 HM
      by_cases h2 : 2 < q
      · rw [if_pos h2] at hc hl
        subst hc
        generalize l.length = n at *
        subst hl
        go_wp2_with fail
        go_ret
        exact ⟨rfl, hB2⟩
      · rw [if_neg h2] at hc hl
        subst hc
        generalize l.length = n at *
        subst hl
        have hcast : ((62 + q : Nat) : Int) = 62 + (q : Int) := by omega
        go_wp2_with fail
        go_ret
        exact ⟨rfl, hB2⟩
end Go.Proofs.Ytaopehogpdgkgaa.weblinkMany
