/- The statement WeblinkFinds holds: for every list of links and every relation the law returns true. The walk. -/
import Derived.Test.YtaopehogpdgkgaaGreatRows
import Derived.WalkKit
import Derived.WalkSpells
import Derived.WalkLawsBesides
import Derived.ProofKit
import Derived.OpenShut
import Derived.ShutString
import Derived.ChangeOld
import Derived.Below
import Derived.Test.YtaopehogpdgkgaaGreatWlKept
import Derived.Test.YtaopehogpdgkgaaGreatWlRes
namespace Go.Proofs.YtaopehogpdgkgaaGreat.weblinkFinds
open Go.ChangeShapes Go.WideShapes Go.ChangeAt Go.RowKit
open Go.ChangeMaps (open_string shut_string)
set_option linter.unusedVariables false

theorem own : ownKnob Tryz.prog.godebug = none := by kernel_rfl

set_option maxRecDepth 100000 in
set_option maxHeartbeats 2000000 in
theorem walk (v : Value) (l : List Lnk) (a1 : ByteArray) (w : World) (h : RdLinks w v l) (hI : ∀ x ∈ l, LnkIn x) (w1 : a1.size ≤ maxLen) :
    Calls Tryz.prog 5 #[v, .string a1] w fun e w' => e = .returned (.bool true) ∧ Below w.heap.size w w' := by
  have hR0 := h
  obtain ⟨A, c, rfl⟩ := h.slice
  clear h
  cases hk : keptB l with
  | false =>
    go_enter Tryz.func5, Tryz.ntmps5
    go_wp2_with fail
    refine (sane22_c _).mono ?_
    rintro e w1 ⟨rfl, hb1⟩
    have hR1 := hR0.later hb1
    clear hR0
    go_wp2_with fail
    refine (kept_c _ _ l hI hR1).mono ?_
    rintro e w2 ⟨rfl, hb2⟩
    have hB2 := hb1.trans (hb2.mono hb1.size)
    have hR2 := hR1.later hb2
    clear hR1 hb1 hb2
    rw [hk]
    go_wp2_with fail
    go_ret
    exact ⟨rfl, hB2⟩
  | true =>
    by_cases h3 : 100 < a1.size
    · have h3' : 100 < (a1.size : Int) := by omega
      go_enter Tryz.func5, Tryz.ntmps5
      go_wp2_with fail
      refine (sane22_c _).mono ?_
      rintro e w1 ⟨rfl, hb1⟩
      have hR1 := hR0.later hb1
      clear hR0
      go_wp2_with fail
      refine (kept_c _ _ l hI hR1).mono ?_
      rintro e w2 ⟨rfl, hb2⟩
      have hB2 := hb1.trans (hb2.mono hb1.size)
      have hR2 := hR1.later hb2
      clear hR1 hb1 hb2
      rw [hk]
      go_wp2_with fail
      go_ret
      exact ⟨rfl, hB2⟩
    · have h3' : ¬ 100 < (a1.size : Int) := by omega
      obtain ⟨hok, hfw⟩ := keptB_facts hk
      obtain ⟨X, hX⟩ : ∃ X, findW l a1.data.toList = X := ⟨_, rfl⟩
      obtain ⟨TT, hTT⟩ : ∃ TT, S (fmtWL l) = TT := ⟨_, rfl⟩
      have k1 := fun W h => wlFind_c W (.slice A l.length c) l a1 (by omega) hfw h
      have k2 := fun W h => rwlFind_c W (.slice A l.length c) l a1 (by omega) hfw h
      have k3 := fun W h => wFormat_c W (.slice A l.length c) l hok h
      have k4 := fun W h => rwFormat_c W (.slice A l.length c) l hok h
      rw [hX] at k1 k2
      rw [hTT] at k3 k4
      have K1 := Lib.hid k1
      have K2 := Lib.hid k2
      have K3 := Lib.hid k3
      have K4 := Lib.hid k4
      clear k1 k2 k3 k4 hX hTT hok hfw
      cases X with
      | none =>
        unfold findV at K1 K2
        go_enter Tryz.func5, Tryz.ntmps5
        go_wp2_with fail
        refine (sane22_c _).mono ?_
        rintro e w1 ⟨rfl, hb1⟩
        have hR1 := hR0.later hb1
        clear hR0
        go_wp2_with fail
        refine (kept_c _ _ l hI hR1).mono ?_
        rintro e w2 ⟨rfl, hb2⟩
        have hB2 := hb1.trans (hb2.mono hb1.size)
        have hR2 := hR1.later hb2
        clear hR1 hb1 hb2
        rw [hk]
        go_wp2_with fail
        refine (K1.out _ hR2).mono ?_
        rintro e w3 ⟨rfl, hb3⟩
        have hB3 := hB2.trans (hb3.mono hB2.size)
        have hR3 := hR2.later hb3
        clear hB2 hR2 hb3
        go_wp2_with fail
        refine (K2.out _ hR3).mono ?_
        rintro e w4 ⟨rfl, hb4⟩
        have hB4 := hB3.trans (hb4.mono hB3.size)
        have hR4 := hR3.later hb4
        clear hB3 hR3 hb4
        go_wp2_with fail
        refine (K3.out _ hR4).mono ?_
        rintro e w5 ⟨rfl, hb5⟩
        have hB5 := hB4.trans (hb5.mono hB4.size)
        have hR5 := hR4.later hb5
        clear hB4 hR4 hb5
        go_wp2_with fail
        refine (K4.out _ hR5).mono ?_
        rintro e w6 ⟨rfl, hb6⟩
        have hB6 := hB5.trans (hb6.mono hB5.size)
        clear hB5 hR5 hb6
        go_wp2_with fail
        go_ret
        exact ⟨rfl, hB6⟩
      | some t =>
        unfold findV at K1 K2
        go_enter Tryz.func5, Tryz.ntmps5
        go_wp2_with fail
        refine (sane22_c _).mono ?_
        rintro e w1 ⟨rfl, hb1⟩
        have hR1 := hR0.later hb1
        clear hR0
        go_wp2_with fail
        refine (kept_c _ _ l hI hR1).mono ?_
        rintro e w2 ⟨rfl, hb2⟩
        have hB2 := hb1.trans (hb2.mono hb1.size)
        have hR2 := hR1.later hb2
        clear hR1 hb1 hb2
        rw [hk]
        go_wp2_with fail
        refine (K1.out _ hR2).mono ?_
        rintro e w3 ⟨rfl, hb3⟩
        have hB3 := hB2.trans (hb3.mono hB2.size)
        have hR3 := hR2.later hb3
        clear hB2 hR2 hb3
        go_wp2_with fail
        refine (K2.out _ hR3).mono ?_
        rintro e w4 ⟨rfl, hb4⟩
        have hB4 := hB3.trans (hb4.mono hB3.size)
        have hR4 := hR3.later hb4
        clear hB3 hR3 hb4
        go_wp2_with fail
        refine (K3.out _ hR4).mono ?_
        rintro e w5 ⟨rfl, hb5⟩
        have hB5 := hB4.trans (hb5.mono hB4.size)
        have hR5 := hR4.later hb5
        clear hB4 hR4 hb5
        go_wp2_with fail
        refine (K4.out _ hR5).mono ?_
        rintro e w6 ⟨rfl, hb6⟩
        have hB6 := hB5.trans (hb6.mono hB5.size)
        clear hB5 hR5 hb6
        go_wp2_with fail
        go_ret
        exact ⟨rfl, hB6⟩
end Go.Proofs.YtaopehogpdgkgaaGreat.weblinkFinds
