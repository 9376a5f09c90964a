/- The statement WeblinkParses holds: for every string the law returns true. The walk. -/
import Derived.Test.YtaopehogpdgkgaaRows
import Derived.WalkKit
import Derived.WalkSpells
import Derived.WalkLawsBesides
import Derived.ProofKit
import Derived.OpenShut
import Derived.ShutString
import Derived.ChangeOld
import Derived.Below
import Derived.Test.YtaopehogpdgkgaaWlRes
namespace Go.Proofs.Ytaopehogpdgkgaa.weblinkParses
open Go.ChangeShapes Go.WideShapes Go.ChangeAt Go.RowKit
open Go.ChangeMaps (open_string shut_string)
set_option linter.unusedVariables false

theorem own : ownKnob Try.prog.godebug = none := by kernel_rfl

set_option maxHeartbeats 400000 in
theorem walk (a0 : ByteArray) (w0 : a0.size ≤ maxLen) (w : World) :
    Calls Try.prog 3 #[.string a0] w fun e w' => e = .returned (.bool true) ∧ Below w.heap.size w w' := by
  have hB := Below.refl w.heap.size w
  by_cases h0 : 2000 < a0.size
  · go_enter Try.func3, Try.ntmps3
    go_wp2_with fail
    refine (sane22_c _).mono ?_
    rintro e w1 ⟨rfl, hb⟩
    replace hB := hB.trans (hb.mono hB.size)
    clear hb
    go_wp2_with fail
    go_ret
    exact ⟨rfl, hB⟩
  · go_enter Try.func3, Try.ntmps3
    go_wp2_with fail
    refine (sane22_c _).mono ?_
    rintro e w1 ⟨rfl, hb⟩
    replace hB := hB.trans (hb.mono hB.size)
    clear hb
    go_wp2_with fail
    refine (wlParse_c a0 (by omega) _).mono ?_
    rintro e w2 ⟨hW2, hb2⟩
    have hB2 := hB.trans (hb2.mono hB.size)
    obtain ⟨c, l, v, rfl, hX, hV⟩ := wr_parts hW2
    obtain ⟨hv, hf⟩ := hV
    obtain ⟨A, c1, rfl⟩ := hv.slice
    have HV := Lib.hid hv
    have HF := Lib.hid hf
    have HX := Lib.hid hX
    clear hW2 hv hf hX
    go_wp2_with fail
    refine (rwlParse_c a0 (by omega) _).mono ?_
    rintro e w3 ⟨hW3, hb3⟩
    have hB3 := hB2.trans (hb3.mono hB2.size)
    obtain ⟨c', l', v', rfl, hX', hV'⟩ := wr_parts hW3
    obtain ⟨hv', hf'⟩ := hV'
    obtain ⟨rfl, rfl⟩ := wl_same HX.out hX'
    obtain ⟨A', c2, rfl⟩ := hv'.slice
    have HV2 := Lib.hid (HV.out.later hb3)
    have HV3 := Lib.hid hv'
    clear hW3 hv' hf' hX'
    go_wp2_with fail
    refine (rWlSame_c _ _ _ l HF.out HV2.out HV3.out).mono ?_
    rintro e w4 ⟨rfl, m, rfl⟩
    go_wp2_with fail
    go_ret
    exact ⟨rfl, below_drewN' hB3 m⟩
end Go.Proofs.Ytaopehogpdgkgaa.weblinkParses
