/- The statement FreshDirectives holds: for every string the law returns true. The walk. -/
import Derived.Test.YtegejmbkpdlekaaRows
import Derived.WalkKit
import Derived.WalkSpells
import Derived.WalkLawsBesides
import Derived.ProofKit
import Derived.OpenShut
import Derived.ShutString
import Derived.ChangeOld
import Derived.Below
import Derived.Test.YtegejmbkpdlekaaDirRes
namespace Go.Proofs.Ytegejmbkpdlekaa.freshDirectives
open Go.ChangeShapes Go.WideShapes Go.ChangeAt Go.RowKit
open Go.ChangeMaps (open_string shut_string)
set_option linter.unusedVariables false

theorem own : ownKnob Try.prog.godebug = none := by kernel_rfl

set_option maxHeartbeats 400000 in
theorem walk (a0 : ByteArray) (w0 : a0.size ≤ maxLen) (w : World) :
    Calls Try.prog 3 #[.string a0] w fun e w' => e = .returned (.bool true) ∧ Below w.heap.size w w' := by
  have hB := Below.refl w.heap.size w
  by_cases h0 : 1000 < a0.size
  · go_enter Try.func3, Try.ntmps3
    go_wp2_with fail
    refine (sane21_c _).mono ?_
    rintro e w1 ⟨rfl, hb⟩
    replace hB := hB.trans (hb.mono hB.size)
    clear hb
    go_wp2_with fail
    go_ret
    exact ⟨rfl, hB⟩
  · go_enter Try.func3, Try.ntmps3
    go_wp2_with fail
    refine (sane21_c _).mono ?_
    rintro e w1 ⟨rfl, hb⟩
    replace hB := hB.trans (hb.mono hB.size)
    clear hb
    go_wp2_with fail
    refine (dir_c a0 (by omega) _).mono ?_
    rintro e w2 ⟨hW2, hb2⟩
    have hB2 := hB.trans (hb2.mono hB.size)
    obtain ⟨c, l, v, rfl, hX, hv, hf⟩ := dr_parts hW2
    obtain ⟨A, c1, rfl⟩ := hv.slice
    have HV := Lib.hid hv
    have HX := Lib.hid hX
    clear hW2 hv hX
    go_wp2_with fail
    refine (rdir_c a0 (by omega) _).mono ?_
    rintro e w3 ⟨hW3, hb3⟩
    have hB3 := hB2.trans (hb3.mono hB2.size)
    obtain ⟨c', l', v', rfl, hX', hv', hf'⟩ := dr_parts hW3
    obtain ⟨rfl, rfl⟩ := dr_same HX.out hX'
    obtain ⟨A', c2, rfl⟩ := hv'.slice
    have HV2 := Lib.hid (HV.out.later hb3)
    have HV3 := Lib.hid hv'
    clear hW3 hv' hX'
    go_wp2_with fail
    refine (rSameFields_c _ _ _ l hf HV2.out HV3.out).mono ?_
    rintro e w4 ⟨rfl, m, rfl⟩
    go_wp2_with fail
    go_ret
    exact ⟨rfl, below_drew hB3 m⟩
end Go.Proofs.Ytegejmbkpdlekaa.freshDirectives
