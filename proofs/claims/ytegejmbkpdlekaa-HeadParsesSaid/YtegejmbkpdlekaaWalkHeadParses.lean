/- The statement HeadParses holds: for every string the law returns true. The walk. -/
import Derived.Test.YtegejmbkpdlekaaRows
import Derived.WalkKit
import Derived.WalkSpells
import Derived.WalkLawsBesides
import Derived.ProofKit
import Derived.OpenShut
import Derived.ShutString
import Derived.ChangeOld
import Derived.Below
import Derived.Test.YtegejmbkpdlekaaHdRes
namespace Go.Proofs.Ytegejmbkpdlekaa.headParses
open Go.ChangeShapes Go.WideShapes Go.ChangeAt Go.RowKit
open Go.ChangeMaps (open_string shut_string)
set_option linter.unusedVariables false

theorem own : ownKnob Try.prog.godebug = none := by kernel_rfl

set_option maxRecDepth 100000 in
set_option maxHeartbeats 4000000 in
theorem walk (a0 : ByteArray) (w : World) (w0 : a0.size ≤ maxLen) (M : Int) (hm : MaxAt M w) :
    Calls Try.prog 7 #[.string a0] w fun e w' => e = .returned (.bool true) ∧ Below w.heap.size w w' := by
  have hB := Below.refl w.heap.size w
  have HM := Lib.hid hm
  clear hm
  unfold maxLen at w0
  by_cases h3 : 3000 < a0.size
  · by_cases h4 : a0.size ≤ 16384
    · have h3' : 3000 < (a0.size : Int) := by omega
      have h4' : (a0.size : Int) ≤ 16384 := by omega
      go_enter Try.func7, Try.ntmps7
      go_wp2_with fail
      refine (sane18_c M _ HM.out).mono ?_
      rintro e w1 ⟨rfl, hb⟩
      replace hB := hB.trans (hb.mono hB.size)
      have hlt := HM.out.lt
      replace HM := Lib.hid (HM.out.below (HM.out.lt) hb)
      clear hb
      go_wp2_with fail
      go_ret
      exact ⟨rfl, hB⟩
    · have h3' : 3000 < (a0.size : Int) := by omega
      have h4' : ¬ (a0.size : Int) ≤ 16384 := by omega
      go_enter Try.func7, Try.ntmps7
      go_wp2_with fail
      refine (sane18_c M _ HM.out).mono ?_
      rintro e w1 ⟨rfl, hb⟩
      replace hB := hB.trans (hb.mono hB.size)
      have hlt := HM.out.lt
      replace HM := Lib.hid (HM.out.below (HM.out.lt) hb)
      clear hb
      go_wp2_with fail
      refine (hParse_c a0 w0 M _ HM.out).mono ?_
      rintro e w2 ⟨hH2, hb2⟩
      have hB2 := hB.trans (hb2.mono hB.size)
      have HM2 := Lib.hid (HM.out.below HM.out.lt hb2)
      obtain ⟨c, mi, st, fs, to, v, rfl, hX, hv, hf⟩ := hr_parts hH2
      have HX := Lib.hid hX
      have hb3 : Below w2.heap.size w2 (w2.alloc (.cells #[.int .i64 (mi : Int), .int .i64 (st : Int), v] 29)) := (Below.refl _ _).alloc (Nat.le_refl _) _
      have hB3 := hB2.trans (hb3.mono hB2.size)
      have q0 : (w2.alloc (.cells #[.int .i64 (mi : Int), .int .i64 (st : Int), v] 29)).heap[w2.heap.size]? = some (.cells #[.int .i64 (mi : Int), .int .i64 (st : Int), v] 29 (0, 0)) := heap_alloc_new w2 _
      have HV := Lib.hid (hv.later hb3)
      have HM3 := Lib.hid (HM2.out.below HM2.out.lt hb3)
      obtain ⟨A, cp, rfl⟩ := hv.slice
      clear hH2 hX hv hb2 hB hB2 HM HM2 hb3
      go_wp2_with fail
      generalize w2.alloc (.cells #[.int .i64 (mi : Int), .int .i64 (st : Int), .slice A fs.length cp] 29) = W3 at *
      refine (rHParse_c a0 w0 M _ HM3.out).mono ?_
      rintro e w4 ⟨hH4, hb4⟩
      have hB4 := hB3.trans (hb4.mono hB3.size)
      obtain ⟨c', mi', st', fs', to', v', rfl, hX', hv', hf'⟩ := hr_parts hH4
      obtain ⟨rfl, rfl, rfl, rfl, rfl⟩ := hr_same HX.out hX'
      have q4 := (hb4.block _ (heap_lt q0)).trans q0
      have HV4 := Lib.hid (HV.out.later hb4)
      obtain ⟨A', cp', rfl⟩ := hv'.slice
      have hb5 : Below w4.heap.size w4 (w4.alloc (.cells #[.int .i64 (mi : Int), .int .i64 (st : Int), .slice A' fs.length cp'] 29)) := (Below.refl _ _).alloc (Nat.le_refl _) _
      have hB5 := hB4.trans (hb5.mono hB4.size)
      have q5 := (hb5.block _ (heap_lt q4)).trans q4
      have q6 : (w4.alloc (.cells #[.int .i64 (mi : Int), .int .i64 (st : Int), .slice A' fs.length cp'] 29)).heap[w4.heap.size]? = some (.cells #[.int .i64 (mi : Int), .int .i64 (st : Int), .slice A' fs.length cp'] 29 (0, 0)) := heap_alloc_new w4 _
      have HVa := Lib.hid (HV4.out.later hb5)
      have HVb := Lib.hid (hv'.later hb5)
      have hl0 := heap_lt q0
      clear hH4 hX' hv' hf' q0 q4 hb4 hb5 hB3 hB4 HV HV4 HM3
      obtain ⟨b0, b1, b2⟩ := cells3' q5
      obtain ⟨d0, d1, d2⟩ := cells3' q6
      clear q5 q6
      go_wp2_with (go_at_call 25; refine (rSameH_c (mi : Int) (st : Int) _ _ fs hf _ HVa.out HVb.out).mono ?_; rintro e w' ⟨rfl, hbz⟩)
      go_ret
      exact ⟨rfl, hB5.trans (hbz.mono hB5.size)⟩
  · have h3' : ¬ 3000 < (a0.size : Int) := by omega
    go_enter Try.func7, Try.ntmps7
    go_wp2_with fail
    refine (sane18_c M _ HM.out).mono ?_
    rintro e w1 ⟨rfl, hb⟩
    replace hB := hB.trans (hb.mono hB.size)
    have hlt := HM.out.lt
    replace HM := Lib.hid (HM.out.below (HM.out.lt) hb)
    clear hb
    go_wp2_with fail
    refine (hParse_c a0 w0 M _ HM.out).mono ?_
    rintro e w2 ⟨hH2, hb2⟩
    have hB2 := hB.trans (hb2.mono hB.size)
    have HM2 := Lib.hid (HM.out.below HM.out.lt hb2)
    obtain ⟨c, mi, st, fs, to, v, rfl, hX, hv, hf⟩ := hr_parts hH2
    have HX := Lib.hid hX
    have hb3 : Below w2.heap.size w2 (w2.alloc (.cells #[.int .i64 (mi : Int), .int .i64 (st : Int), v] 29)) := (Below.refl _ _).alloc (Nat.le_refl _) _
    have hB3 := hB2.trans (hb3.mono hB2.size)
    have q0 : (w2.alloc (.cells #[.int .i64 (mi : Int), .int .i64 (st : Int), v] 29)).heap[w2.heap.size]? = some (.cells #[.int .i64 (mi : Int), .int .i64 (st : Int), v] 29 (0, 0)) := heap_alloc_new w2 _
    have HV := Lib.hid (hv.later hb3)
    have HM3 := Lib.hid (HM2.out.below HM2.out.lt hb3)
    obtain ⟨A, cp, rfl⟩ := hv.slice
    clear hH2 hX hv hb2 hB hB2 HM HM2 hb3
    go_wp2_with fail
    generalize w2.alloc (.cells #[.int .i64 (mi : Int), .int .i64 (st : Int), .slice A fs.length cp] 29) = W3 at *
    refine (rHParse_c a0 w0 M _ HM3.out).mono ?_
    rintro e w4 ⟨hH4, hb4⟩
    have hB4 := hB3.trans (hb4.mono hB3.size)
    obtain ⟨c', mi', st', fs', to', v', rfl, hX', hv', hf'⟩ := hr_parts hH4
    obtain ⟨rfl, rfl, rfl, rfl, rfl⟩ := hr_same HX.out hX'
    have q4 := (hb4.block _ (heap_lt q0)).trans q0
    have HV4 := Lib.hid (HV.out.later hb4)
    obtain ⟨A', cp', rfl⟩ := hv'.slice
    have hb5 : Below w4.heap.size w4 (w4.alloc (.cells #[.int .i64 (mi : Int), .int .i64 (st : Int), .slice A' fs.length cp'] 29)) := (Below.refl _ _).alloc (Nat.le_refl _) _
    have hB5 := hB4.trans (hb5.mono hB4.size)
    have q5 := (hb5.block _ (heap_lt q4)).trans q4
    have q6 : (w4.alloc (.cells #[.int .i64 (mi : Int), .int .i64 (st : Int), .slice A' fs.length cp'] 29)).heap[w4.heap.size]? = some (.cells #[.int .i64 (mi : Int), .int .i64 (st : Int), .slice A' fs.length cp'] 29 (0, 0)) := heap_alloc_new w4 _
    have HVa := Lib.hid (HV4.out.later hb5)
    have HVb := Lib.hid (hv'.later hb5)
    have hl0 := heap_lt q0
    clear hH4 hX' hv' hf' q0 q4 hb4 hb5 hB3 hB4 HV HV4 HM3
    obtain ⟨b0, b1, b2⟩ := cells3' q5
    obtain ⟨d0, d1, d2⟩ := cells3' q6
    clear q5 q6
    go_wp2_with (go_at_call 25; refine (rSameH_c (mi : Int) (st : Int) _ _ fs hf _ HVa.out HVb.out).mono ?_; rintro e w' ⟨rfl, hbz⟩)
    go_ret
    exact ⟨rfl, hB5.trans (hbz.mono hB5.size)⟩
end Go.Proofs.Ytegejmbkpdlekaa.headParses
