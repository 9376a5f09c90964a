/- The statement HeadBack holds: for every two strings the law returns true. The walk. -/
import Derived.Test.YtegejmbkpdlekaaRows
import Derived.WalkKit
import Derived.WalkSpells
import Derived.WalkLawsBesides
import Derived.ProofKit
import Derived.OpenShut
import Derived.ShutString
import Derived.ChangeOld
import Derived.Below
import Derived.Test.YtegejmbkpdlekaaHdRes
import Derived.Test.YtegejmbkpdlekaaHdRFmt
namespace Go.Proofs.Ytegejmbkpdlekaa.headBack
open Go.ChangeShapes Go.WideShapes Go.ChangeAt Go.RowKit
open Go.ChangeMaps (open_string shut_string)
set_option linter.unusedVariables false

theorem own : ownKnob Try.prog.godebug = none := by kernel_rfl

set_option maxRecDepth 100000 in
set_option maxHeartbeats 4000000 in
theorem walk (a0 a1 : ByteArray) (w : World) (w0 : a0.size ≤ maxLen) (w1 : a1.size ≤ maxLen) (M : Int) (hm : MaxAt M w) :
    Calls Try.prog 10 #[.string a0, .string a1] w fun e w' => e = .returned (.bool true) ∧ Below w.heap.size w w' := by
  have hB := Below.refl w.heap.size w
  have HM := Lib.hid hm
  clear hm
  unfold maxLen at w0 w1
  by_cases h3 : 3000 < a0.size
  · have h3' : 3000 < (a0.size : Int) := by omega
    go_enter Try.func10, Try.ntmps10
    go_wp2_with fail
    refine (sane18_c M _ HM.out).mono ?_
    rintro e w1 ⟨rfl, hb⟩
    replace hB := hB.trans (hb.mono hB.size)
    have hlt := HM.out.lt
    replace HM := Lib.hid (HM.out.below (HM.out.lt) hb)
    clear hb
    go_wp2_with fail
    go_ret
    exact ⟨rfl, hB⟩
  · have h3' : ¬ 3000 < (a0.size : Int) := by omega
    by_cases h4 : 100 < a1.size
    · have h4' : 100 < (a1.size : Int) := by omega
      go_enter Try.func10, Try.ntmps10
      go_wp2_with fail
      refine (sane18_c M _ HM.out).mono ?_
      rintro e w1 ⟨rfl, hb⟩
      replace hB := hB.trans (hb.mono hB.size)
      have hlt := HM.out.lt
      replace HM := Lib.hid (HM.out.below (HM.out.lt) hb)
      clear hb
      go_wp2_with fail
      go_ret
      exact ⟨rfl, hB⟩
    · have h4' : ¬ 100 < (a1.size : Int) := by omega
      obtain ⟨X, hX⟩ : ∃ X, headL a0.data.toList = X := ⟨_, rfl⟩
      have hP := hParse_c a0 w0
      rw [hX] at hP
      have HP := Lib.hid hP
      have HX := Lib.hid hX
      clear hP hX
      cases X with
      | error ec =>
        go_enter Try.func10, Try.ntmps10
        go_wp2_with fail
        refine (sane18_c M _ HM.out).mono ?_
        rintro e w1 ⟨rfl, hb⟩
        replace hB := hB.trans (hb.mono hB.size)
        have hlt := HM.out.lt
        replace HM := Lib.hid (HM.out.below (HM.out.lt) hb)
        clear hb
        go_wp2_with fail
        refine (HP.out M _ HM.out).mono ?_
        rintro e w2 ⟨hH2, hb2⟩
        have hB2 := hB.trans (hb2.mono hB.size)
        obtain ⟨c, hc, rfl⟩ : ∃ c : Nat, ec = c ∧ e = .returned (.tuple #[.agg #[.int .i64 0, .int .i64 0, .slice none 0 0], .int .i64 0, .int .i64 (c : Int)]) := by
          rcases hH2 with ⟨c, hc, he⟩ | ⟨_, _, _, _, _, hc, _⟩
          · injection hc with hc; exact ⟨c, hc, he⟩
          · cases hc
        subst hc
        have hne := head_err HX.out
        have hne' : ((ec : Nat) : Int) ≠ 0 := by omega
        have hneb : (((ec : Nat) : Int) == 0) = false := by rw [beq_eq_false_iff_ne]; exact hne'
        clear hH2
        have hB3 : Below w.heap.size w (w2.alloc (.cells #[.int .i64 0, .int .i64 0, .slice none 0 0] 29)) := hB2.alloc hB2.size _
        go_wp2_with fail
        go_ret
        exact ⟨rfl, hB3⟩
      | ok y =>
        obtain ⟨mi, st, fs, to⟩ := y
        obtain ⟨hg1, hg2, hg3, hg4, hg5, hg6, hg7⟩ := head_good HX.out
        rw [size_toList] at hg6 hg7
        obtain ⟨hbk, hbl⟩ := head_back (more := a1.data.toList) HX.out (by rw [size_toList]; omega)
        clear hg1 hg4
        go_enter Try.func10, Try.ntmps10
        go_wp2_with fail
        refine (sane18_c M _ HM.out).mono ?_
        rintro e w1 ⟨rfl, hb⟩
        replace hB := hB.trans (hb.mono hB.size)
        have hlt := HM.out.lt
        replace HM := Lib.hid (HM.out.below (HM.out.lt) hb)
        clear hb
        go_wp2_with fail
        refine (HP.out M _ HM.out).mono ?_
        rintro e w2 ⟨hH2, hb2⟩
        have hB2 := hB.trans (hb2.mono hB.size)
        have HM2 := Lib.hid (HM.out.below HM.out.lt hb2)
        obtain ⟨v, rfl, hL⟩ : ∃ v, e = .returned (.tuple #[.agg #[.int .i64 (mi : Int), .int .i64 (st : Int), v], .int .i64 (to : Int), .int .i64 0]) ∧ Flds w2 w1.heap.size v fs := by
          rcases hH2 with ⟨c, hc, he⟩ | ⟨_, _, _, _, v, hc, he, hL⟩
          · cases hc
          · injection hc with hc
            simp only [Prod.mk.injEq] at hc
            obtain ⟨rfl, rfl, rfl, rfl⟩ := hc
            exact ⟨v, he, hL⟩
        have hv := Rd.of_own hL
        have hb3 : Below w2.heap.size w2 (w2.alloc (.cells #[.int .i64 (mi : Int), .int .i64 (st : Int), v] 29)) := (Below.refl _ _).alloc (Nat.le_refl _) _
        have hB3 := hB2.trans (hb3.mono hB2.size)
        have q0 : (w2.alloc (.cells #[.int .i64 (mi : Int), .int .i64 (st : Int), v] 29)).heap[w2.heap.size]? = some (.cells #[.int .i64 (mi : Int), .int .i64 (st : Int), v] 29 (0, 0)) := heap_alloc_new w2 _
        have hV3 := hv.later hb3
        have HM3 := Lib.hid (HM2.out.below HM2.out.lt hb3)
        obtain ⟨A, cp, rfl⟩ := hv.slice
        have HF := Lib.hid (hFormat_c (mi : Int) (st : Int) (by omega) (by omega) _ fs _ (by omega) (by omega) hV3)
        have HV3 := Lib.hid hV3
        clear hH2 hL hv hb2 hb3 hV3 HM2 hB hB2 HM
        obtain ⟨a0', a1', a2'⟩ := cells3' q0
        go_wp2_with fail
        refine HF.out.mono ?_
        rintro e w4 ⟨rfl, hb4⟩
        have hB4 := hB3.trans (hb4.mono hB3.size)
        have q4 := (hb4.block _ (heap_lt q0)).trans q0
        have HV4 := Lib.hid (HV3.out.later hb4)
        have HM4 := Lib.hid (HM3.out.below HM3.out.lt hb4)
        have hsl : (S (fmtHL mi st fs)).size ≤ 4000 := by rw [S_size]; exact hbl
        have HP2 := Lib.hid (hParse_c (S (fmtHL mi st fs) ++ a1) (by rw [ByteArray.size_append]; omega))
        have hsp : (S (fmtHL mi st fs) ++ a1).data.toList = fmtHL mi st fs ++ a1.data.toList := by simp [S]
        have HSP := Lib.hid (hsp.symm ▸ hbk : headL (S (fmtHL mi st fs) ++ a1).data.toList = .ok (mi, st, fs, (fmtHL mi st fs).length))
        clear hsp hbk hb4 a0' a1' a2' q0 hB3 HV3 HM3 HF
        obtain ⟨a0', a1', a2'⟩ := cells3' q4
        go_wp2_with fail
        refine (HP2.out M _ HM4.out).mono ?_
        rintro e w5 ⟨hH5, hb5⟩
        rw [HSP.out] at hH5
        have hB5 := hB4.trans (hb5.mono hB4.size)
        have q5 := (hb5.block _ (heap_lt q4)).trans q4
        have hV5 := HV4.out.later hb5
        obtain ⟨v', rfl, hL5⟩ : ∃ v, e = .returned (.tuple #[.agg #[.int .i64 (mi : Int), .int .i64 (st : Int), v], .int .i64 ((fmtHL mi st fs).length : Nat), .int .i64 0]) ∧ Flds w5 w4.heap.size v fs := by
          rcases hH5 with ⟨c, hc, he⟩ | ⟨_, _, _, _, v, hc, he, hL⟩
          · cases hc
          · injection hc with hc
            simp only [Prod.mk.injEq] at hc
            obtain ⟨rfl, rfl, rfl, rfl⟩ := hc
            exact ⟨v, he, hL⟩
        have hv' := Rd.of_own hL5
        obtain ⟨A', cp', rfl⟩ := hv'.slice
        have hb6 : Below w5.heap.size w5 (w5.alloc (.cells #[.int .i64 (mi : Int), .int .i64 (st : Int), .slice A' fs.length cp'] 29)) := (Below.refl _ _).alloc (Nat.le_refl _) _
        have hB6 := hB5.trans (hb6.mono hB5.size)
        have q6 := (hb6.block _ (heap_lt q5)).trans q5
        have q7 : (w5.alloc (.cells #[.int .i64 (mi : Int), .int .i64 (st : Int), .slice A' fs.length cp'] 29)).heap[w5.heap.size]? = some (.cells #[.int .i64 (mi : Int), .int .i64 (st : Int), .slice A' fs.length cp'] 29 (0, 0)) := heap_alloc_new w5 _
        have HVa := Lib.hid (hV5.later hb6)
        have HVb := Lib.hid (hv'.later hb6)
        have hsz : ((fmtHL mi st fs).length : Int) = ((S (fmtHL mi st fs)).size : Int) := by rw [S_size]
        rw [hsz]
        have hfn : fs.length ≤ 9223372036854775807 := by omega
        have i1 : (to : Int) ≤ (a0.size : Int) := by omega
        have i2 : (100 : Int) ≤ (st : Int) := by omega
        have i3 : (st : Int) ≤ 599 := by omega
        have HS := Lib.hid (rSameH_c (mi : Int) (st : Int) _ _ fs hfn _ HVb.out HVa.out)
        clear hsz hH5 hL5 hv' hV5 hb5 hb6 q4 q5 hB4 hB5 a0' a1' a2' HV4 HM4 HP2 HSP hg2 hg3 hg5 hg6 hg7 hbl
        obtain ⟨a0', a1', a2'⟩ := cells3' q6
        obtain ⟨b0', b1', b2'⟩ := cells3' q7
        clear q6 q7
        go_wp2_with fail
        refine HS.out.mono ?_
        rintro e w8 ⟨rfl, hb8⟩
        have hlt8 := World.block_lt_of_cell? _ _ a1'
        have k1 := (hb8.cell (p := ⟨w2.heap.size, 1, none⟩) hlt8).trans a1'
        have hB8 := hB6.trans (hb8.mono hB6.size)
        clear a0' a1' a2' b0' b1' b2' hb8
        go_wp2_with fail
        go_ret
        exact ⟨rfl, hB8⟩
end Go.Proofs.Ytegejmbkpdlekaa.headBack
