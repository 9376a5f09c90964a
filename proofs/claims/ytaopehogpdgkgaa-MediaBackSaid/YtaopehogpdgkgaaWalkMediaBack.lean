/- The statement MediaBack holds: for every string the law returns true. The walk. -/
import Derived.Test.YtaopehogpdgkgaaRows
import Derived.WalkKit
import Derived.WalkSpells
import Derived.WalkLawsBesides
import Derived.ProofKit
import Derived.OpenShut
import Derived.ShutString
import Derived.ChangeOld
import Derived.Below
import Derived.Test.YtaopehogpdgkgaaMdBack
import Derived.Test.YtaopehogpdgkgaaRpAll
namespace Go.Proofs.Ytaopehogpdgkgaa.mediaBack
open Go.ChangeShapes Go.WideShapes Go.ChangeAt Go.RowKit
open Go.ChangeMaps (open_string shut_string)
set_option linter.unusedVariables false

theorem own : ownKnob Try.prog.godebug = none := by kernel_rfl

set_option maxRecDepth 100000 in
set_option maxHeartbeats 4000000 in
theorem walk (a0 : ByteArray) (w0 : a0.size ≤ maxLen) (w : World) :
    Calls Try.prog 5 #[.string a0] w fun e w' => e = .returned (.bool true) ∧ Below w.heap.size w w' := by
  have hB := Below.refl w.heap.size w
  by_cases h0 : 1000 < a0.size
  · have h0' : 1000 < (a0.size : Int) := by omega
    go_enter Try.func5, Try.ntmps5
    go_wp2_with fail
    refine (sane20_c _).mono ?_
    rintro e w1 ⟨rfl, hb⟩
    replace hB := hB.trans (hb.mono hB.size)
    clear hb
    go_wp2_with fail
    go_ret
    exact ⟨rfl, hB⟩
  · have h0' : ¬ 1000 < (a0.size : Int) := by omega
    obtain ⟨X, hX⟩ : ∃ X, mediaL a0.data.toList = X := ⟨_, rfl⟩
    have hP := mParse_c a0 (by omega)
    rw [hX] at hP
    have HP := Lib.hid hP
    have HX := Lib.hid hX
    clear hP hX
    cases X with
    | none =>
      go_enter Try.func5, Try.ntmps5
      go_wp2_with fail
      refine (sane20_c _).mono ?_
      rintro e w1 ⟨rfl, hb⟩
      replace hB := hB.trans (hb.mono hB.size)
      clear hb
      go_wp2_with fail
      refine (HP.out _).mono ?_
      rintro e w2 ⟨hH2, hb2⟩
      have hB2 := hB.trans (hb2.mono hB.size)
      obtain rfl : e = .returned (.tuple #[.agg #[.string ⟨#[]⟩, .string ⟨#[]⟩, .slice none 0 0], .int .i64 200]) := by
        rcases hH2 with ⟨_, he⟩ | ⟨_, _, _, _, hc, _⟩
        · exact he
        · cases hc
      clear hH2
      have hB3 : Below w.heap.size w (w2.alloc (.cells #[.string ⟨#[]⟩, .string ⟨#[]⟩, .slice none 0 0] 32)) := hB2.alloc hB2.size _
      have q0 : (w2.alloc (.cells #[.string ⟨#[]⟩, .string ⟨#[]⟩, .slice none 0 0] 32)).heap[w2.heap.size]? = some (.cells #[.string ⟨#[]⟩, .string ⟨#[]⟩, .slice none 0 0] 32 (0, 0)) := heap_alloc_new w2 _
      obtain ⟨a0', a1', a2', _, _, _⟩ := cells3m q0
      go_wp2_with fail
      go_ret
      exact ⟨rfl, hB3⟩
    | some y =>
      obtain ⟨a, b, fs⟩ := y
      obtain ⟨hg1, hg2, hg3, hg4⟩ := media_good HX.out
      have hml := media_le HX.out 0 a b fs rfl
      rw [size_toList] at hg4 hml
      obtain ⟨l1, l2, l3, l4⟩ := hml
      have hfl := fmtM_len a b fs
      have HB := Lib.hid (media_back HX.out)
      have hl2 : ∀ f ∈ fs, f.1.length ≤ 2000 ∧ f.2.length ≤ 2000 := fun f hf => by have := l4 f hf; omega
      have HP2 := Lib.hid (mParse_c (S (fmtML a b fs)) (by rw [S_size]; omega))
      have HWr := Lib.hid (show ∀ f ∈ fs, ∀ W, Calls Try.prog 29 #[.string (S f.2)] W fun e w' => e = .returned (.string (S (writeL f.2))) ∧ Below W.heap.size W w' from by
        intro f hf W
        have h := write_c (S f.2) (by rw [S_size]; have := (hl2 f hf).2; omega) W
        rw [S_list] at h
        exact h)
      have hab : a.length + b.length ≤ 100000 := by omega
      have hn1 : fs.length ≤ 1001 := by omega
      have hn2 : fs.length ≤ 9223372036854775807 := by omega
      have HHL := Lib.hid hl2
      clear hg1 hg2 hg3 hg4 l1 l2 l3 l4 hfl hl2
      go_enter Try.func5, Try.ntmps5
      go_wp2_with fail
      refine (sane20_c _).mono ?_
      rintro e w1 ⟨rfl, hb⟩
      replace hB := hB.trans (hb.mono hB.size)
      clear hb
      go_wp2_with fail
      refine (HP.out _).mono ?_
      rintro e w2 ⟨hH2, hb2⟩
      have hB2 := hB.trans (hb2.mono hB.size)
      obtain ⟨v, rfl, hL⟩ : ∃ v, e = .returned (.tuple #[.agg #[.string (S a), .string (S b), v], .int .i64 0]) ∧ Flds w2 w1.heap.size v fs := by
        rcases hH2 with ⟨hc, _⟩ | ⟨a', b', fs', v, hc, he, hL⟩
        · cases hc
        · injection hc with hc
          simp only [Prod.mk.injEq] at hc
          obtain ⟨rfl, rfl, rfl⟩ := hc
          exact ⟨v, he, hL⟩
      have hv := Rd.of_own hL
      have hb3 : Below w2.heap.size w2 (w2.alloc (.cells #[.string (S a), .string (S b), v] 32)) := (Below.refl _ _).alloc (Nat.le_refl _) _
      have hB3 := hB2.trans (hb3.mono hB2.size)
      have q0 : (w2.alloc (.cells #[.string (S a), .string (S b), v] 32)).heap[w2.heap.size]? = some (.cells #[.string (S a), .string (S b), v] 32 (0, 0)) := heap_alloc_new w2 _
      have hV3 := hv.later hb3
      obtain ⟨A, cp, rfl⟩ := hv.slice
      have HF := Lib.hid (mFormat_c a b _ fs hab hn1 HHL.out HWr.out _ hV3)
      have HV3 := Lib.hid hV3
      unfold medV at HF
      clear hH2 hL hv hb2 hb3 hV3 hB hB2
      obtain ⟨a0', a1', a2', _, _, _⟩ := cells3m q0
      go_wp2_with fail
      refine HF.out.mono ?_
      rintro e w4 ⟨rfl, hb4⟩
      have hB4 := hB3.trans (hb4.mono hB3.size)
      have q4 := (hb4.block _ (heap_lt q0)).trans q0
      have HV4 := Lib.hid (HV3.out.later hb4)
      clear hb4 a0' a1' a2' q0 hB3 HV3 HF
      go_wp2_with fail
      refine (HP2.out _).mono ?_
      rintro e w5 ⟨hH5, hb5⟩
      rw [S_list, HB.out] at hH5
      have hB5 := hB4.trans (hb5.mono hB4.size)
      obtain ⟨v2, rfl, hL⟩ : ∃ v2, e = .returned (.tuple #[.agg #[.string (S a), .string (S b), v2], .int .i64 0]) ∧ Flds w5 w4.heap.size v2 fs := by
        rcases hH5 with ⟨hc, _⟩ | ⟨a', b', fs', v, hc, he, hL⟩
        · cases hc
        · injection hc with hc
          simp only [Prod.mk.injEq] at hc
          obtain ⟨rfl, rfl, rfl⟩ := hc
          exact ⟨v, he, hL⟩
      have hv2 := Rd.of_own hL
      have q5 := (hb5.block _ (heap_lt q4)).trans q4
      have hV5 := HV4.out.later hb5
      have hb6 : Below w5.heap.size w5 (w5.alloc (.cells #[.string (S a), .string (S b), v2] 32)) := (Below.refl _ _).alloc (Nat.le_refl _) _
      have hB6 := hB5.trans (hb6.mono hB5.size)
      have q6 := (hb6.block _ (heap_lt q5)).trans q5
      have q7 : (w5.alloc (.cells #[.string (S a), .string (S b), v2] 32)).heap[w5.heap.size]? = some (.cells #[.string (S a), .string (S b), v2] 32 (0, 0)) := heap_alloc_new w5 _
      have HV6 := Lib.hid (hV5.later hb6)
      have HV7 := Lib.hid (hv2.later hb6)
      obtain ⟨A2, cp2, rfl⟩ := hv2.slice
      clear hH5 hL hv2 hb5 hb6 hV5 hB4 hB5 q4 q5 HV4 HB HX
      obtain ⟨a0', a1', a2', _, _, _⟩ := cells3m q6
      obtain ⟨b0', b1', b2', _, _, _⟩ := cells3m q7
      have HS := Lib.hid (rMSame_c a b _ _ fs hn2 _ HV6.out HV7.out)
      unfold medV at HS
      clear q6 q7 HV6 HV7
      go_wp2_with fail
      refine HS.out.mono ?_
      rintro e w8 ⟨rfl, hb8⟩
      have hB8 := hB6.trans (hb8.mono hB6.size)
      clear hB6 hb8
      go_wp2_with fail
      go_ret
      exact ⟨rfl, hB8⟩
end Go.Proofs.Ytaopehogpdgkgaa.mediaBack
