/- The statement HeadMany holds: for every number and flag the law returns true. The walk. -/
import Derived.Test.YtegejmbkpdlekaaRows
import Derived.WalkKit
import Derived.WalkSpells
import Derived.WalkLawsBesides
import Derived.ProofKit
import Derived.OpenShut
import Derived.ShutString
import Derived.ChangeOld
import Derived.Below
import Derived.Test.YtegejmbkpdlekaaHdRes
namespace Go.Proofs.Ytegejmbkpdlekaa.headMany
open Go.ChangeShapes Go.WideShapes Go.ChangeAt Go.RowKit
open Go.ChangeMaps (open_string shut_string)
set_option linter.unusedVariables false

theorem own : ownKnob Try.prog.godebug = none := by kernel_rfl

set_option maxRecDepth 100000 in
set_option maxHeartbeats 4000000 in
theorem walk (a0 : Int) (a1 : Bool) (w : World) (w0 : (Lit.int .u8 a0).wf = true) (M : Int) (hm : MaxAt M w) :
    Calls Try.prog 8 #[.int .u8 a0, .bool a1] w fun e w' => e = .returned (.bool true) ∧ Below w.heap.size w w' := by
  obtain ⟨h0, h1⟩ : 0 ≤ a0 ∧ a0 ≤ 255 := bounds_u8 w0
  clear w0
  have hB := Below.refl w.heap.size w
  have HM := Lib.hid hm
  clear hm
  obtain ⟨q, hq5, hq⟩ : ∃ q : Nat, q < 5 ∧ a0 % 5 = (q : Int) := ⟨(a0 % 5).toNat, by omega, by omega⟩
  have HY := Lib.hid (many18 ⟨q, hq5⟩ a1)
  go_enter Try.func8, Try.ntmps8
  go_wp2_with fail
  refine (sane18_c M _ HM.out).mono ?_
  rintro e w1 ⟨rfl, hb⟩
  replace hB := hB.trans (hb.mono hB.size)
  have hlt := HM.out.lt
  replace HM := Lib.hid (HM.out.below (HM.out.lt) hb)
  clear hb
  go_wp2_with fail
  go_loop [6, 7] (fun u6 u7 => ∃ i : Nat, i ≤ 62 + q ∧ u7 = .int .i64 (i : Int) ∧ u6 = .string (S (manyL i))) (fun _ u7 => 62 + q - (intOf u7).toNat)
  case atStart => exact ⟨0, by omega, rfl, rfl⟩
  case round =>
    obtain ⟨i, hi, rfl, rfl⟩ := hrel
    by_cases hlt : i < 62 + q
    · have hl : (S (manyL i)).size ≤ 1000 := by rw [S_size, manyL_len]; omega
      go_wp2_with fail
      go_round
      case rel => exact ⟨i + 1, by omega, by go_num, many_snoc i⟩
      case measure => simp [intOf]; omega
    · obtain rfl : i = 62 + q := by omega
      cases a1 with
      | false =>
        have hT : S (manyL (62 + q)) ++ ⟨#[13, 10]⟩ = S (manyT (62 + q) false) := rfl
        have hl : (S (manyL (62 + q))).size ≤ 1000 := by rw [S_size, manyL_len]; omega
        have HT := Lib.hid hT
        clear hT
        go_wp2_with fail
        rw [HT.out]
        refine (hParse_c (S (manyT (62 + q) false)) (by have := manyT_len (62 + q) false; rw [S_size]; omega) M _ HM.out).mono ?_
        rintro e w2 ⟨hH2, hb2⟩
        have hB2 := hB.trans (hb2.mono hB.size)
        obtain ⟨c, mi, st, fs, to, v, rfl, hX, hv, hf⟩ := hr_parts hH2
        obtain ⟨A, cp, rfl⟩ := hv.slice
        have hY := HY.out
        rw [S_list] at hX
        rw [hX] at hY
        obtain ⟨hc, hl, hmi⟩ := hY
        simp only at hc hl hmi
        subst hmi
        have hb3 : Below w2.heap.size w2 (w2.alloc (.cells #[.int .i64 ((0 : Nat) : Int), .int .i64 (st : Int), .slice A fs.length cp] 29)) := (Below.refl _ _).alloc (Nat.le_refl _) _
        have hB3 := hB2.trans (hb3.mono hB2.size)
        clear hX hv hH2 HY hb2 hb3 hB2
        by_cases h2 : 2 < q
        · rw [if_pos (by first | (simp; done) | (simp; omega))] at hc
          rw [if_pos (by first | (simp; done) | (simp; omega))] at hl
          subst hc
          generalize fs.length = n at *
          subst hl
          have hcast : ((62 + q : Nat) : Int) = 62 + (q : Int) := by omega
          go_wp2_with fail
          go_ret
          exact ⟨rfl, hB3⟩
        · rw [if_neg (by first | (simp; done) | (simp; omega)), if_neg (by simp)] at hc
          rw [if_neg (by first | (simp; done) | (simp; omega))] at hl
          subst hc
          generalize fs.length = n at *
          subst hl
          have hcast : ((62 + q : Nat) : Int) = 62 + (q : Int) := by omega
          go_wp2_with fail
          go_ret
          exact ⟨rfl, hB3⟩
      | true =>
        have hT : S (manyL (62 + q)) ++ ⟨#[32, 102, 111, 108, 100, 101, 100, 13, 10]⟩ ++ ⟨#[13, 10]⟩ = S (manyT (62 + q) true) := rfl
        have hl : (S (manyL (62 + q))).size ≤ 1000 := by rw [S_size, manyL_len]; omega
        have HT := Lib.hid hT
        clear hT
        go_wp2_with fail
        rw [HT.out]
        refine (hParse_c (S (manyT (62 + q) true)) (by have := manyT_len (62 + q) true; rw [S_size]; omega) M _ HM.out).mono ?_
        rintro e w2 ⟨hH2, hb2⟩
        have hB2 := hB.trans (hb2.mono hB.size)
        obtain ⟨c, mi, st, fs, to, v, rfl, hX, hv, hf⟩ := hr_parts hH2
        obtain ⟨A, cp, rfl⟩ := hv.slice
        have hY := HY.out
        rw [S_list] at hX
        rw [hX] at hY
        obtain ⟨hc, hl, hmi⟩ := hY
        simp only at hc hl hmi
        subst hmi
        have hb3 : Below w2.heap.size w2 (w2.alloc (.cells #[.int .i64 ((0 : Nat) : Int), .int .i64 (st : Int), .slice A fs.length cp] 29)) := (Below.refl _ _).alloc (Nat.le_refl _) _
        have hB3 := hB2.trans (hb3.mono hB2.size)
        clear hX hv hH2 HY hb2 hb3 hB2
        by_cases h2 : 2 ≤ q
        · rw [if_pos (by first | (simp; done) | (simp; omega))] at hc
          rw [if_pos (by first | (simp; done) | (simp; omega))] at hl
          have h3' : q = 2 ∨ 2 < q := by omega
          rcases h3' with rfl | h3'
          · subst hc
            generalize fs.length = n at *
            subst hl
            go_wp2_with fail
            go_ret
            exact ⟨rfl, hB3⟩
          · subst hc
            generalize fs.length = n at *
            subst hl
            have hcast : ((62 + q : Nat) : Int) = 62 + (q : Int) := by omega
            go_wp2_with fail
            go_ret
            exact ⟨rfl, hB3⟩
        · rw [if_neg (by first | (simp; done) | (simp; omega)), if_pos (by simp)] at hc
          rw [if_pos (by first | (simp; done) | (simp; omega))] at hl
          have hd2 : ((62 + (q : Int)) == 64) = false := by rw [beq_eq_false_iff_ne]; omega
          have hd1 : decide ((64 : Int) < 62 + (q : Int)) = false := by rw [decide_eq_false_iff_not]; omega
          subst hc
          generalize fs.length = n at *
          subst hl
          have hcast : ((62 + q : Nat) : Int) = 62 + (q : Int) := by omega
          go_wp2_with fail
          go_ret
          exact ⟨rfl, hB3⟩
end Go.Proofs.Ytegejmbkpdlekaa.headMany
