/- The statement FreshBounded holds: for every value and every two numbers the law returns true. The walk. -/
import Derived.Test.YtegejmbkpdlekaaRows
import Derived.WalkKit
import Derived.WalkSpells
import Derived.WalkLawsBesides
import Derived.ProofKit
import Derived.OpenShut
import Derived.ShutString
import Derived.ChangeOld
import Derived.Below
import Derived.Test.YtegejmbkpdlekaaFBound
namespace Go.Proofs.Ytegejmbkpdlekaa.freshBounded
open Go.ChangeShapes Go.WideShapes Go.ChangeAt Go.RowKit
open Go.ChangeMaps (open_string shut_string)
set_option linter.unusedVariables false

theorem own : ownKnob Try.prog.godebug = none := by kernel_rfl

theorem fresh_parts (x : Nat) : ∃ (b : Bool) (q : Int), freshV x = .agg #[.bool b, .int .u64 q] ∧ decide (0 < x) = b ∧ (x : Int) = q := ⟨_, _, rfl, rfl, rfl⟩
theorem wrap_nat (a : Int) : ∃ o : Nat, IntKind.u64.wrap a = (o : Int) ∧ o ≤ maxU := by
  refine ⟨(IntKind.u64.wrap a).toNat, ?_, ?_⟩
  · rw [IntKind.wrap_u64]; omega
  · rw [IntKind.wrap_u64]; unfold maxU; omega
set_option maxRecDepth 100000 in
set_option maxHeartbeats 4000000 in
theorem walk (a0 : ByteArray) (a1 : Int) (a2 : Int) (w : World) (w0 : a0.size ≤ maxLen) (w1 : (Lit.int .u64 a1).wf = true) (w2 : (Lit.int .u64 a2).wf = true) :
    Calls Try.prog 6 #[.string a0, .int .u64 a1, .int .u64 a2] w fun e w' => e = .returned (.bool true) ∧ Below w.heap.size w w' := by
  have hB := Below.refl w.heap.size w
  obtain ⟨n, rfl, hn⟩ : ∃ n : Nat, a1 = (n : Int) ∧ n ≤ maxU := by
    have h : U a1 := bounds_u64 w1
    unfold U at h
    exact ⟨a1.toNat, by omega, by unfold maxU; omega⟩
  obtain ⟨ow, hw, hm⟩ := wrap_nat ((n : Int) + a2)
  have HN := Lib.hid hn
  clear w0 w1 w2 hn
  by_cases h5 : 500 < a0.size
  · clear hw hm
    go_enter Try.func6, Try.ntmps6
    go_wp2_with fail
    refine (sane21_c _).mono ?_
    rintro e w1 ⟨rfl, hb⟩
    replace hB := hB.trans (hb.mono hB.size)
    clear hb
    go_wp2_with fail
    go_ret
    exact ⟨rfl, hB⟩
  · by_cases hlt : ow < n
    · have HM := HN
      clear hm
      obtain ⟨x, y, hyx, hx, f1, f2⟩ := bound_facts a0 (by omega) n n HN.out HM.out (Nat.le_refl _)
      have H1 := Lib.hid f1
      have H2 := Lib.hid f2
      have HU1 := Lib.hid (U_nat HN.out)
      have HU2 := Lib.hid (U_nat HM.out)
      clear f1 f2
      go_enter Try.func6, Try.ntmps6
      go_wp2_with fail
      refine (sane21_c _).mono ?_
      rintro e w1 ⟨rfl, hb⟩
      replace hB := hB.trans (hb.mono hB.size)
      clear hb
      go_wp2_with fail
      refine (lawDigits_c n HU1.out _).mono ?_
      rintro e w2 ⟨rfl, hb⟩
      replace hB := hB.trans (hb.mono hB.size)
      clear hb
      go_wp2_with fail
      refine (heads_c a0 (S (fmtL n)) _).mono ?_
      rintro e w3 ⟨A1, c1, rfl, hR1, hb⟩
      replace hB := hB.trans (hb.mono hB.size)
      clear hb
      go_wp2_with fail
      refine (H1.out _ _ _ hR1).mono ?_
      rintro e w4 ⟨he1, hb⟩
      replace hB := hB.trans (hb.mono hB.size)
      clear hb hR1
      obtain ⟨b1, x1, hv1, hb1, hx1⟩ := fresh_parts x
      rw [hv1] at he1
      subst he1
      clear hv1
      go_wp2_with fail
      refine (lawDigits_c n HU2.out _).mono ?_
      rintro e w5 ⟨rfl, hb⟩
      replace hB := hB.trans (hb.mono hB.size)
      clear hb
      go_wp2_with fail
      refine (heads_c a0 (S (fmtL n)) _).mono ?_
      rintro e w6 ⟨A2, c2, rfl, hR2, hb⟩
      replace hB := hB.trans (hb.mono hB.size)
      clear hb
      go_wp2_with fail
      refine (H2.out _ _ _ hR2).mono ?_
      rintro e w7 ⟨he2, hb⟩
      replace hB := hB.trans (hb.mono hB.size)
      clear hb hR2
      obtain ⟨b2, y2, hv2, hb2, hy2⟩ := fresh_parts y
      rw [hv2] at he2
      subst he2
      clear hv2
      subst hb1 hx1 hb2 hy2
      by_cases hx0 : 0 < x
      · by_cases hy0 : 0 < y
        · have d1 : decide (0 < x) = true := decide_eq_true hx0
          have d2 : decide (0 < y) = true := decide_eq_true hy0
          rw [d1, d2] at *
          clear d1 d2
          go_wp2_with fail
          go_ret
          exact ⟨rfl, (hB.alloc hB.size _).alloc (by have := hB.size; simp; omega) _⟩
        · obtain rfl : y = 0 := by omega
          have d1 : decide (0 < x) = true := decide_eq_true hx0
          rw [d1] at *
          clear d1
          go_wp2_with fail
          go_ret
          exact ⟨rfl, (hB.alloc hB.size _).alloc (by have := hB.size; simp; omega) _⟩
      · obtain rfl : x = 0 := by omega
        obtain rfl : y = 0 := by omega
        go_wp2_with fail
        go_ret
        exact ⟨rfl, (hB.alloc hB.size _).alloc (by have := hB.size; simp; omega) _⟩
    · have HM := Lib.hid hm
      clear hm
      obtain ⟨x, y, hyx, hx, f1, f2⟩ := bound_facts a0 (by omega) n ow HN.out HM.out (Nat.le_of_not_lt hlt)
      have H1 := Lib.hid f1
      have H2 := Lib.hid f2
      have HU1 := Lib.hid (U_nat HN.out)
      have HU2 := Lib.hid (U_nat HM.out)
      clear f1 f2
      go_enter Try.func6, Try.ntmps6
      go_wp2_with fail
      refine (sane21_c _).mono ?_
      rintro e w1 ⟨rfl, hb⟩
      replace hB := hB.trans (hb.mono hB.size)
      clear hb
      go_wp2_with fail
      refine (lawDigits_c n HU1.out _).mono ?_
      rintro e w2 ⟨rfl, hb⟩
      replace hB := hB.trans (hb.mono hB.size)
      clear hb
      go_wp2_with fail
      refine (heads_c a0 (S (fmtL n)) _).mono ?_
      rintro e w3 ⟨A1, c1, rfl, hR1, hb⟩
      replace hB := hB.trans (hb.mono hB.size)
      clear hb
      go_wp2_with fail
      refine (H1.out _ _ _ hR1).mono ?_
      rintro e w4 ⟨he1, hb⟩
      replace hB := hB.trans (hb.mono hB.size)
      clear hb hR1
      obtain ⟨b1, x1, hv1, hb1, hx1⟩ := fresh_parts x
      rw [hv1] at he1
      subst he1
      clear hv1
      go_wp2_with fail
      refine (lawDigits_c ow HU2.out _).mono ?_
      rintro e w5 ⟨rfl, hb⟩
      replace hB := hB.trans (hb.mono hB.size)
      clear hb
      go_wp2_with fail
      refine (heads_c a0 (S (fmtL ow)) _).mono ?_
      rintro e w6 ⟨A2, c2, rfl, hR2, hb⟩
      replace hB := hB.trans (hb.mono hB.size)
      clear hb
      go_wp2_with fail
      refine (H2.out _ _ _ hR2).mono ?_
      rintro e w7 ⟨he2, hb⟩
      replace hB := hB.trans (hb.mono hB.size)
      clear hb hR2
      obtain ⟨b2, y2, hv2, hb2, hy2⟩ := fresh_parts y
      rw [hv2] at he2
      subst he2
      clear hv2
      subst hb1 hx1 hb2 hy2
      by_cases hx0 : 0 < x
      · by_cases hy0 : 0 < y
        · have d1 : decide (0 < x) = true := decide_eq_true hx0
          have d2 : decide (0 < y) = true := decide_eq_true hy0
          rw [d1, d2] at *
          clear d1 d2
          go_wp2_with fail
          go_ret
          exact ⟨rfl, (hB.alloc hB.size _).alloc (by have := hB.size; simp; omega) _⟩
        · obtain rfl : y = 0 := by omega
          have d1 : decide (0 < x) = true := decide_eq_true hx0
          rw [d1] at *
          clear d1
          go_wp2_with fail
          go_ret
          exact ⟨rfl, (hB.alloc hB.size _).alloc (by have := hB.size; simp; omega) _⟩
      · obtain rfl : x = 0 := by omega
        obtain rfl : y = 0 := by omega
        go_wp2_with fail
        go_ret
        exact ⟨rfl, (hB.alloc hB.size _).alloc (by have := hB.size; simp; omega) _⟩
end Go.Proofs.Ytegejmbkpdlekaa.freshBounded
