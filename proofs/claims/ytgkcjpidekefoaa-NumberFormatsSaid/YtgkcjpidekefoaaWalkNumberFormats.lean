/- The statement NumberFormats holds: for every number the law returns true. The walk. -/
import Derived.Test.YtgkcjpidekefoaaRows
import Derived.WalkKit
import Derived.WalkSpells
import Derived.WalkLawsBesides
import Derived.ProofKit
import Derived.OpenShut
import Derived.ShutString
import Derived.ChangeOld
import Derived.Below
import Derived.Test.YtgkcjpidekefoaaSane04
namespace Go.Proofs.Ytgkcjpidekefoaa.numberFormats
open Go.ChangeShapes Go.WideShapes Go.ChangeAt Go.RowKit
open Go.ChangeMaps (open_string shut_string)
set_option linter.unusedVariables false

theorem own : ownKnob Try.prog.godebug = none := by kernel_rfl
theorem u64_U {a : Int} (h : (Lit.int .u64 a).wf = true) : U a := bounds_u64 h

set_option maxHeartbeats 400000 in
theorem walk (a0 : Int) (w0 : (Lit.int .u64 a0).wf = true) (w : World) :
    Calls Try.prog 6 #[.int .u64 a0] w fun e w' => e = .returned (.bool true) ∧ Below w.heap.size w w' := by
  have hu := u64_U w0
  obtain ⟨n, rfl⟩ : ∃ n : Nat, a0 = n := ⟨a0.toNat, by have := hu.1; omega⟩
  have HU := Lib.hid hu
  have HS := Lib.hid (strict_fmt (n := n) (by unfold U at hu; rw [pw19]; omega))
  have hcat : (⟨#[48]⟩ : ByteArray) ++ S (fmtL n) = S (48 :: fmtL n) := by apply ByteArray.ext; apply Array.toList_inj.1; simp [S]
  have HC := Lib.hid hcat
  have hl := fmtL_len n
  have hz : (S (fmtL n)).size ≤ 20 := by rw [S_size]; exact hl
  have HZ2 := Lib.hid (show (S (48 :: fmtL n)).size ≤ 1000000 from by rw [S_size]; simp; omega)
  have HZ := Lib.hid (strict_zero n 18446744073709551615)
  clear w0 hu hcat hl
  have hB := Below.refl w.heap.size w
  go_enter Try.func6, Try.ntmps6
  go_wp2_with fail
  refine (sane04_c _).mono ?_
  rintro e w1 ⟨rfl, hb⟩
  replace hB := hB.trans (hb.mono hB.size)
  clear hb
  go_wp2_with fail
  refine (format_c n HU.out _).mono ?_
  rintro e w1 ⟨rfl, hb⟩
  replace hB := hB.trans (hb.mono hB.size)
  clear hb
  go_wp2_with fail
  refine (strict_c _ (by omega) n HU.out _).mono ?_
  rintro e w' ⟨he, rfl⟩
  obtain rfl := he.trans (ret_v (b := .tuple #[.int .u64 n, .int .i64 0]) (by rw [S_list, HS.out]; rfl))
  clear he
  go_wp2_with fail
  rw [HC.out]
  refine (strict_c (S (48 :: fmtL n)) HZ2.out 18446744073709551615 U_max _).mono ?_
  rintro e w' ⟨he, rfl⟩
  obtain rfl := he.trans (ret_v (b := .tuple #[.int .u64 0, .int .i64 6]) (by rw [S_list, HZ.out]; rfl))
  clear he
  go_wp2_with fail
  refine (rFormat_c n HU.out _).mono ?_
  rintro e w1 ⟨rfl, hb⟩
  replace hB := hB.trans (hb.mono hB.size)
  clear hb
  go_wp2_with fail
  go_ret
  exact ⟨rfl, hB⟩
end Go.Proofs.Ytgkcjpidekefoaa.numberFormats
