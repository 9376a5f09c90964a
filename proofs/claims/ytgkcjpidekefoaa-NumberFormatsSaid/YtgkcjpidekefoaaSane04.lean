/- Contract of the sanity check of chapter 4: it returns true. -/
import Derived.Test.YtgkcjpidekefoaaStrict
import Derived.Test.YtgkcjpidekefoaaFormat
namespace Go.Proofs.Ytgkcjpidekefoaa
open Go.RowKit
theorem U_of {a : Int} (h0 : 0 ≤ a) (h1 : a ≤ 1000) : U a := ⟨h0, by omega⟩
theorem sat_max : satA 18446744073709551615 1 = 18446744073709551615 := by unfold satA; rw [if_pos (by omega)]
theorem U_max : U 18446744073709551615 := by unfold U; omega
set_option maxRecDepth 100000 in
set_option maxHeartbeats 1000000 in
theorem sane04_c (w : World) : Calls Try.prog 37 #[] w fun e w' => e = .returned (.bool true) ∧ Below w.heap.size w w' := by
  have hB := Below.refl w.heap.size w
  go_enter Try.func37, Try.ntmps37
  go_wp2_with fail
  refine (nParse_c _ (by decide) 9 (U_of (by omega) (by omega)) _).mono ?_
  rintro e w' ⟨he, rfl⟩
  obtain rfl := he.trans (ret_v (b := .tuple #[.int .u64 7, .int .i64 0]) (by kernel_rfl))
  clear he
  go_wp2_with fail
  refine (strict_c _ (by decide) 9 (U_of (by omega) (by omega)) _).mono ?_
  rintro e w' ⟨he, rfl⟩
  obtain rfl := he.trans (ret_v (b := .tuple #[.int .u64 0, .int .i64 6]) (by kernel_rfl))
  clear he
  go_wp2_with fail
  refine (nParse_c _ (by decide) 9 (U_of (by omega) (by omega)) _).mono ?_
  rintro e w' ⟨he, rfl⟩
  obtain rfl := he.trans (ret_v (b := .tuple #[.int .u64 0, .int .i64 4]) (by kernel_rfl))
  clear he
  go_wp2_with fail
  refine (add_c _ _ U_max (U_of (by omega) (by omega)) _).mono ?_
  rintro e w' ⟨he, rfl⟩
  obtain rfl := he.trans (ret_i sat_max)
  clear he
  go_wp2_with fail
  refine (format_c 0 (U_of (by omega) (by omega)) _).mono ?_
  rintro e w1 ⟨he, hb⟩
  obtain rfl := he.trans (ret_s (b := ⟨#[48]⟩) (by kernel_rfl))
  clear he
  replace hB := hB.trans (hb.mono hB.size)
  clear hb
  go_wp2_with fail
  go_ret
  exact ⟨rfl, hB⟩
end Go.Proofs.Ytgkcjpidekefoaa
