/- Contract of the sanity check of chapter 1: it returns true. -/
import Derived.Test.YtgkcjpidekefoaaStrs
namespace Go.Proofs.Ytgkcjpidekefoaa
open Go.RowKit
set_option maxHeartbeats 400000 in
theorem sane01_c (w : World) : Calls Try.prog 14 #[] w fun e w' => e = .returned (.bool true) ∧ Below w.heap.size w w' := by
  go_enter Try.func14, Try.ntmps14
  go_wp2_with fail
  refine (lower_c _ (by decide) _).mono ?_
  rintro e w1 ⟨he, hb1⟩
  obtain rfl := he.trans (ret_s (b := ⟨#[97, 98, 99, 45, 122]⟩) (by kernel_rfl))
  clear he
  go_wp2_with fail
  refine (trim_c _ (by decide) _).mono ?_
  rintro e w' ⟨he, rfl⟩
  obtain rfl := he.trans (ret_s (b := ⟨#[97, 32, 98]⟩) (by kernel_rfl))
  clear he
  go_wp2_with fail
  refine (isPchar_c _ (by decide) (by decide) _).mono ?_
  rintro e w' ⟨he, rfl⟩
  obtain rfl := he.trans (ret_b (b := false) (by kernel_rfl))
  clear he
  go_wp2_with fail
  refine (isToken_c _ (by decide) (by decide) _).mono ?_
  rintro e w' ⟨he, rfl⟩
  obtain rfl := he.trans (ret_b (b := true) (by kernel_rfl))
  clear he
  go_wp2_with fail
  refine (digits_c _ (by decide) _).mono ?_
  rintro e w' ⟨he, rfl⟩
  obtain rfl := he.trans (ret_b (b := true) (by kernel_rfl))
  clear he
  go_wp2_with fail
  refine (digits_c _ (by decide) _).mono ?_
  rintro e w' ⟨he, rfl⟩
  obtain rfl := he.trans (ret_b (b := false) (by kernel_rfl))
  clear he
  go_wp2_with fail
  go_ret
  exact ⟨rfl, hb1⟩
end Go.Proofs.Ytgkcjpidekefoaa
