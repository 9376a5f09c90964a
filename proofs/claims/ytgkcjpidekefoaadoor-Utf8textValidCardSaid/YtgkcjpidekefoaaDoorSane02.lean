/- Contract of the sanity check of chapter 2: it returns true. -/
import Derived.Test.YtgkcjpidekefoaaDoorU8Dec
namespace Go.Proofs.YtgkcjpidekefoaaDoor
open Go.RowKit
set_option maxHeartbeats 400000 in
theorem sane02_c (w : World) (hf : Forms w) : Calls Tryd.prog 8 #[] w fun e w' => e = .returned (.bool true) ∧ Below w.heap.size w w' := by
  have hB := Below.refl w.heap.size w
  go_enter Tryd.func8, Tryd.ntmps8
  go_wp2_with fail
  refine (encode_c _ _ (hf.go hB)).mono ?_
  rintro e w1 ⟨he, hb⟩
  obtain rfl := he.trans (ret_v (a := encR 8364) (b := .tuple #[.string ⟨#[226, 130, 172]⟩, .int .i64 0]) (by kernel_rfl))
  clear he
  replace hB := hB.trans (hb.mono hB.size)
  clear hb
  go_wp2_with fail
  refine (decode_c _ 0 (by decide) _ (hf.go hB) (by decide)).mono ?_
  rintro e w1 ⟨he, hb⟩
  obtain rfl := he.trans (ret_v (a := decR 0 _) (b := .tuple #[.int .i64 0, .int .i64 0, .int .i64 7]) (by kernel_rfl))
  clear he
  replace hB := hB.trans (hb.mono hB.size)
  clear hb
  go_wp2_with fail
  refine (count_c _ (by decide) _ (hf.go hB)).mono ?_
  rintro e w1 ⟨he, hb⟩
  obtain rfl := he.trans (ret_i (b := 2) (by kernel_rfl))
  clear he
  replace hB := hB.trans (hb.mono hB.size)
  clear hb
  go_wp2_with fail
  refine (valid_c _ (by decide) _ (hf.go hB)).mono ?_
  rintro e w1 ⟨he, hb⟩
  obtain rfl := he.trans (ret_b (b := false) (by kernel_rfl))
  clear he
  replace hB := hB.trans (hb.mono hB.size)
  clear hb
  go_wp2_with fail
  go_ret
  exact ⟨rfl, hB⟩
end Go.Proofs.YtgkcjpidekefoaaDoor
