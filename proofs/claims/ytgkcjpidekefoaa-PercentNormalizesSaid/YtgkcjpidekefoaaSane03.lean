/- Contract of the sanity check of chapter 3: it returns true. Parts of what the functions answer. -/
import Derived.Test.YtgkcjpidekefoaaPctNormRef
import Derived.Test.YtgkcjpidekefoaaPctLaws
namespace Go.Proofs.Ytgkcjpidekefoaa
open Go.RowKit
theorem resV_parts (x : Except Nat (List UInt8)) : ∃ (t : ByteArray) (e : Nat), resV x = .tuple #[.string t, .int .i64 e] := by
  cases x with
  | ok r => exact ⟨_, 0, rfl⟩
  | error e => exact ⟨_, e, rfl⟩
theorem decV_parts (s : ByteArray) : ∃ (t : ByteArray) (e : Nat), decV s = .tuple #[.string t, .int .i64 e] := by
  unfold decV; split
  · exact ⟨_, 5, rfl⟩
  · exact resV_parts _
theorem normV_parts (a s : ByteArray) : ∃ (t : ByteArray) (e : Nat), normV a s = .tuple #[.string t, .int .i64 e] := by
  unfold normV; split
  · exact ⟨_, 5, rfl⟩
  · exact resV_parts _
theorem encV_enc (k s : ByteArray) : encV k s = .string (S (encL k.data.toList s.data.toList)) := encV_ok (enc_ok _ _)
set_option maxRecDepth 100000 in
set_option maxHeartbeats 1000000 in
theorem sane03_c (w : World) : Calls Try.prog 50 #[] w fun e w' => e = .returned (.bool true) ∧ Below w.heap.size w w' := by
  have hB := Below.refl w.heap.size w
  go_enter Try.func50, Try.ntmps50
  go_wp2_with fail
  refine (pnorm_c _ _ _).mono ?_
  rintro e w1 ⟨he, hb⟩
  obtain rfl := he.trans (ret_v (b := .tuple #[.string ⟨#[126, 37, 50, 70, 65]⟩, .int .i64 0]) (by kernel_rfl))
  clear he
  replace hB := hB.trans (hb.mono hB.size)
  clear hb
  go_wp2_with fail
  refine (pencode_c _ _ (by decide) _).mono ?_
  rintro e w1 ⟨he, hb⟩
  obtain rfl := he.trans (ret_v (b := .string ⟨#[97, 37, 50, 48, 98, 47, 37, 69, 52]⟩) (by kernel_rfl))
  clear he
  replace hB := hB.trans (hb.mono hB.size)
  clear hb
  go_wp2_with fail
  go_ret
  exact ⟨rfl, hB⟩
end Go.Proofs.Ytgkcjpidekefoaa
