/- The statement Utf8textEncodes holds: for every number the law returns true. The walk. -/
import Derived.Test.YtgkcjpidekefoaaDoorRows
import Derived.WalkKit
import Derived.WalkSpells
import Derived.WalkLawsBesides
import Derived.ProofKit
import Derived.OpenShut
import Derived.ShutString
import Derived.ChangeOld
import Derived.Below
import Derived.Test.YtgkcjpidekefoaaDoorSane02
namespace Go.Proofs.YtgkcjpidekefoaaDoor.utf8textEncodes
open Go.ChangeShapes Go.WideShapes Go.ChangeAt Go.RowKit
open Go.ChangeMaps (open_string shut_string)
set_option linter.unusedVariables false

theorem own : ownKnob Tryd.prog.godebug = none := by kernel_rfl

set_option maxHeartbeats 400000 in
theorem walk (a0 : Int) (w0 : (Lit.int .i64 a0).wf = true) (w : World) (hf : Forms w) :
    Calls Tryd.prog 4 #[.int .i64 a0] w fun e w' => e = .returned (.bool true) ∧ Below w.heap.size w w' := by
  have hB := Below.refl w.heap.size w
  by_cases h : (decide (0 ≤ a0) && pointN a0.toNat) = true
  · have h' := h
    simp only [Bool.and_eq_true, decide_eq_true_eq] at h'
    obtain ⟨n, rfl⟩ : ∃ n : Nat, a0 = n := ⟨a0.toNat, by omega⟩
    have hp : pointN n = true := by simpa using h'.2
    have E1 := Lib.hid (encR_ok hp)
    have hz : (S (encL n) ++ ⟨#[122]⟩).data.toList.drop 0 = encL n ++ [122] := rfl
    have hd := enc_dec hp [122]
    have hl := encL_len n
    have hl1 : (S (encL n) ++ ⟨#[122]⟩).size ≤ 1000000 := by rw [← size_toList]; show (encL n ++ [122]).length ≤ _; simp; omega
    have hl2 : 0 < (S (encL n) ++ ⟨#[122]⟩).size := by rw [← size_toList]; show 0 < (encL n ++ [122]).length; simp
    have hD := Lib.hid (show decL ((S (encL n) ++ ⟨#[122]⟩).data.toList.drop 0) = some (n, (encL n).length) from hd)
    have hs := Lib.hid (S_size (encL n))
    have hs5 : (S (encL n)).size ≤ 4 := by rw [S_size]; omega
    clear h h' hp hz hd hl
    have hc1 := Lib.hid hl1
    have hc2 := Lib.hid hl2
    clear hl1 hl2
    go_enter Tryd.func4, Tryd.ntmps4
    go_wp2_with fail
    refine (sane02_c _ hf).mono ?_
    rintro e w1 ⟨rfl, hb⟩
    replace hB := hB.trans (hb.mono hB.size)
    clear hb
    go_wp2_with fail
    refine (encode_c _ _ (hf.go hB)).mono ?_
    rintro e w1 ⟨he, hb⟩
    obtain rfl := he.trans (ret_v E1.out.symm)
    clear he
    replace hB := hB.trans (hb.mono hB.size)
    clear hb
    go_wp2_with fail
    refine (rEncode_c _ _).mono ?_
    rintro e w1 ⟨he, hb⟩
    obtain rfl := he.trans (ret_v E1.out.symm)
    clear he
    replace hB := hB.trans (hb.mono hB.size)
    clear hb
    go_wp2_with fail
    refine (decode_c _ 0 hc1.out _ (hf.go hB) hc2.out).mono ?_
    rintro e w1 ⟨he, hb⟩
    rw [hD.out] at he
    obtain rfl := he
    replace hB := hB.trans (hb.mono hB.size)
    simp only [decR]
    go_wp2_with fail
    go_ret
    exact ⟨ret_b (by rw [hs.out]; simp), hB⟩
  · have E1 := Lib.hid (encR_bad (r := a0) (by simpa using h))
    clear h
    go_enter Tryd.func4, Tryd.ntmps4
    go_wp2_with fail
    refine (sane02_c _ hf).mono ?_
    rintro e w1 ⟨rfl, hb⟩
    replace hB := hB.trans (hb.mono hB.size)
    clear hb
    go_wp2_with fail
    refine (encode_c _ _ (hf.go hB)).mono ?_
    rintro e w1 ⟨he, hb⟩
    obtain rfl := he.trans (ret_v E1.out.symm)
    clear he
    replace hB := hB.trans (hb.mono hB.size)
    clear hb
    go_wp2_with fail
    refine (rEncode_c _ _).mono ?_
    rintro e w1 ⟨he, hb⟩
    obtain rfl := he.trans (ret_v E1.out.symm)
    clear he
    replace hB := hB.trans (hb.mono hB.size)
    clear hb
    go_wp2_with fail
    refine (decode_c _ 0 (by decide) _ (hf.go hB) (by decide)).mono ?_
    rintro e w1 ⟨he, hb⟩
    obtain rfl := he.trans (ret_v (a := decR 0 _) (b := .tuple #[.int .i64 122, .int .i64 1, .int .i64 0]) (by kernel_rfl))
    clear he
    replace hB := hB.trans (hb.mono hB.size)
    clear hb
    go_wp2_with fail
    go_ret
    exact ⟨rfl, hB⟩
end Go.Proofs.YtgkcjpidekefoaaDoor.utf8textEncodes
