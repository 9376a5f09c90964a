/- The statement Utf8textShortest holds: for every string and offset the law returns true. The walk. -/
import Derived.Test.YtgkcjpidekefoaaDoorRows
import Derived.WalkKit
import Derived.WalkSpells
import Derived.WalkLawsBesides
import Derived.ProofKit
import Derived.OpenShut
import Derived.ShutString
import Derived.ChangeOld
import Derived.Below
import Derived.Test.YtgkcjpidekefoaaDoorSane02
namespace Go.Proofs.YtgkcjpidekefoaaDoor.utf8textShortest
open Go.ChangeShapes Go.WideShapes Go.ChangeAt Go.RowKit
open Go.ChangeMaps (open_string shut_string)
set_option linter.unusedVariables false

theorem own : ownKnob Tryd.prog.godebug = none := by kernel_rfl

set_option maxHeartbeats 400000 in
theorem walk (a0 : ByteArray) (a1 : Int) (w0 : a0.size ≤ maxLen) (w1 : (Lit.int .u8 a1).wf = true) (w : World) (hf : Forms w) :
    Calls Tryd.prog 6 #[.string a0, .int .u8 a1] w fun e w' => e = .returned (.bool true) ∧ Below w.heap.size w w' := by
  unfold maxLen at w0
  obtain ⟨c0, c1⟩ : 0 ≤ a1 ∧ a1 ≤ 255 := bounds_u8 w1
  clear w1
  have hB := Below.refl w.heap.size w
  by_cases h0 : 300 < a0.size
  · go_enter Tryd.func6, Tryd.ntmps6
    go_wp2_with fail
    refine (sane02_c _ hf).mono ?_
    rintro e w1 ⟨rfl, hb⟩
    replace hB := hB.trans (hb.mono hB.size)
    clear hb
    go_wp2_with fail
    go_ret
    exact ⟨rfl, hB⟩
  · obtain ⟨n, rfl⟩ : ∃ n : Nat, a1 = n := ⟨a1.toNat, by omega⟩
    by_cases hin : n < a0.size
    · cases hd : decL (a0.data.toList.drop n) with
      | none =>
        have HC := fun w hf => Lib.hid (decode_c a0 n (by omega) w hf hin)
        rw [hd] at HC
        clear hd
        go_enter Tryd.func6, Tryd.ntmps6
        go_wp2_with fail
        refine (sane02_c _ hf).mono ?_
        rintro e w1 ⟨rfl, hb⟩
        replace hB := hB.trans (hb.mono hB.size)
        clear hb
        go_wp2_with fail
        refine ((HC _ (hf.go hB)).out).mono ?_
        rintro e w1 ⟨rfl, hb⟩
        replace hB := hB.trans (hb.mono hB.size)
        clear hb
        simp only [decR]
        go_wp2_with fail
        go_ret
        exact ⟨rfl, hB⟩
      | some x =>
        obtain ⟨r, k⟩ := x
        obtain ⟨k1, k2, _, _⟩ := dec_inv hd
        rw [List.length_drop, size_toList] at k2
        obtain ⟨hp, he⟩ := dec_enc hd
        have HP := Lib.hid hp
        have hq : ((a0.extract n (n + k)).toList == (S (encL r)).toList) = true := by
          rw [S_toList, ByteArray.toList_eq, sub_list, he]; simp
        have HQ := Lib.hid hq
        have HC := fun w hf => Lib.hid (decode_c a0 n (by omega) w hf hin)
        rw [hd] at HC
        have hn2 : (n : Int) < n + k := by omega
        clear hd hp he hq
        go_enter Tryd.func6, Tryd.ntmps6
        go_wp2_with fail
        refine (sane02_c _ hf).mono ?_
        rintro e w1 ⟨rfl, hb⟩
        replace hB := hB.trans (hb.mono hB.size)
        clear hb
        go_wp2_with fail
        refine ((HC _ (hf.go hB)).out).mono ?_
        rintro e w1 ⟨rfl, hb⟩
        replace hB := hB.trans (hb.mono hB.size)
        clear hb
        simp only [decR]
        go_wp2_with fail
        refine (encode_c _ _ (hf.go hB)).mono ?_
        rintro e w1 ⟨he, hb⟩
        obtain rfl := he.trans (ret_v (encR_ok HP.out).symm)
        clear he
        replace hB := hB.trans (hb.mono hB.size)
        clear hb
        have hq' := HQ.out
        go_wp2_with fail
        go_ret
        exact ⟨rfl, hB⟩
    · have hT := Lib.hid (decT_out (s := a0) (a := (n : Int)) (by omega))
      go_enter Tryd.func6, Tryd.ntmps6
      go_wp2_with fail
      refine (sane02_c _ hf).mono ?_
      rintro e w1 ⟨rfl, hb⟩
      replace hB := hB.trans (hb.mono hB.size)
      clear hb
      go_wp2_with fail
      refine (decodeA_c _ _ (by omega) _ (hf.go hB)).mono ?_
      rw [hT.out]
      rintro e w1 ⟨rfl, hb⟩
      replace hB := hB.trans (hb.mono hB.size)
      clear hb
      go_wp2_with fail
      go_ret
      exact ⟨rfl, hB⟩
end Go.Proofs.YtgkcjpidekefoaaDoor.utf8textShortest
