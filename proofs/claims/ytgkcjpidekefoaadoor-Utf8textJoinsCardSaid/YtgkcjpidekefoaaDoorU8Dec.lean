/- Contracts of Decode of the reference, Count and Valid of both (chapter 2). -/
import Derived.Test.YtgkcjpidekefoaaDoorU8Val
namespace Go.Proofs.YtgkcjpidekefoaaDoor
open Go.RowKit

section
variable {s : ByteArray} {at_ n : Nat} {X : Option (Nat × Nat)}
theorem ref_none (h : ¬ (n ≤ 4 ∧ at_ + n ≤ s.size)) (ha : at_ ≤ s.size) (hn : n ≤ 5) (H : refF (5 - n) (s.data.toList.drop at_) n = X) : X = none := by
  rw [← H]
  by_cases h4 : n ≤ 4
  · rw [show 5 - n = (4 - n) + 1 by omega]
    simp only [refF]
    rw [if_neg (by rw [List.length_drop, size_toList]; omega)]
  · rw [show 5 - n = 0 by omega]; rfl
theorem ref_good (h4 : n ≤ 4) (h : at_ + n ≤ s.size) (hg : goodL ((s.data.toList.drop at_).take n) = true) (H : refF (5 - n) (s.data.toList.drop at_) n = X) : X = some (valL ((s.data.toList.drop at_).take n), n) := by
  rw [← H, show 5 - n = (4 - n) + 1 by omega]
  simp only [refF, hg, if_true]
  rw [if_pos (by rw [List.length_drop, size_toList]; omega)]
theorem ref_next (h4 : n ≤ 4) (h : at_ + n ≤ s.size) (hg : goodL ((s.data.toList.drop at_).take n) = false) (H : refF (5 - n) (s.data.toList.drop at_) n = X) : refF (5 - (n + 1)) (s.data.toList.drop at_) (n + 1) = X := by
  rw [← H, show 5 - n = (4 - n) + 1 by omega, show 5 - (n + 1) = 4 - n by omega]
  conv => rhs; simp only [refF, hg]
  rw [if_pos (by rw [List.length_drop, size_toList]; omega)]
  rfl
theorem sub_list : (s.extract at_ (at_ + n)).data.toList = (s.data.toList.drop at_).take n := by
  rw [Lib.extract_data]; simp
theorem sub_size (h : at_ + n ≤ s.size) : (s.extract at_ (at_ + n)).size = n := by rw [ByteArray.size_extract]; omega
end
theorem dec_ret2 {at_ n r : Nat} {X : Option (Nat × Nat)} (h : X = some (r, n)) {a b : Int} (ha : a = r) (hb : b = at_ + n) : Ending.returned (.tuple #[.int .i64 a, .int .i64 b, .int .i64 0]) = .returned (decR at_ X) := by
  rw [h, ha, hb]; rfl

set_option maxRecDepth 100000 in
set_option maxHeartbeats 1000000 in
theorem rDecode_c (s : ByteArray) (at_ : Nat) (hs : s.size ≤ 1000000) (w : World) (h1 : at_ < s.size) :
    Calls Tryd.prog 10 #[.string s, .int .i64 at_] w fun e w' => e = .returned (decR at_ (decL (s.data.toList.drop at_))) ∧ Below w.heap.size w w' := by
  have d0 : decide ((at_ : Int) < 0) = false := by simp
  have d1 : decide ((s.size : Int) ≤ (at_ : Int)) = false := by simp; omega
  have d1n : decide (s.size ≤ at_) = false := by simp; omega
  go_enter Tryd.func10, Tryd.ntmps10
  go_wp2
  go_loopw [7] (fun v wr => ∃ n : Nat, 1 ≤ n ∧ n ≤ 5 ∧ v = .int .i64 n ∧ refF (5 - n) (s.data.toList.drop at_) n = decL (s.data.toList.drop at_) ∧ Below w.heap.size w wr) (fun v _ => 5 - (intOf v).toNat)
  case atStart => exact ⟨1, by omega, by omega, rfl, ref_dec _, Below.refl _ _⟩
  case round =>
    obtain ⟨n, hn0, hn, rfl, hd, hB⟩ := hrel
    have HD := Lib.hid hd
    clear hd
    by_cases h4 : n ≤ 4
    · by_cases hl : at_ + n ≤ s.size
      · have hz := sub_size hl
        have hsl := @sub_list s at_ n
        have HSL := Lib.hid hsl
        have hz1 : 1 ≤ (s.extract at_ (at_ + n)).size := by omega
        have hz4 : (s.extract at_ (at_ + n)).size ≤ 4 := by omega
        have hv := value_c (s.extract at_ (at_ + n)) hz1 hz4
        rw [hsl] at hv
        have HV := Lib.hid hv
        clear hz hsl hv hz1 hz4
        by_cases hp : pointN (valL ((s.data.toList.drop at_).take n)) = true
        · have he := fun w => rEncode_c (valL ((s.data.toList.drop at_).take n) : Nat) w
          rw [encR_ok hp] at he
          have HE := Lib.hid he
          clear he
          by_cases hg : goodL ((s.data.toList.drop at_).take n) = true
          · have HX := Lib.hid (ref_good h4 hl hg HD.out)
            have hq : ((S (encL (valL ((s.data.toList.drop at_).take n)))).toList == (s.extract at_ (at_ + n)).toList) = true := by
              rw [S_toList, ByteArray.toList_eq, HSL.out]
              simp only [goodL, Bool.and_eq_true] at hg; exact hg.2
            clear hg hp
            go_wp2_with fail
            refine (HV.out _).mono ?_
            rintro e w1 ⟨rfl, hb1⟩
            generalize valL ((s.data.toList.drop at_).take n) = v at *
            go_wp2_with fail
            refine (HE.out _).mono ?_
            rintro e w2 ⟨rfl, hb2⟩
            go_wp2_with fail
            go_ret3
            exact ⟨dec_ret2 HX.out rfl rfl, hB.trans ((hb1.mono hB.size).trans (hb2.mono (Nat.le_trans hB.size hb1.size)))⟩
          · have hg' : goodL ((s.data.toList.drop at_).take n) = false := by simpa using hg
            have HX := Lib.hid (ref_next h4 hl hg' HD.out)
            have hq : ((S (encL (valL ((s.data.toList.drop at_).take n)))).toList == (s.extract at_ (at_ + n)).toList) = false := by
              rw [S_toList, ByteArray.toList_eq, HSL.out]
              simp only [goodL, hp, Bool.true_and] at hg'; exact hg'
            clear hg hp hg'
            go_wp2_with fail
            refine (HV.out _).mono ?_
            rintro e w1 ⟨rfl, hb1⟩
            generalize valL ((s.data.toList.drop at_).take n) = v at *
            go_wp2_with fail
            refine (HE.out _).mono ?_
            rintro e w2 ⟨rfl, hb2⟩
            go_wp2_with fail
            go_roundw
            case rel => exact ⟨n + 1, by omega, by omega, by go_num, HX.out, hB.trans ((hb1.mono hB.size).trans (hb2.mono (Nat.le_trans hB.size hb1.size)))⟩
            case measure => simp [intOf]; omega
        · have he := fun w => rEncode_c (valL ((s.data.toList.drop at_).take n) : Nat) w
          have hp' : pointN (valL ((s.data.toList.drop at_).take n)) = false := by simpa using hp
          rw [encR_bad (by simp [hp'])] at he
          have HE := Lib.hid he
          have HX := Lib.hid (ref_next h4 hl (by simp [goodL, hp']) HD.out)
          clear he hp hp'
          go_wp2_with fail
          refine (HV.out _).mono ?_
          rintro e w1 ⟨rfl, hb1⟩
          generalize valL ((s.data.toList.drop at_).take n) = v at *
          go_wp2_with fail
          refine (HE.out _).mono ?_
          rintro e w2 ⟨rfl, hb2⟩
          go_wp2_with fail
          go_roundw
          case rel => exact ⟨n + 1, by omega, by omega, by go_num, HX.out, hB.trans ((hb1.mono hB.size).trans (hb2.mono (Nat.le_trans hB.size hb1.size)))⟩
          case measure => simp [intOf]; omega
      · have HX := Lib.hid (ref_none (by omega) (by omega) hn HD.out)
        go_wp2_with fail
        go_ret3
        exact ⟨dec_ret0 HX.out, hB⟩
    · have HX := Lib.hid (ref_none (by omega) (by omega) hn HD.out)
      go_wp2_with fail
      go_ret3
      exact ⟨dec_ret0 HX.out, hB⟩

theorem cnt_hit {s : ByteArray} {a n r m : Nat} {X : Option Nat} (hd : decL (s.data.toList.drop a) = some (r, n)) (H : addC m (countL (s.data.toList.drop a)) = X) : addC (m + 1) (countL (s.data.toList.drop (a + n))) = X := by
  rw [← H, count_step hd, addC_succ, List.drop_drop]
theorem cnt_bad {s : ByteArray} {a m : Nat} {X : Option Nat} (ha : a < s.size) (hd : decL (s.data.toList.drop a) = none) (H : addC m (countL (s.data.toList.drop a)) = X) : X = none := by
  rw [← H, count_none hd (by rw [drop_cons s a ha]; simp)]; rfl
theorem cnt_end {s : ByteArray} {a m : Nat} {X : Option Nat} (ha : ¬ a < s.size) (H : addC m (countL (s.data.toList.drop a)) = X) : X = some m := by
  rw [← H, drop_end s a ha]; show addC m (some 0) = _; simp [addC]
theorem cnt_retN {X : Option Nat} (h : X = none) : Ending.returned (.int .i64 (-1)) = .returned (.int .i64 (cntI X)) := by rw [h]; rfl
theorem cnt_retS {X : Option Nat} {m : Nat} (h : X = some m) {a : Int} (ha : a = m) : Ending.returned (.int .i64 a) = .returned (.int .i64 (cntI X)) := by rw [h, ha]; rfl

set_option maxHeartbeats 1000000 in
theorem count_c (s : ByteArray) (hs : s.size ≤ 1000000) (w : World) (hf : Forms w) :
    Calls Tryd.prog 15 #[.string s] w fun e w' => e = .returned (.int .i64 (cntI (countL s.data.toList))) ∧ Below w.heap.size w w' := by
  go_enter Tryd.func15, Tryd.ntmps15
  go_wp2
  go_loopw [3, 4] (fun u v wr => ∃ m a : Nat, m ≤ a ∧ a ≤ s.size ∧ u = .int .i64 m ∧ v = .int .i64 a ∧ addC m (countL (s.data.toList.drop a)) = countL s.data.toList ∧ Below w.heap.size w wr) (fun _ v _ => s.size - (intOf v).toNat)
  case atStart => exact ⟨0, 0, by omega, by omega, rfl, rfl, addC_zero _, Below.refl _ _⟩
  case round =>
    obtain ⟨m, a, hma, ha, rfl, rfl, hd, hB⟩ := hrel
    have HD := Lib.hid hd
    clear hd
    by_cases hlt : a < s.size
    · cases hx : decL (s.data.toList.drop a) with
      | none =>
        have HX := Lib.hid (cnt_bad hlt hx HD.out)
        have HC := Lib.hid (decode_c s a hs wr (hf.go hB) hlt)
        rw [hx] at HC
        clear hx
        go_wp2_with fail
        refine HC.out.mono ?_
        rintro e w1 ⟨rfl, hb1⟩
        simp only [decR]
        go_wp2_with fail
        go_ret
        exact ⟨cnt_retN HX.out, hB.trans (hb1.mono hB.size)⟩
      | some x =>
        obtain ⟨r, n⟩ := x
        have HX := Lib.hid (cnt_hit hx HD.out)
        have hn1 := (dec_inv hx).1
        have hn2 := (dec_inv hx).2.1
        rw [List.length_drop, size_toList] at hn2
        have HC := Lib.hid (decode_c s a hs wr (hf.go hB) hlt)
        rw [hx] at HC
        clear hx
        go_wp2_with fail
        refine HC.out.mono ?_
        rintro e w1 ⟨rfl, hb1⟩
        simp only [decR]
        go_wp2_with fail
        go_roundw
        case rel => exact ⟨m + 1, a + n, by omega, by omega, by go_num, rfl, HX.out, hB.trans (hb1.mono hB.size)⟩
        case measure => simp [intOf]; omega
    · have HX := Lib.hid (cnt_end hlt HD.out)
      go_wp2_with fail
      go_ret
      exact ⟨cnt_retS HX.out rfl, hB⟩

set_option maxHeartbeats 1000000 in
theorem rCount_c (s : ByteArray) (hs : s.size ≤ 1000000) (w : World) :
    Calls Tryd.prog 16 #[.string s] w fun e w' => e = .returned (.int .i64 (cntI (countL s.data.toList))) ∧ Below w.heap.size w w' := by
  go_enter Tryd.func16, Tryd.ntmps16
  go_wp2
  go_loopw [3, 4] (fun u v wr => ∃ m a : Nat, m ≤ a ∧ a ≤ s.size ∧ u = .int .i64 m ∧ v = .int .i64 a ∧ addC m (countL (s.data.toList.drop a)) = countL s.data.toList ∧ Below w.heap.size w wr) (fun _ v _ => s.size - (intOf v).toNat)
  case atStart => exact ⟨0, 0, by omega, by omega, rfl, rfl, addC_zero _, Below.refl _ _⟩
  case round =>
    obtain ⟨m, a, hma, ha, rfl, rfl, hd, hB⟩ := hrel
    have HD := Lib.hid hd
    clear hd
    by_cases hlt : a < s.size
    · cases hx : decL (s.data.toList.drop a) with
      | none =>
        have HX := Lib.hid (cnt_bad hlt hx HD.out)
        have HC := Lib.hid (rDecode_c s a hs wr hlt)
        rw [hx] at HC
        clear hx
        go_wp2_with fail
        refine HC.out.mono ?_
        rintro e w1 ⟨rfl, hb1⟩
        simp only [decR]
        go_wp2_with fail
        go_ret
        exact ⟨cnt_retN HX.out, hB.trans (hb1.mono hB.size)⟩
      | some x =>
        obtain ⟨r, n⟩ := x
        have HX := Lib.hid (cnt_hit hx HD.out)
        have hn1 := (dec_inv hx).1
        have hn2 := (dec_inv hx).2.1
        rw [List.length_drop, size_toList] at hn2
        have HC := Lib.hid (rDecode_c s a hs wr hlt)
        rw [hx] at HC
        clear hx
        go_wp2_with fail
        refine HC.out.mono ?_
        rintro e w1 ⟨rfl, hb1⟩
        simp only [decR]
        go_wp2_with fail
        go_roundw
        case rel => exact ⟨m + 1, a + n, by omega, by omega, by go_num, rfl, HX.out, hB.trans (hb1.mono hB.size)⟩
        case measure => simp [intOf]; omega
    · have HX := Lib.hid (cnt_end hlt HD.out)
      go_wp2_with fail
      go_ret
      exact ⟨cnt_retS HX.out rfl, hB⟩

set_option maxHeartbeats 400000 in
theorem valid_c (s : ByteArray) (hs : s.size ≤ 1000000) (w : World) (hf : Forms w) :
    Calls Tryd.prog 13 #[.string s] w fun e w' => e = .returned (.bool (countL s.data.toList).isSome) ∧ Below w.heap.size w w' := by
  go_enter Tryd.func13, Tryd.ntmps13
  go_wp2_with fail
  refine (count_c s hs _ hf).mono ?_
  rintro e w1 ⟨rfl, hb1⟩
  go_wp2_with fail
  go_ret
  exact ⟨ret_b (cntI_neg _), hb1⟩

set_option maxHeartbeats 400000 in
theorem rValid_c (s : ByteArray) (hs : s.size ≤ 1000000) (w : World) :
    Calls Tryd.prog 14 #[.string s] w fun e w' => e = .returned (.bool (countL s.data.toList).isSome) ∧ Below w.heap.size w w' := by
  go_enter Tryd.func14, Tryd.ntmps14
  go_wp2_with fail
  refine (rCount_c s hs _).mono ?_
  rintro e w1 ⟨rfl, hb1⟩
  go_wp2_with fail
  go_ret
  exact ⟨ret_b (cntI_neg _), hb1⟩

/-- what Decode answers at any offset: none is ErrRange -/
def decT (s : ByteArray) (at_ : Int) : Int × Int × Int :=
  if 0 ≤ at_ ∧ at_ < s.size then (match decL (s.data.toList.drop at_.toNat) with | some (r, n) => ((r : Int), ((at_.toNat + n : Nat) : Int), 0) | none => (0, 0, 7)) else (0, 0, 4)
theorem decT_in {s : ByteArray} {k : Nat} (h : k < s.size) : decR k (decL (s.data.toList.drop k)) = .tuple #[.int .i64 (decT s k).1, .int .i64 (decT s k).2.1, .int .i64 (decT s k).2.2] := by
  unfold decT
  rw [if_pos (by omega)]
  simp only [Int.toNat_natCast]
  cases decL (s.data.toList.drop k) with
  | none => rfl
  | some x => rfl
theorem decT_out {s : ByteArray} {a : Int} (h : ¬ (0 ≤ a ∧ a < s.size)) : decT s a = (0, 0, 4) := if_neg h

set_option maxHeartbeats 400000 in
theorem decodeA_c (s : ByteArray) (a : Int) (hs : s.size ≤ 1000000) (w : World) (hf : Forms w) :
    Calls Tryd.prog 9 #[.string s, .int .i64 a] w fun e w' => e = .returned (.tuple #[.int .i64 (decT s a).1, .int .i64 (decT s a).2.1, .int .i64 (decT s a).2.2]) ∧ Below w.heap.size w w' := by
  by_cases h : 0 ≤ a ∧ a < s.size
  · obtain ⟨k, rfl⟩ : ∃ k : Nat, a = k := ⟨a.toNat, by omega⟩
    have c := decode_c s k hs w hf (by omega)
    rw [decT_in (by omega)] at c
    exact c
  · have HT := Lib.hid (decT_out h)
    rw [HT.out]
    by_cases h0 : a < 0
    · have h0' : decide (a < 0) = true := by simp; omega
      go_enter Tryd.func9, Tryd.ntmps9
      go_wp2
      go_ret3
      exact ⟨rfl, Below.refl _ _⟩
    · have h1 : (s.size : Int) ≤ a := by omega
      have h0' : decide (a < 0) = false := by simp; omega
      clear h
      go_enter Tryd.func9, Tryd.ntmps9
      go_wp2
      go_ret3
      exact ⟨rfl, Below.refl _ _⟩

set_option maxHeartbeats 400000 in
theorem rDecodeA_c (s : ByteArray) (a : Int) (hs : s.size ≤ 1000000) (w : World) :
    Calls Tryd.prog 10 #[.string s, .int .i64 a] w fun e w' => e = .returned (.tuple #[.int .i64 (decT s a).1, .int .i64 (decT s a).2.1, .int .i64 (decT s a).2.2]) ∧ Below w.heap.size w w' := by
  by_cases h : 0 ≤ a ∧ a < s.size
  · obtain ⟨k, rfl⟩ : ∃ k : Nat, a = k := ⟨a.toNat, by omega⟩
    have c := rDecode_c s k hs w (by omega)
    rw [decT_in (by omega)] at c
    exact c
  · have HT := Lib.hid (decT_out h)
    rw [HT.out]
    by_cases h0 : a < 0
    · have h0' : decide (a < 0) = true := by simp; omega
      go_enter Tryd.func10, Tryd.ntmps10
      go_wp2
      go_ret3
      exact ⟨rfl, Below.refl _ _⟩
    · have h1 : (s.size : Int) ≤ a := by omega
      have h0' : decide (a < 0) = false := by simp; omega
      clear h
      go_enter Tryd.func10, Tryd.ntmps10
      go_wp2
      go_ret3
      exact ⟨rfl, Below.refl _ _⟩
end Go.Proofs.YtgkcjpidekefoaaDoor
