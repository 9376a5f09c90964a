/- The reference's Format (chapter 18). -/
import Derived.Test.YtegejmbkpdlekaaHdFmt
namespace Go.Proofs.Ytegejmbkpdlekaa
open Go.RowKit
theorem rst_0 {mi st : Int} (h : mi = 0) : (⟨#[72, 84, 84, 80, 47, 49, 46]⟩ : ByteArray) ++ ⟨#[48]⟩ ++ ⟨#[32]⟩ ++ S (decL st) ++ ⟨#[32, 45, 13, 10]⟩ = S (stL mi st ++ crlfL) := by
  unfold stL; rw [if_pos h]; apply ByteArray.ext; apply Array.toList_inj.1; simp [S, preL, crlfL]
theorem rst_1 {mi st : Int} (h : ¬ mi = 0) : (⟨#[72, 84, 84, 80, 47, 49, 46]⟩ : ByteArray) ++ ⟨#[49]⟩ ++ ⟨#[32]⟩ ++ S (decL st) ++ ⟨#[32, 45, 13, 10]⟩ = S (stL mi st ++ crlfL) := by
  unfold stL; rw [if_neg h]; apply ByteArray.ext; apply Array.toList_inj.1; simp [S, preL, crlfL]
theorem rfld_str {T : ByteArray} (l : List UInt8) (f : Fld) (m : List UInt8) (h : m = l ++ (fldL f ++ crlfL)) (hT : T = S l) : T ++ (S f.1 ++ ⟨#[58, 32]⟩ ++ S f.2 ++ ⟨#[13, 10]⟩) = S m := by
  rw [fld_str, hT, S_append, h]
theorem fin_str {mi st : Int} {fs : List Fld} : S (stL mi st ++ crlfL ++ fldsL fs) ++ ⟨#[13, 10]⟩ = S (fmtHL mi st fs) := by
  show _ ++ S crlfL = _
  rw [S_append]; rfl
set_option maxRecDepth 100000 in
set_option maxHeartbeats 4000000 in
theorem rHFormat_c (mi st : Int) (h0 : -9223372036854775808 ≤ st) (h1 : st ≤ 9223372036854775807) (fv : Value) (fs : List Fld) (w : World) (hn : fs.length ≤ 1000) (hw : wtF fs ≤ 1000000) (h : Rd w 2 fv fs.length (fldsV fs)) :
    Calls Try.prog 32 #[.agg #[.int .i64 mi, .int .i64 st, fv]] w fun e w' => e = .returned (.string (S (fmtHL mi st fs))) ∧ Below w.heap.size w w' := by
  obtain ⟨A, c, rfl⟩ := h.slice
  have hB0 : Below w.heap.size w (w.alloc (.cells #[.int .i64 mi, .int .i64 st, .slice A fs.length c] 29)) := (Below.refl _ w).alloc (Nat.le_refl _) _
  have q0 : (w.alloc (.cells #[.int .i64 mi, .int .i64 st, .slice A fs.length c] 29)).heap[w.heap.size]? = some (.cells #[.int .i64 mi, .int .i64 st, .slice A fs.length c] 29 (0, 0)) := heap_alloc_new w _
  obtain ⟨a0, a1, a2⟩ := cells3' q0
  have HQ0 := Lib.hid q0
  have HD := Lib.hid (rDecimal_c st h0 h1)
  have hsl : (S (decL st)).size ≤ 21 := by rw [S_size]; exact decL_len st
  have HR := Lib.hid h
  have HB0 := Lib.hid hB0
  have hstl := stL_len mi st
  clear h hB0 q0
  by_cases hmi : mi = 0
  · have HT := Lib.hid (rst_0 (mi := mi) (st := st) hmi)
    have hmi0 : (mi == 0) = true := by simpa using hmi
    clear hmi
    go_enter Try.func32, Try.ntmps32
    go_wp2_with fail
    generalize w.alloc (.cells #[.int .i64 mi, .int .i64 st, .slice A fs.length c] 29) = W1 at *
    refine (HD.out _).mono ?_
    rintro e w2 ⟨rfl, hb2⟩
    have q2 := (hb2.block _ (heap_lt HQ0.out)).trans HQ0.out
    have hB2 := HB0.out.trans (hb2.mono HB0.out.size)
    clear HQ0 HB0 hb2 a0 a1 a2 HD
    obtain ⟨a0, a1, a2⟩ := cells3' q2
    clear q2
    go_wp2_with fail
    rw [HT.out]
    go_loopw [4, 21] (fun u4 u21 wr => ∃ (k : Nat) (T : ByteArray), k ≤ fs.length ∧ u21 = .int .i64 (k : Int) ∧ u4 = .string T ∧ T = S (stL mi st ++ crlfL ++ fldsL (fs.take k)) ∧ Below w.heap.size w wr) (fun _ u21 _ => fs.length - (intOf u21).toNat)
    case atStart => exact ⟨0, _, Nat.zero_le _, rfl, rfl, by simp [fldsL], hB2⟩
    case round =>
      clear hB2 a0 a1 a2
      obtain ⟨k, T, hk, rfl, rfl, hT, hB⟩ := hrel
      have hfl := fldsL_len (fs.take k)
      by_cases hkn : k < fs.length
      · obtain ⟨ad, c', hv, hab, hcc⟩ := (HR.out.later hB).at_ (by omega)
        obtain rfl : A = some ad := by injection hv
        obtain ⟨f0, f1⟩ := fld_at hcc hkn
        have hwt := wtF_take fs k hkn
        have hlk : (fs.take k).length ≤ 1000 := by rw [List.length_take]; omega
        have hsa : (S fs[k].1).size ≤ 1000000 := by rw [S_size]; omega
        have hsb : (S fs[k].2).size ≤ 1000000 := by rw [S_size]; omega
        have hsc : T.size ≤ 2000000 := by
          rw [hT, S_size]; simp only [List.length_append, crlfL, List.length_cons, List.length_nil]; omega
        have HF := Lib.hid (rfld_str (stL mi st ++ crlfL ++ fldsL (fs.take k)) fs[k] (stL mi st ++ crlfL ++ fldsL (fs.take (k + 1))) (by rw [fldsL_take fs k hkn]; simp only [List.append_assoc]) hT)
        have hsz := hB.size
        clear hcc hwt hfl hv hT
        go_wp2_with fail
        go_roundw
        case rel => exact ⟨k + 1, _, by omega, by go_num, rfl, HF.out, hB.alloc hsz _⟩
        case measure => simp [intOf]; omega
      · obtain rfl : k = fs.length := by omega
        rw [List.take_length] at hfl hT
        have hsc : T.size ≤ 2000000 := by
          rw [hT, S_size]; simp only [List.length_append, crlfL, List.length_cons, List.length_nil]; omega
        have HT2 := Lib.hid hT
        clear hT
        go_wp2_with fail
        go_ret
        exact ⟨ret_s (by rw [HT2.out]; exact fin_str), hB⟩
  · have HT := Lib.hid (rst_1 (mi := mi) (st := st) hmi)
    have hmi0 : (mi == 0) = false := by simpa using hmi
    clear hmi
    go_enter Try.func32, Try.ntmps32
    go_wp2_with fail
    generalize w.alloc (.cells #[.int .i64 mi, .int .i64 st, .slice A fs.length c] 29) = W1 at *
    refine (HD.out _).mono ?_
    rintro e w2 ⟨rfl, hb2⟩
    have q2 := (hb2.block _ (heap_lt HQ0.out)).trans HQ0.out
    have hB2 := HB0.out.trans (hb2.mono HB0.out.size)
    clear HQ0 HB0 hb2 a0 a1 a2 HD
    obtain ⟨a0, a1, a2⟩ := cells3' q2
    clear q2
    go_wp2_with fail
    rw [HT.out]
    go_loopw [4, 21] (fun u4 u21 wr => ∃ (k : Nat) (T : ByteArray), k ≤ fs.length ∧ u21 = .int .i64 (k : Int) ∧ u4 = .string T ∧ T = S (stL mi st ++ crlfL ++ fldsL (fs.take k)) ∧ Below w.heap.size w wr) (fun _ u21 _ => fs.length - (intOf u21).toNat)
    case atStart => exact ⟨0, _, Nat.zero_le _, rfl, rfl, by simp [fldsL], hB2⟩
    case round =>
      clear hB2 a0 a1 a2
      obtain ⟨k, T, hk, rfl, rfl, hT, hB⟩ := hrel
      have hfl := fldsL_len (fs.take k)
      by_cases hkn : k < fs.length
      · obtain ⟨ad, c', hv, hab, hcc⟩ := (HR.out.later hB).at_ (by omega)
        obtain rfl : A = some ad := by injection hv
        obtain ⟨f0, f1⟩ := fld_at hcc hkn
        have hwt := wtF_take fs k hkn
        have hlk : (fs.take k).length ≤ 1000 := by rw [List.length_take]; omega
        have hsa : (S fs[k].1).size ≤ 1000000 := by rw [S_size]; omega
        have hsb : (S fs[k].2).size ≤ 1000000 := by rw [S_size]; omega
        have hsc : T.size ≤ 2000000 := by
          rw [hT, S_size]; simp only [List.length_append, crlfL, List.length_cons, List.length_nil]; omega
        have HF := Lib.hid (rfld_str (stL mi st ++ crlfL ++ fldsL (fs.take k)) fs[k] (stL mi st ++ crlfL ++ fldsL (fs.take (k + 1))) (by rw [fldsL_take fs k hkn]; simp only [List.append_assoc]) hT)
        have hsz := hB.size
        clear hcc hwt hfl hv hT
        go_wp2_with fail
        go_roundw
        case rel => exact ⟨k + 1, _, by omega, by go_num, rfl, HF.out, hB.alloc hsz _⟩
        case measure => simp [intOf]; omega
      · obtain rfl : k = fs.length := by omega
        rw [List.take_length] at hfl hT
        have hsc : T.size ≤ 2000000 := by
          rw [hT, S_size]; simp only [List.length_append, crlfL, List.length_cons, List.length_nil]; omega
        have HT2 := Lib.hid hT
        clear hT
        go_wp2_with fail
        go_ret
        exact ⟨ret_s (by rw [HT2.out]; exact fin_str), hB⟩
end Go.Proofs.Ytegejmbkpdlekaa
