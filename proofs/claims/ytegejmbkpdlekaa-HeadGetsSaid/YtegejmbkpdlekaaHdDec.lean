/- Contracts of decimal (head) and of the reference's Decimal (chapter 18). -/
import Derived.Test.YtegejmbkpdlekaaHdBack
import Derived.Test.YtegejmbkpdlekaaNumRef
namespace Go.Proofs.Ytegejmbkpdlekaa
open Go.RowKit
theorem decL_len (n : Int) : (decL n).length ≤ 21 := by
  unfold decL
  split
  · have := fmtL_len (-n).toNat; simp; omega
  · have := fmtL_len n.toNat; omega
theorem dec_neg {n : Int} (h : n < 0) : (⟨#[45]⟩ : ByteArray) ++ S (fmtL (-n).toNat) = S (decL n) := by
  unfold decL; rw [if_pos h]; rfl
theorem dec_pos {n : Int} (h : ¬ n < 0) : S (fmtL n.toNat) = S (decL n) := by
  unfold decL; rw [if_neg h]
theorem neg_wrap {n : Int} (h : n < 0) (h0 : -9223372036854775808 ≤ n) : IntKind.u64.wrap (-IntKind.u64.wrap n) = ((-n).toNat : Int) := by
  rw [IntKind.wrap_u64, IntKind.wrap_u64]; omega
set_option maxRecDepth 100000 in
set_option maxHeartbeats 1000000 in
theorem decimal_c (n : Int) (h0 : -9223372036854775808 ≤ n) (h1 : n ≤ 9223372036854775807) (w : World) :
    Calls Try.prog 65 #[.int .i64 n] w fun e w' => e = .returned (.string (S (decL n))) ∧ Below w.heap.size w w' := by
  by_cases hn : n < 0
  · have HC := Lib.hid (format_c (-n).toNat (by unfold U; omega))
    have HE := Lib.hid (show IntKind.u64.wrap (-IntKind.u64.wrap n) = ((-n).toNat : Int) from neg_wrap hn h0)
    have hl := fmtL_len (-n).toNat
    have hs : (S (fmtL (-n).toNat)).size ≤ 20 := by rw [S_size]; exact hl
    go_enter Try.func65, Try.ntmps65
    go_wp2_with fail
    rw [HE.out]
    refine (HC.out _).mono ?_
    rintro e w' ⟨rfl, hb⟩
    go_wp2_with fail
    go_ret
    exact ⟨ret_s (dec_neg hn), hb⟩
  · have HC := Lib.hid (format_c n.toNat (by unfold U; omega))
    have HE := Lib.hid (show n = (n.toNat : Int) by omega)
    go_enter Try.func65, Try.ntmps65
    go_wp2_with fail
    have hc := HC.out
    rw [← HE.out] at hc
    refine (hc _).mono ?_
    rintro e w' ⟨rfl, hb⟩
    go_wp2_with fail
    go_ret
    exact ⟨ret_s (dec_pos (by omega)), hb⟩
set_option maxRecDepth 100000 in
set_option maxHeartbeats 1000000 in
theorem rDecimal_c (n : Int) (h0 : -9223372036854775808 ≤ n) (h1 : n ≤ 9223372036854775807) (w : World) :
    Calls Try.prog 67 #[.int .i64 n] w fun e w' => e = .returned (.string (S (decL n))) ∧ Below w.heap.size w w' := by
  by_cases hn : n < 0
  · have HC := Lib.hid (rFormat_c (-n).toNat (by unfold U; omega))
    have HE := Lib.hid (show -(n + 1) + 1 = ((-n).toNat : Int) from (by omega))
    have hl := fmtL_len (-n).toNat
    have hs : (S (fmtL (-n).toNat)).size ≤ 20 := by rw [S_size]; exact hl
    go_enter Try.func67, Try.ntmps67
    go_wp2_with fail
    rw [HE.out]
    refine (HC.out _).mono ?_
    rintro e w' ⟨rfl, hb⟩
    go_wp2_with fail
    go_ret
    exact ⟨ret_s (dec_neg hn), hb⟩
  · have HC := Lib.hid (rFormat_c n.toNat (by unfold U; omega))
    have HE := Lib.hid (show n = (n.toNat : Int) by omega)
    go_enter Try.func67, Try.ntmps67
    go_wp2_with fail
    have hc := HC.out
    rw [← HE.out] at hc
    refine (hc _).mono ?_
    rintro e w' ⟨rfl, hb⟩
    go_wp2_with fail
    go_ret
    exact ⟨ret_s (dec_pos (by omega)), hb⟩
end Go.Proofs.Ytegejmbkpdlekaa
