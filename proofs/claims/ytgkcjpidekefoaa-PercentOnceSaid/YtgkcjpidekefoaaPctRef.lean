/- Contracts of Encode and Normalize of the reference (chapter 3). -/
import Derived.Test.YtgkcjpidekefoaaPctNorm
import Derived.Lib.AppendStr
namespace Go.Proofs.Ytgkcjpidekefoaa
open Go.RowKit
theorem cat_byte {acc : List UInt8} {s : ByteArray} {k : Nat} (h : k < s.size) : S acc ++ s.extract k (k + 1) = S (acc ++ [s[k]]) := by
  apply ByteArray.ext; apply Array.toList_inj.1
  have e : (s.extract k (k + 1)).data.toList = [s[k]] := by rw [Lib.extract_data, drop_cons s k h]; simp
  rw [ByteArray.data_append, Array.toList_append, e]; rfl
theorem cat_S (a b : List UInt8) : S a ++ S b = S (a ++ b) := by
  apply ByteArray.ext; apply Array.toList_inj.1; simp [S]
theorem ext_size {s : ByteArray} {k : Nat} (h : k < s.size) : (s.extract k (k + 1)).size = 1 := by rw [ByteArray.size_extract]; omega
set_option maxHeartbeats 400000 in
theorem rEscB_c (b : UInt8) (w : World) :
    Calls Try.prog 67 #[.int .u8 (b.toNat : Int)] w fun e w' => e = .returned (.string (S (escL b))) ∧ Below w.heap.size w w' := by
  have h := rEsc_c (b.toNat : Int) (by omega) (byte_lt b) w
  rw [ofNat_toNat'] at h; exact h

set_option maxRecDepth 100000 in
set_option maxHeartbeats 1000000 in
theorem rencode_c (s keep : ByteArray) (hs : s.size ≤ 100000) (hks : keep.size ≤ 100000) (w : World) :
    Calls Try.prog 52 #[.string s, .string keep] w fun e w' => e = .returned (encV keep s) ∧ Below w.heap.size w w' := by
  have KS := Lib.hid hks
  clear hks
  go_enter Try.func52, Try.ntmps52
  go_wp2_with fail
  go_loopw [5, 6] (fun v i wr => ∃ k : Nat, ∃ acc : List UInt8, k ≤ s.size ∧ i = .int .i64 k ∧ v = .string (S acc) ∧ (S acc).size ≤ 3 * k ∧ pre acc (runL (stE keep.data.toList) (s.data.toList.drop k)) = encP keep.data.toList s.data.toList ∧ Below w.heap.size w wr) (fun _ i _ => s.size - (intOf i).toNat)
  case atStart => exact ⟨0, [], Nat.zero_le _, rfl, rfl, Nat.le_refl _, pre_nil _, Below.refl _ _⟩
  case round =>
    obtain ⟨k, acc, hk, rfl, rfl, hacc, hd, hB⟩ := hrel
    have HD := Lib.hid hd
    have HACC := Lib.hid (show acc.length ≤ 3 * k from by rw [S_size] at hacc; exact hacc)
    clear hd
    by_cases hlt : k < s.size
    · have hb := byte_lt s[k]
      have HCAT := Lib.hid (cat_byte (acc := acc) hlt)
      have hex := ext_size hlt
      have hex1 : (s.extract k (k + 1)).size ≤ 1 := by omega
      have hel : (S (escL s[k])).size ≤ 3 := by rw [S_size, escL_len]; omega
      clear hex
      by_cases hu : unresN s[k].toNat = true
      · have HX := Lib.hid (run_step hlt (stE_keep (keep := keep.data.toList) hlt (by rw [hu]; rfl)) HD.out)
        go_wp2_with (first | (go_at_call 22; refine (rIsUnreserved_c _ (by omega) (by omega) _).mono ?_; rintro e w' ⟨rfl, rfl⟩) | (go_at_call 59; refine (rIn_c _ (by omega) (by omega) _ (by have := KS.out; omega) _).mono ?_; rintro e w' ⟨rfl, rfl⟩))
        go_roundw
        case rel => exact ⟨k + 1 + 0, acc ++ [s[k]], by omega, by go_num, congrArg _ HCAT.out, by rw [S_size, List.length_append]; have := HACC.out; simp; omega, HX.out, hB⟩
        case measure => simp [intOf]; omega
      · have hu' : unresN s[k].toNat = false := by simpa using hu
        clear hu
        by_cases h37 : s[k].toNat = 37
        · have n37 : ((s[k].toNat : Int) != 37) = false := by rw [h37]; rfl
          have HX := Lib.hid (run_step hlt (stE_esc (keep := keep.data.toList) hlt (by rw [hu', h37]; rfl)) HD.out)
          clear h37
          go_wp2_with (first | (go_at_call 22; refine (rIsUnreserved_c _ (by omega) (by omega) _).mono ?_; rintro e w' ⟨rfl, rfl⟩) | (go_at_call 59; refine (rIn_c _ (by omega) (by omega) _ (by have := KS.out; omega) _).mono ?_; rintro e w' ⟨rfl, rfl⟩) | (go_at_call 67; refine (rEscB_c s[k] _).mono ?_; rintro e w1 ⟨rfl, hb1⟩))
          go_roundw
          case rel => exact ⟨k + 1 + 0, acc ++ escL s[k], by omega, by go_num, congrArg _ (cat_S _ _), by rw [S_size, List.length_append, escL_len]; have := HACC.out; omega, HX.out, hB.trans (hb1.mono hB.size)⟩
          case measure => simp [intOf]; omega
        · have n37 : ((s[k].toNat : Int) != 37) = true := by rw [bne_iff_ne]; omega
          by_cases hm : memB keep.data.toList s[k].toNat = true
          · have HX := Lib.hid (run_step hlt (stE_keep (keep := keep.data.toList) hlt (by rw [hu', hm]; simp [h37])) HD.out)
            clear h37
            go_wp2_with (first | (go_at_call 22; refine (rIsUnreserved_c _ (by omega) (by omega) _).mono ?_; rintro e w' ⟨rfl, rfl⟩) | (go_at_call 59; refine (rIn_c _ (by omega) (by omega) _ (by have := KS.out; omega) _).mono ?_; rintro e w' ⟨rfl, rfl⟩))
            go_roundw
            case rel => exact ⟨k + 1 + 0, acc ++ [s[k]], by omega, by go_num, congrArg _ HCAT.out, by rw [S_size, List.length_append]; have := HACC.out; simp; omega, HX.out, hB⟩
            case measure => simp [intOf]; omega
          · have hm' : memB keep.data.toList s[k].toNat = false := by simpa using hm
            have HX := Lib.hid (run_step hlt (stE_esc (keep := keep.data.toList) hlt (by rw [hu', hm']; simp)) HD.out)
            clear hm h37
            go_wp2_with (first | (go_at_call 22; refine (rIsUnreserved_c _ (by omega) (by omega) _).mono ?_; rintro e w' ⟨rfl, rfl⟩) | (go_at_call 59; refine (rIn_c _ (by omega) (by omega) _ (by have := KS.out; omega) _).mono ?_; rintro e w' ⟨rfl, rfl⟩) | (go_at_call 67; refine (rEscB_c s[k] _).mono ?_; rintro e w1 ⟨rfl, hb1⟩))
            go_roundw
            case rel => exact ⟨k + 1 + 0, acc ++ escL s[k], by omega, by go_num, congrArg _ (cat_S _ _), by rw [S_size, List.length_append, escL_len]; have := HACC.out; omega, HX.out, hB.trans (hb1.mono hB.size)⟩
            case measure => simp [intOf]; omega
    · have HX := Lib.hid (encV_ok (run_end hlt HD.out))
      go_wp2_with fail
      go_ret
      exact ⟨ret_v HX.out, hB⟩
end Go.Proofs.Ytgkcjpidekefoaa
