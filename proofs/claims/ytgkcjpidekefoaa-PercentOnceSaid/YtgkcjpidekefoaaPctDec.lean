/- Contracts of Decode, program and reference (chapter 3). -/
import Derived.Test.YtgkcjpidekefoaaPctDig
namespace Go.Proofs.Ytgkcjpidekefoaa
open Go.RowKit
/-- what the functions of chapter 3 answer -/
def resV (x : Except Nat (List UInt8)) : Value := match x with | .ok r => .tuple #[.string (S r), .int .i64 0] | .error e => .tuple #[.string ⟨#[]⟩, .int .i64 e]
def decV (s : ByteArray) : Value := if 16384 < s.size then .tuple #[.string ⟨#[]⟩, .int .i64 5] else resV (decP s.data.toList)
theorem decV_big {s : ByteArray} (h : 16384 < s.size) : decV s = .tuple #[.string ⟨#[]⟩, .int .i64 5] := if_pos h
theorem decV_ok {s : ByteArray} (h : ¬ 16384 < s.size) {r : List UInt8} (hr : decP s.data.toList = .ok r) : decV s = .tuple #[.string (S r), .int .i64 0] := by unfold decV; rw [if_neg h, hr]; rfl
theorem decV_err {s : ByteArray} (h : ¬ 16384 < s.size) {e : Nat} (hr : decP s.data.toList = .error e) : decV s = .tuple #[.string ⟨#[]⟩, .int .i64 e] := by unfold decV; rw [if_neg h, hr]; rfl
theorem below_dn {B : Nat} {a w : World} (h : Below B a w) (n : Nat) : Below B a (w.drewN n) := ⟨h.os, h.tape, h.output, h.size, h.block⟩
theorem drop0 (s : ByteArray) : s.data.toList.drop 0 = s.data.toList := rfl

set_option maxRecDepth 100000 in
set_option maxHeartbeats 1000000 in
theorem pdecode_c (s : ByteArray) (w : World) :
    Calls Try.prog 55 #[.string s] w fun e w' => e = .returned (decV s) ∧ Below w.heap.size w w' := by
  by_cases hbig : 16384 < s.size
  · have HX := Lib.hid (decV_big hbig)
    have hb : (16384 : Int) < (s.size : Int) := by omega
    clear hbig
    go_enter Try.func55, Try.ntmps55
    go_wp2_with fail
    go_ret2
    exact ⟨ret_v HX.out, Below.refl _ _⟩
  · have hb : (s.size : Int) ≤ (16384 : Int) := by omega
    have HBIG := Lib.hid hbig
    clear hbig
    go_enter Try.func55, Try.ntmps55
    go_wp2_with fail
    go_loopw [4, 5] (fun v i wr => ∃ k : Nat, ∃ acc : List UInt8, k ≤ s.size ∧ i = .int .i64 k ∧ acc.length ≤ k ∧ Own wr w.heap.size v acc ∧ pre acc (runL stD (s.data.toList.drop k)) = decP s.data.toList ∧ Below w.heap.size w wr) (fun _ i _ => s.size - (intOf i).toNat)
    case atStart => exact ⟨0, [], Nat.zero_le _, rfl, Nat.le_refl _, Own.nil _ _, pre_nil _, Below.refl _ _⟩
    case round =>
      obtain ⟨k, acc, hk, rfl, hacc, hown, hd, hB⟩ := hrel
      have HD := Lib.hid hd
      clear hd
      have hlen : acc.length + 1 ≤ 100000000 := by omega
      have hbase : ∀ o, w.heap.size ≤ (wr.alloc o).heap.size := fun o => by have := hB.size; simp; omega
      by_cases hlt : k < s.size
      · by_cases h37 : s[k].toNat = 37
        · have e37 : ((s[k].toNat : Int) == 37) = true := by rw [h37]; rfl
          have n37 : ((s[k].toNat : Int) != 37) = false := by rw [h37]; rfl
          cases hx : escAt (s.data.toList.drop k) with
          | none =>
            have HX := Lib.hid (decV_err HBIG.out (run_stop hlt (stD_bad hlt h37 hx) HD.out))
            have HC := Lib.hid (escaped_c s k (by omega) hlt wr)
            rw [hx] at HC
            clear hx h37
            go_wp2_with fail
            refine HC.out.mono ?_
            rintro e w1 ⟨rfl, m, rfl⟩
            simp only [escR]
            go_wp2_with fail
            go_ret2
            exact ⟨ret_v HX.out, below_dn hB _⟩
          | some x =>
            have HX := Lib.hid (run_step hlt (stD_esc hlt h37 hx) HD.out)
            have hl3 := esc_len hx
            rw [List.length_drop, size_toList] at hl3
            have HC := Lib.hid (escaped_c s k (by omega) hlt wr)
            rw [hx] at HC
            clear hx h37
            go_wp2_with fail
            refine HC.out.mono ?_
            rintro e w1 ⟨rfl, m, rfl⟩
            simp only [escR]
            go_wp2_with (at_builtin; go_must (refine wpList_append_bytes rfl _ _ 47 rfl Try.underlying47 w.heap.size _ acc rfl (hown.alloc _) ⟨wr.heap.size, 0, none⟩ 1 1 [x] rfl rfl (news_bytes wr [x] _ rfl) hlen (hbase _) ?_); intro v' w2 hown' hg)
            go_roundw
            case rel => exact ⟨k + 1 + 2, acc ++ [x], by omega, by go_num, by simp; omega, hown', HX.out, below_app (wr := wr.drewN m) (below_dn hB _) hown hB.size hg⟩
            case measure => simp [intOf]; omega
        · have e37 : ((s[k].toNat : Int) == 37) = false := by simp; omega
          have HX := Lib.hid (run_step hlt (stD_plain hlt h37) HD.out)
          clear h37
          go_wp2_with (at_builtin; go_must (refine wpList_append_bytes rfl _ _ 47 rfl Try.underlying47 w.heap.size _ acc rfl (hown.alloc _) ⟨wr.heap.size, 0, none⟩ 1 1 [s[k]] rfl rfl (news_bytes wr [s[k]] _ rfl) hlen (hbase _) ?_); intro v' w2 hown' hg)
          go_roundw
          case rel => exact ⟨k + 1 + 0, acc ++ [s[k]], by omega, by go_num, by simp; omega, hown', HX.out, below_app hB hown hB.size hg⟩
          case measure => simp [intOf]; omega
      · have HX := Lib.hid (decV_ok HBIG.out (run_end hlt HD.out))
        have hcv := hown.conv 47 Try.underlying47
        go_wp2_with fail
        go_ret2
        exact ⟨ret_v HX.out, hB⟩

set_option maxRecDepth 100000 in
set_option maxHeartbeats 1000000 in
theorem rpdecode_c (s : ByteArray) (w : World) :
    Calls Try.prog 56 #[.string s] w fun e w' => e = .returned (decV s) ∧ Below w.heap.size w w' := by
  by_cases hbig : 16384 < s.size
  · have HX := Lib.hid (decV_big hbig)
    have hb : (16384 : Int) < (s.size : Int) := by omega
    clear hbig
    go_enter Try.func56, Try.ntmps56
    go_wp2_with fail
    go_ret2
    exact ⟨ret_v HX.out, Below.refl _ _⟩
  · have hb : (s.size : Int) ≤ (16384 : Int) := by omega
    have HBIG := Lib.hid hbig
    clear hbig
    go_enter Try.func56, Try.ntmps56
    go_wp2_with fail
    go_loopw [4, 5] (fun v i wr => ∃ k : Nat, ∃ acc : List UInt8, k ≤ s.size ∧ i = .int .i64 k ∧ acc.length ≤ k ∧ Own wr w.heap.size v acc ∧ pre acc (runL stD (s.data.toList.drop k)) = decP s.data.toList ∧ Below w.heap.size w wr) (fun _ i _ => s.size - (intOf i).toNat)
    case atStart => exact ⟨0, [], Nat.zero_le _, rfl, Nat.le_refl _, Own.nil _ _, pre_nil _, Below.refl _ _⟩
    case round =>
      obtain ⟨k, acc, hk, rfl, hacc, hown, hd, hB⟩ := hrel
      have HD := Lib.hid hd
      clear hd
      have hlen : acc.length + 1 ≤ 100000000 := by omega
      have hbase : ∀ o, w.heap.size ≤ (wr.alloc o).heap.size := fun o => by have := hB.size; simp; omega
      by_cases hlt : k < s.size
      · by_cases h37 : s[k].toNat = 37
        · have e37 : ((s[k].toNat : Int) == 37) = true := by rw [h37]; rfl
          have n37 : ((s[k].toNat : Int) != 37) = false := by rw [h37]; rfl
          cases hx : escAt (s.data.toList.drop k) with
          | none =>
            have HX := Lib.hid (decV_err HBIG.out (run_stop hlt (stD_bad hlt h37 hx) HD.out))
            have HC := Lib.hid (rescape_c s k (by omega) hlt n37 wr)
            rw [hx] at HC
            clear hx h37
            go_wp2_with fail
            refine HC.out.mono ?_
            rintro e w1 ⟨rfl, m, rfl⟩
            simp only [escR]
            go_wp2_with fail
            go_ret2
            exact ⟨ret_v HX.out, below_dn hB _⟩
          | some x =>
            have HX := Lib.hid (run_step hlt (stD_esc hlt h37 hx) HD.out)
            have hl3 := esc_len hx
            rw [List.length_drop, size_toList] at hl3
            have HC := Lib.hid (rescape_c s k (by omega) hlt n37 wr)
            rw [hx] at HC
            clear hx h37
            go_wp2_with fail
            refine HC.out.mono ?_
            rintro e w1 ⟨rfl, m, rfl⟩
            simp only [escR]
            go_wp2_with (at_builtin; go_must (refine wpList_append_bytes rfl _ _ 42 rfl Try.underlying42 w.heap.size _ acc rfl (hown.alloc _) ⟨wr.heap.size, 0, none⟩ 1 1 [x] rfl rfl (news_bytes wr [x] _ rfl) hlen (hbase _) ?_); intro v' w2 hown' hg)
            go_roundw
            case rel => exact ⟨k + 1 + 2, acc ++ [x], by omega, by go_num, by simp; omega, hown', HX.out, below_app (wr := wr.drewN m) (below_dn hB _) hown hB.size hg⟩
            case measure => simp [intOf]; omega
        · have e37 : ((s[k].toNat : Int) == 37) = false := by simp; omega
          have HX := Lib.hid (run_step hlt (stD_plain hlt h37) HD.out)
          clear h37
          go_wp2_with (at_builtin; go_must (refine wpList_append_bytes rfl _ _ 42 rfl Try.underlying42 w.heap.size _ acc rfl (hown.alloc _) ⟨wr.heap.size, 0, none⟩ 1 1 [s[k]] rfl rfl (news_bytes wr [s[k]] _ rfl) hlen (hbase _) ?_); intro v' w2 hown' hg)
          go_roundw
          case rel => exact ⟨k + 1 + 0, acc ++ [s[k]], by omega, by go_num, by simp; omega, hown', HX.out, below_app hB hown hB.size hg⟩
          case measure => simp [intOf]; omega
      · have HX := Lib.hid (decV_ok HBIG.out (run_end hlt HD.out))
        have hcv := hown.conv 42 Try.underlying42
        go_wp2_with fail
        go_ret2
        exact ⟨ret_v HX.out, hB⟩
end Go.Proofs.Ytgkcjpidekefoaa
