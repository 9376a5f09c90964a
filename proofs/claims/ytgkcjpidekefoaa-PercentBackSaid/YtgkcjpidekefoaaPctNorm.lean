/- Contracts of Normalize of the program (chapter 3). -/
import Derived.Test.YtgkcjpidekefoaaPctEnc
namespace Go.Proofs.Ytgkcjpidekefoaa
open Go.RowKit
def normV (also s : ByteArray) : Value := if 16384 < s.size then .tuple #[.string ⟨#[]⟩, .int .i64 5] else resV (normP also.data.toList s.data.toList)
theorem normV_big {also s : ByteArray} (h : 16384 < s.size) : normV also s = .tuple #[.string ⟨#[]⟩, .int .i64 5] := if_pos h
theorem normV_ok {also s : ByteArray} (h : ¬ 16384 < s.size) {r : List UInt8} (hr : normP also.data.toList s.data.toList = .ok r) : normV also s = .tuple #[.string (S r), .int .i64 0] := by unfold normV; rw [if_neg h, hr]; rfl
theorem normV_err {also s : ByteArray} (h : ¬ 16384 < s.size) {e : Nat} (hr : normP also.data.toList s.data.toList = .error e) : normV also s = .tuple #[.string ⟨#[]⟩, .int .i64 e] := by unfold normV; rw [if_neg h, hr]; rfl
theorem stN_escU {s : ByteArray} {k : Nat} {also : List UInt8} (hk : k < s.size) (h : s[k].toNat = 37) {x : UInt8} (hx : escAt (s.data.toList.drop k) = some x) (hu : unresN x.toNat = true) : stN also (s.data.toList.drop k) = .ok ([x], 2) := by
  rw [stN_esc hk h hx, hu]; rfl
theorem stN_escE {s : ByteArray} {k : Nat} {also : List UInt8} (hk : k < s.size) (h : s[k].toNat = 37) {x : UInt8} (hx : escAt (s.data.toList.drop k) = some x) (hu : unresN x.toNat = false) : stN also (s.data.toList.drop k) = .ok (escL x, 2) := by
  rw [stN_esc hk h hx, hu]; rfl
set_option maxRecDepth 100000 in
set_option maxHeartbeats 2000000 in
theorem pnorm_c (s also : ByteArray) (w : World) :
    Calls Try.prog 53 #[.string s, .string also] w fun e w' => e = .returned (normV also s) ∧ Below w.heap.size w w' := by
  by_cases hbig : 16384 < s.size
  · have HX := Lib.hid (normV_big (also := also) hbig)
    have hb : (16384 : Int) < (s.size : Int) := by omega
    clear hbig
    go_enter Try.func53, Try.ntmps53
    go_wp2_with fail
    go_ret2
    exact ⟨ret_v HX.out, Below.refl _ _⟩
  · have hb : (s.size : Int) ≤ (16384 : Int) := by omega
    have HBIG := Lib.hid hbig
    clear hbig
    go_enter Try.func53, Try.ntmps53
    go_wp2_with fail
    have hbx0 := box_new w
    have hB0 := (Below.refl w.heap.size w).alloc (Nat.le_refl _) (.cells #[.slice none 0 0] 47)
    generalize w.alloc (.cells #[.slice none 0 0] 47) = w0 at *
    go_loopw [7] (fun i wr => ∃ k : Nat, ∃ acc : List UInt8, k ≤ s.size ∧ i = .int .i64 k ∧ acc.length ≤ 3 * k ∧ Box wr w.heap.size acc ∧ pre acc (runL (stN also.data.toList) (s.data.toList.drop k)) = normP also.data.toList s.data.toList ∧ Below w.heap.size w wr) (fun i _ => s.size - (intOf i).toNat)
    case atStart => exact ⟨0, [], Nat.zero_le _, rfl, Nat.le_refl _, hbx0, pre_nil _, hB0⟩
    case round =>
      clear hbx0 hB0
      obtain ⟨k, acc, hk, rfl, hacc, hbox, hd, hB⟩ := hrel
      have HBOX := Lib.hid hbox
      obtain ⟨v, hbx, hown⟩ := hbox
      have HD := Lib.hid hd
      clear hd
      have hc := cell_of_one hbx
      have hf := free_of_one hbx
      have hca : ∀ o, (wr.alloc o).cell? ⟨w.heap.size, 0, none⟩ = some v := fun o => cell_of_one ((Below.heap_alloc wr o _ (heap_lt hbx)).trans hbx)
      have hlen : acc.length + 1 ≤ 100000000 := by omega
      have hbase : ∀ o, w.heap.size + 1 ≤ (wr.alloc o).heap.size := fun o => by have := heap_lt hbx; simp; omega
      by_cases hlt : k < s.size
      · have hb1 := byte_lt s[k]
        have hmem := memB_indexByte also.data.toList s[k].toNat s[k].toNat_lt
        by_cases h37 : s[k].toNat = 37
        · have e37 : ((s[k].toNat : Int) == 37) = true := by rw [h37]; rfl
          clear hmem
          cases hx : escAt (s.data.toList.drop k) with
          | none =>
            have HX := Lib.hid (normV_err HBIG.out (run_stop hlt (stN_bad (also := also.data.toList) hlt h37 hx) HD.out))
            have HC := Lib.hid (escaped_c s k (by omega) hlt wr)
            rw [hx] at HC
            clear hx h37
            go_wp2_with fail
            refine HC.out.mono ?_
            rintro e w1 ⟨rfl, m, rfl⟩
            simp only [escR]
            go_wp2_with fail
            go_ret2
            exact ⟨ret_v HX.out, below_dn hB _⟩
          | some x =>
            have hl3 := esc_len hx
            have hbx1 := byte_lt x
            rw [List.length_drop, size_toList] at hl3
            have HC := Lib.hid (escaped_c s k (by omega) hlt wr)
            rw [hx] at HC
            by_cases hu : unresN x.toNat = true
            · have HX := Lib.hid (run_step hlt (stN_escU (also := also.data.toList) hlt h37 hx hu) HD.out)
              clear hx h37
              go_wp2_with fail
              refine HC.out.mono ?_
              rintro e w1 ⟨rfl, m, rfl⟩
              simp only [escR]
              go_wp2_with (first | (go_at_call 21; refine (isUnreserved_c _ (by omega) (by omega) _).mono ?_; rintro e w' ⟨rfl, rfl⟩) | (at_builtin; go_must (refine wpList_append_blies rfl _ _ 47 rfl Try.underlying47 (w.heap.size + 1) _ acc rfl ((hown.alloc _)) ⟨wr.heap.size, 0, none⟩ 1 1 [x] rfl rfl (by decide) (news_bytes wr [x] _ rfl) hlen (hbase _) ?_); intro g2 cap2 w2 hown' hg; have hc2 := cell_of_one (app_keep (w := wr.drewN m) hbx hown hg); have hf2 := free_of_one (app_keep (w := wr.drewN m) hbx hown hg)))
              obtain ⟨hbx2, hbl2⟩ := box_app (w := wr.drewN m) hbx hown hg hown'
              go_roundw
              case rel => exact ⟨k + 1 + 2, acc ++ [x], by omega, by go_num, by simp; omega, hbx2, HX.out, (below_dn hB m).trans hbl2⟩
              case measure => simp [intOf]; omega
            · have hu' : unresN x.toNat = false := by simpa using hu
              have HX := Lib.hid (run_step hlt (stN_escE (also := also.data.toList) hlt h37 hx hu') HD.out)
              clear hx h37 hu
              go_wp2_with fail
              refine HC.out.mono ?_
              rintro e w1 ⟨rfl, m, rfl⟩
              simp only [escR]
              go_wp2_with (first | (go_at_call 21; refine (isUnreserved_c _ (by omega) (by omega) _).mono ?_; rintro e w' ⟨rfl, rfl⟩) | (go_at_call 66; refine (escB_c w.heap.size acc x (wr.drewN m) HBOX.out (by omega)).mono ?_; rintro e w1 ⟨rfl, hbx2, hbl2⟩))
              go_roundw
              case rel => exact ⟨k + 1 + 2, acc ++ escL x, by omega, by go_num, by rw [List.length_append, escL_len]; omega, hbx2, HX.out, (below_dn hB m).trans hbl2⟩
              case measure => simp [intOf]; omega
        · have e37 : ((s[k].toNat : Int) == 37) = false := by simp; omega
          by_cases hu : (unresN s[k].toNat || memB also.data.toList s[k].toNat) = true
          · have HX := Lib.hid (run_step hlt (stN_plain hlt h37 hu) HD.out)
            clear h37
            by_cases hu1 : unresN s[k].toNat = true
            · clear hmem hu
              go_wp2_with (first | (go_at_call 21; refine (isUnreserved_c _ (by omega) (by omega) _).mono ?_; rintro e w' ⟨rfl, rfl⟩) | (go_at_call 65; refine (idx_c _ _ _).mono ?_; rintro e w' ⟨rfl, rfl⟩) | (at_builtin; go_must (refine wpList_append_blies rfl _ _ 47 rfl Try.underlying47 (w.heap.size + 1) _ acc rfl ((hown.alloc _)) ⟨wr.heap.size, 0, none⟩ 1 1 [s[k]] rfl rfl (by decide) (news_bytes wr [s[k]] _ rfl) hlen (hbase _) ?_); intro g2 cap2 w2 hown' hg; have hc2 := cell_of_one (app_keep hbx hown hg); have hf2 := free_of_one (app_keep hbx hown hg)))
              obtain ⟨hbx2, hbl2⟩ := box_app hbx hown hg hown'
              go_roundw
              case rel => exact ⟨k + 1 + 0, acc ++ [s[k]], by omega, by go_num, by simp; omega, hbx2, HX.out, hB.trans hbl2⟩
              case measure => simp [intOf]; omega
            · have hu1' : unresN s[k].toNat = false := by simpa using hu1
              have hm : memB also.data.toList s[k].toNat = true := by simpa [hu1'] using hu
              rw [hm] at hmem
              have hmem' : decide (0 ≤ Lib.indexByte also.data.toList s[k]) = true := by rw [← hmem]; simp
              clear hm hu hu1 hmem
              go_wp2_with (first | (go_at_call 21; refine (isUnreserved_c _ (by omega) (by omega) _).mono ?_; rintro e w' ⟨rfl, rfl⟩) | (go_at_call 65; refine (idx_c _ _ _).mono ?_; rintro e w' ⟨rfl, rfl⟩) | (at_builtin; go_must (refine wpList_append_blies rfl _ _ 47 rfl Try.underlying47 (w.heap.size + 1) _ acc rfl ((hown.alloc _)) ⟨wr.heap.size, 0, none⟩ 1 1 [s[k]] rfl rfl (by decide) (news_bytes wr [s[k]] _ rfl) hlen (hbase _) ?_); intro g2 cap2 w2 hown' hg; have hc2 := cell_of_one (app_keep hbx hown hg); have hf2 := free_of_one (app_keep hbx hown hg)))
              obtain ⟨hbx2, hbl2⟩ := box_app hbx hown hg hown'
              go_roundw
              case rel => exact ⟨k + 1 + 0, acc ++ [s[k]], by omega, by go_num, by simp; omega, hbx2, HX.out, hB.trans hbl2⟩
              case measure => simp [intOf]; omega
          · have hu0 : (unresN s[k].toNat || memB also.data.toList s[k].toNat) = false := by simpa using hu
            have HX := Lib.hid (normV_err HBIG.out (run_stop hlt (stN_char hlt h37 hu0) HD.out))
            have hu1' : unresN s[k].toNat = false := by simp at hu0; exact hu0.1
            have hm : memB also.data.toList s[k].toNat = false := by simp at hu0; exact hu0.2
            rw [hm] at hmem
            have hmem' : decide (0 ≤ Lib.indexByte also.data.toList s[k]) = false := by rw [← hmem]; simp
            clear hm hu hu0 hmem h37
            go_wp2_with (first | (go_at_call 21; refine (isUnreserved_c _ (by omega) (by omega) _).mono ?_; rintro e w' ⟨rfl, rfl⟩) | (go_at_call 65; refine (idx_c _ _ _).mono ?_; rintro e w' ⟨rfl, rfl⟩))
            go_ret2
            exact ⟨ret_v HX.out, hB⟩
      · have HX := Lib.hid (normV_ok HBIG.out (run_end hlt HD.out))
        have hcv := hown.conv 47 Try.underlying47
        go_wp2_with fail
        go_ret2
        exact ⟨ret_v HX.out, hB⟩
end Go.Proofs.Ytgkcjpidekefoaa
