/- The target of a link: plain, and the contract of weblink.target. -/
import Derived.Test.YtaopehogpdgkgaaGreatMrefQ
namespace Go.Proofs.YtaopehogpdgkgaaGreat
open Go.RowKit
/-- behind a '<': what stands before the '>', and the rest -/
def tgtL : List UInt8 → Option (List UInt8 × List UInt8)
  | [] => none
  | c :: t => if inVN c.toNat then (if c.toNat = 62 then some ([], t) else (tgtL t).map fun x => (c :: x.1, x.2)) else none
section
variable {s : ByteArray} {j k : Nat} {acc : List UInt8} {X : Option (List UInt8 × List UInt8)}
theorem tgt_end (h : ¬ j < s.size) (H : pre2 acc (tgtL (s.data.toList.drop j)) = X) : X = none := by
  rw [drop_end s j h] at H; rw [← H]; rfl
theorem tgt_close (h : j < s.size) (hc : s[j].toNat = 62) (H : pre2 acc (tgtL (s.data.toList.drop j)) = X) : X = some (acc, s.data.toList.drop (j + 1)) := by
  rw [drop_cons s j h, tgtL, if_pos (by rw [hc]; rfl), if_pos hc] at H; rw [← H]; simp [pre2]
theorem tgt_step (h : j < s.size) (hc : ¬ s[j].toNat = 62) (hv : inVN s[j].toNat = true) (H : pre2 acc (tgtL (s.data.toList.drop j)) = X) : pre2 (acc ++ [s[j]]) (tgtL (s.data.toList.drop (j + 1))) = X := by
  rw [drop_cons s j h, tgtL, if_pos hv, if_neg hc, pre2_cons] at H; exact H
theorem tgt_bad (h : j < s.size) (hv : inVN s[j].toNat = false) (H : pre2 acc (tgtL (s.data.toList.drop j)) = X) : X = none := by
  rw [drop_cons s j h, tgtL, if_neg (by simp [hv])] at H; rw [← H]; rfl
theorem ext_snoc (hk : k ≤ j) (h : j < s.size) (H : s.extract k j = S acc) : s.extract k (j + 1) = S (acc ++ [s[j]]) := by
  have e : acc = (s.data.toList.drop k).take (j - k) := by
    have := congrArg (fun t : ByteArray => t.data.toList) H
    rw [Lib.extract_data] at this; exact this.symm
  apply ByteArray.ext; apply Array.toList_inj.1
  rw [Lib.extract_data, e]
  show _ = (s.data.toList.drop k).take (j - k) ++ [s[j]]
  rw [show j + 1 - k = (j - k) + 1 by omega, List.take_add_one, List.getElem?_drop, show k + (j - k) = j by omega]
  rw [List.getElem?_eq_getElem (by rw [size_toList]; exact h)]
  rfl
theorem ext_nil (k : Nat) : s.extract k k = S [] := by
  apply ByteArray.ext; apply Array.toList_inj.1
  rw [Lib.extract_data]; simp [S]
end
set_option maxRecDepth 100000 in
set_option maxHeartbeats 2000000 in
theorem target_c (b : Nat) (s : ByteArray) (k : Nat) (hk : k ≤ s.size) (hs : s.size ≤ 1000000) (w : World) (hc : Cur w b s k) :
    Calls Tryz.prog 60 #[.pointer (some ⟨b, 0, none⟩)] w fun e w' => e = .returned (valV (tgtL (s.data.toList.drop k))) ∧ AtRest w' b s k (tgtL (s.data.toList.drop k)) ∧ Only b w w' := by
  have HC := Lib.hid hc
  have c1 := hc.c1
  clear hc
  go_enter Tryz.func60, Tryz.ntmps60
  go_wp2_with fail
  go_loopg [] (s.size - k) (fun gf wr => ∃ (j : Nat) (acc : List UInt8), k ≤ j ∧ j ≤ s.size ∧ s.size ≤ j + gf ∧ Cur wr b s j ∧ s.extract k j = S acc ∧ pre2 acc (tgtL (s.data.toList.drop j)) = tgtL (s.data.toList.drop k) ∧ Only b w wr)
  case atStart => exact ⟨k, [], Nat.le_refl _, hk, by omega, HC.out, ext_nil k, by rw [pre2_nil], Only.refl _ _⟩
  case round =>
    obtain ⟨j, acc, hkj, hj, hgf, hcj, hE, hJ, hO⟩ := hrel
    have HCJ := Lib.hid hcj
    have HJ := Lib.hid hJ
    have HE := Lib.hid hE
    clear hJ hE c1
    have c0 := hcj.c0
    have c1 := hcj.c1
    have f1 := hcj.f1
    clear hcj
    have HD := fun n => cDone_c b s j _ (HCJ.out.drewN (w := wr) n)
    by_cases hlt : j < s.size
    · have hd : decide (s.size ≤ j) = false := by simp; omega
      rw [hd] at HD
      have HD := Lib.hid HD
      have hb := byte_lt s[j]
      have HP := fun n => inValue_c (s[j].toNat : Int) (by omega) (by omega) (wr.drewN n)
      rw [show ((s[j].toNat : Int)).toNat = s[j].toNat from by simp] at HP
      by_cases hv : inVN s[j].toNat = true
      · rw [hv] at HP
        have HP := Lib.hid HP
        by_cases x62 : s[j].toNat = 62
        · have e62 : ((s[j].toNat : Int) == 62) = true := by rw [x62]; rfl
          have HX := Lib.hid (tgt_close hlt x62 HJ.out)
          clear x62 hv
          go_wp2_with fail
          go_quiet (first | (go_at_call 31; exact q_done (HD.out _)) | (go_at_call 65; exact q_same (HP.out _)))
          go_wp2_with fail
          generalize nq = q1 at *
          go_quiet (fail)
          go_wp2_with fail
          have hC1 : Cur ((wr.drewN (q1 + nq)).setCell ⟨b, 1, none⟩ (.int .i64 ((j : Int) + 1))) b s (j + 1) := Cur.set (w := wr.drewN (q1 + nq)) HCJ.out (j + 1)
          have hO1 : Only b w ((wr.drewN (q1 + nq)).setCell ⟨b, 1, none⟩ (.int .i64 ((j : Int) + 1))) := (hO.drewN _).trans (Only.set _)
          generalize (wr.drewN (q1 + nq)).setCell ⟨b, 1, none⟩ (.int .i64 ((j : Int) + 1)) = W1 at *
          clear c0 c1 f1
          have HC1 := Lib.hid hC1
          have c0 := hC1.c0
          have c1 : W1.cell? ⟨b, 1, none⟩ = some (.int .i64 ((j : Int) + 1)) := hC1.c1
          clear hC1
          go_quiet (fail)
          go_wp2_with fail
          go_ret2
          exact ⟨by rw [HX.out]; exact ret_w (by rw [valV, ← HE.out]; rfl), ⟨j + 1, by omega, by omega, HC1.out, fun v r h => by rw [HX.out] at h; cases h; rfl⟩, hO1.drewN _⟩
        · have e62 : ((s[j].toNat : Int) == 62) = false := by simp; omega
          have HX := Lib.hid (tgt_step hlt x62 hv HJ.out)
          have HE2 := Lib.hid (ext_snoc hkj hlt HE.out)
          clear x62 hv
          go_wp2_with fail
          go_quiet (first | (go_at_call 31; exact q_done (HD.out _)) | (go_at_call 65; exact q_same (HP.out _)))
          go_wp2_with fail
          go_quiet (fail)
          go_wp2_with fail
          go_roundg (gk - 1)
          case measure => omega
          case rel => exact ⟨j + 1, acc ++ [s[j]], by omega, by omega, by omega, Cur.set (w := wr.drewN _) HCJ.out (j + 1), HE2.out, HX.out, (hO.drewN _).trans (Only.set _)⟩
      · have hv' : inVN s[j].toNat = false := by simpa using hv
        rw [hv'] at HP
        have HP := Lib.hid HP
        have HX := Lib.hid (tgt_bad hlt hv' HJ.out)
        clear hv
        go_wp2_with fail
        go_quiet (first | (go_at_call 31; exact q_done (HD.out _)) | (go_at_call 65; exact q_same (HP.out _)))
        go_wp2_with fail
        go_ret2
        exact ⟨by rw [HX.out]; rfl, ⟨j, hkj, hj, HCJ.out, fun v r h => by rw [HX.out] at h; cases h⟩, hO.drewN _⟩
    · have hd : decide (s.size ≤ j) = true := by simp; omega
      rw [hd] at HD
      have HD := Lib.hid HD
      have HX := Lib.hid (tgt_end hlt HJ.out)
      go_wp2_with fail
      go_quiet ((go_at_call 31; exact q_done (HD.out _)))
      go_wp2_with fail
      go_ret2
      exact ⟨by rw [HX.out]; rfl, ⟨j, hkj, hj, HCJ.out, fun v r h => by rw [HX.out] at h; cases h⟩, hO.drewN _⟩
end Go.Proofs.YtaopehogpdgkgaaGreat
