/- Contracts of the cursor's Quoted and Value. -/
import Derived.Test.YtaopehogpdgkgaaGreatQuo
namespace Go.Proofs.YtaopehogpdgkgaaGreat
open Go.RowKit
def valV (x : Option (List UInt8 × List UInt8)) : Value := match x with | none => .tuple #[.string ⟨#[]⟩, .bool false] | some y => .tuple #[.string (S y.1), .bool true]
/-- behind a reader: a cursor somewhere ahead; where something was read, at its rest -/
def AtRest (w' : World) (b : Nat) (s : ByteArray) (k : Nat) (x : Option (List UInt8 × List UInt8)) : Prop := ∃ k', k ≤ k' ∧ k' ≤ s.size ∧ Cur w' b s k' ∧ ∀ v r, x = some (v, r) → s.data.toList.drop k' = r
theorem ix_at {s : ByteArray} {i : Int} {k : Nat} (hi : i = k) (hk : k < s.size) (w : World) : (Instr.index 9 (.string s) (.int .i64 i)).run Tryz.prog w = .ok (.int .u8 (s[k].toNat : Int)) w := by
  subst hi
  rw [run_index_string (P := Tryz.prog) w 9 s .i64 (k : Int) Tryz.underlying9, dif_pos ⟨by omega, by omega⟩]
  rfl
theorem own_ne_of {w : World} {B b : Nat} {v : Value} {l : List UInt8} (h : Own w B v l) (hb : b < B) : v.ownBlock ≠ some b := fun e => by have := (World.ownsRow.lt h b e).1; omega
theorem Own.only {w w' : World} {B b : Nat} {v : Value} {l : List UInt8} (h : Own w B v l) (ho : Only b w w') (hb : b < B) : Own w' B v l := ho.own h (own_ne_of h hb)
theorem only_app {b B : Nat} {w wr w' : World} {v : Value} {l : List UInt8} {o : Obj} (h : Only b w wr) (ho : Own wr B v l) (hB : w.heap.size ≤ B) (hg : (wr.alloc o).grownBy w' v.ownBlock) : Only b w w' :=
  ⟨hg.os.trans h.os, hg.tape.trans h.tape, hg.output.trans h.output, Nat.le_trans h.size (by have := hg.size; simp at this; omega), fun k hk hne => by
    have hs := h.size
    rw [hg.block k (by simp; omega) (fun e => by have := (World.ownsRow.lt ho k e.symm).1; omega), Below.heap_alloc wr o k (by omega)]
    exact h.block k hk hne⟩
theorem cur_app {b B k : Nat} {s : ByteArray} {wr w' : World} {v : Value} {l : List UInt8} {o : Obj} (h : Cur wr b s k) (ho : Own wr B v l) (hB : b < B) (hg : (wr.alloc o).grownBy w' v.ownBlock) : Cur w' b s k := by
  have hl := h.lt
  refine Eq.trans ?_ h
  rw [hg.block b (by simp; omega) (fun e => by have := (World.ownsRow.lt ho b e.symm).1; omega), Below.heap_alloc wr o b hl]
set_option maxRecDepth 100000 in
set_option maxHeartbeats 2000000 in
theorem cQuoted_c (b : Nat) (s : ByteArray) (k : Nat) (hk : k ≤ s.size) (hs : s.size ≤ 1000000) (w : World) (hc : Cur w b s k) :
    Calls Tryz.prog 48 #[.pointer (some ⟨b, 0, none⟩)] w fun e w' => e = .returned (valV (quoted (s.data.toList.drop k))) ∧ AtRest w' b s k (quoted (s.data.toList.drop k)) ∧ Only b w w' := by
  have HC := Lib.hid hc
  have hbw := Lib.hid hc.lt
  clear hc
  go_enter Tryz.func48, Tryz.ntmps48
  go_wp2_with fail
  refine (cTake_c b s k hk hs 34 (by omega) (by omega) _ HC.out).mono ?_
  rintro e w1 ⟨t, rfl, ht, hf, ho⟩
  cases t with
  | false =>
    obtain ⟨hn, hc1⟩ := hf rfl
    have HQ := Lib.hid (quoted_not hn)
    have HC1 := Lib.hid hc1
    clear ht hf hn hc1
    go_wp2_with fail
    refine wp_loop_rounds 1 ?_
    rw [rounds_succ]
    go_wp2_with fail
    go_ret2
    exact ⟨by rw [HQ.out]; rfl, ⟨k, Nat.le_refl _, hk, HC1.out, fun v r h => by rw [HQ.out] at h; cases h⟩, ho⟩
  | true =>
    obtain ⟨hlt, h34, hc1⟩ := ht rfl
    have HQ := Lib.hid (quoted_open hlt h34)
    have hbs : b < w1.heap.size := hc1.lt
    have HBS := Lib.hid hbs
    clear ht hf h34 hbs
    go_wp2_with fail
    go_loopg [4] (s.size - k) (fun gf v wr => ∃ (j : Nat) (acc : List UInt8), k < j ∧ j ≤ s.size ∧ s.size ≤ j + gf ∧ acc.length ≤ j ∧ Cur wr b s j ∧ Own wr w1.heap.size v acc ∧ pre2 acc (quoL (s.data.toList.drop j)) = quoted (s.data.toList.drop k) ∧ Only b w1 wr)
    case atStart => exact ⟨k + 1, [], by omega, by omega, by omega, Nat.zero_le _, hc1, Own.nil _ _, by rw [pre2_nil]; exact HQ.out.symm, Only.refl _ _⟩
    case round =>
      obtain ⟨j, acc, hkj, hj, hgf, hacc, hcj, hown, hJ, hO⟩ := hrel
      have HCJ := Lib.hid hcj
      have HJ := Lib.hid hJ
      clear hc1 hJ
      have c0 := hcj.c0
      have c1 := hcj.c1
      have f1 := hcj.f1
      clear hcj
      have HD := Lib.hid (cDone_c b s j wr HCJ.out)
      by_cases hlt2 : j < s.size
      · have hd : decide (s.size ≤ j) = false := by simp; omega
        rw [hd] at HD
        have hb := byte_lt s[j]
        have hlen : acc.length + 1 ≤ 100000000 := by omega
        have hbase : ∀ (n : Nat) o, w1.heap.size ≤ ((wr.drewN n).alloc o).heap.size := fun n o => by have := hO.size; simp; omega
        by_cases x34 : s[j].toNat = 34
        · have HX := Lib.hid (quo_close hlt2 x34 HJ.out)
          have e34 : ((s[j].toNat : Int) == 34) = true := by rw [x34]; rfl
          clear x34
          go_wp2_with fail
          refine HD.out.mono ?_
          rintro e w2 ⟨rfl, m, rfl⟩
          go_wp2_with fail
          go_quiet (fail)
          have hcv := (Own.only (w := wr.drewN (m + nq)) hown (Only.set (b := b) (j := 1) (w := wr.drewN (m + nq)) (.int .i64 ((j : Int) + 1))) HBS.out).conv 67 Tryz.underlying67
          go_wp2_with fail
          go_ret2
          exact ⟨by rw [HX.out]; rfl, ⟨j + 1, by omega, by omega, Cur.set (w := wr.drewN (m + nq)) HCJ.out (j + 1), fun v r h => by rw [HX.out] at h; cases h; rfl⟩, ho.trans ((hO.drewN _).trans (Only.set _))⟩
        · have e34 : ((s[j].toNat : Int) == 34) = false := by simp; omega
          by_cases x92 : s[j].toNat = 92
          · have e92 : ((s[j].toNat : Int) == 92) = true := by rw [x92]; rfl
            have HD2 := fun W h => cDone_c b s (j + 1) W h
            by_cases hlt3 : j + 1 < s.size
            · have hd2 : decide (s.size ≤ j + 1) = false := by simp; omega
              rw [hd2] at HD2
              have HD2 := Lib.hid HD2
              have hb2 := byte_lt s[j + 1]
              have hix := ix_at (s := s) (i := (j : Int) + 1) (k := j + 1) (by omega) hlt3
              have hlen2 : acc.length + 1 ≤ 100000000 := by omega
              by_cases hv : inVN s[j + 1].toNat = true
              · have HX := Lib.hid (quo_back hlt2 x92 hlt3 hv HJ.out)
                clear x34 x92
                go_wp2_with fail
                refine HD.out.mono ?_
                rintro e w2 ⟨rfl, m, rfl⟩
                go_wp2_with fail
                go_quiet (fail)
                go_wp2_with fail
                have hC1 : Cur ((wr.drewN (m + nq)).setCell ⟨b, 1, none⟩ (.int .i64 ((j : Int) + 1))) b s (j + 1) := Cur.set (w := wr.drewN (m + nq)) HCJ.out (j + 1)
                have hO1 : Only b w1 ((wr.drewN (m + nq)).setCell ⟨b, 1, none⟩ (.int .i64 ((j : Int) + 1))) := (hO.drewN _).trans (Only.set _)
                have hown1 : Own ((wr.drewN (m + nq)).setCell ⟨b, 1, none⟩ (.int .i64 ((j : Int) + 1))) w1.heap.size _ acc := Own.only (w := wr.drewN (m + nq)) hown (Only.set _) HBS.out
                generalize (wr.drewN (m + nq)).setCell ⟨b, 1, none⟩ (.int .i64 ((j : Int) + 1)) = W1 at *
                clear c0 c1 f1 hbase
                have HC1 := Lib.hid hC1
                have c0 := hC1.c0
                have c1 : W1.cell? ⟨b, 1, none⟩ = some (.int .i64 ((j : Int) + 1)) := hC1.c1
                have f1 := hC1.f1
                have hbase : ∀ (n : Nat) o, w1.heap.size ≤ ((W1.drewN n).alloc o).heap.size := fun n o => by have := hO1.size; simp; omega
                clear hC1
                refine (HD2.out _ HC1.out).mono ?_
                rintro e w2 ⟨rfl, m2, rfl⟩
                go_wp2_with fail
                go_quiet (fail)
                have HOWN := hown1
                go_wp2_with (first | (go_at_call 65; refine (inValue_c _ (by omega) (by omega) _).mono ?_; rintro e w' ⟨rfl, rfl⟩) | (at_builtin; go_must (refine wpList_append_bytes rfl _ _ 67 rfl Tryz.underlying67 w1.heap.size _ acc rfl (Own.alloc (w := W1.drewN (m2 + nq)) HOWN _) ⟨(W1.drewN (m2 + nq)).heap.size, 0, none⟩ 1 1 [s[j + 1]] rfl rfl (news_bytes (W1.drewN (m2 + nq)) [s[j + 1]] _ rfl) hlen (hbase _ _) ?_); intro v' w3 hown' hg; have hcj3 := cur_app (wr := W1.drewN (m2 + nq)) (HC1.out) HOWN HBS.out hg; have c03 := hcj3.c0; have c13 := hcj3.c1; have f13 := hcj3.f1))
                go_roundg (gk - 1)
                case measure => omega
                case rel => exact ⟨j + 1 + 1, acc ++ [s[j + 1]], by omega, by omega, by omega, by simp; omega, hcj3.set (j + 1 + 1), Own.only hown' (Only.set _) HBS.out, HX.out, (only_app (wr := W1.drewN (m2 + nq)) (hO1.drewN _) hown1 (Nat.le_refl _) hg).trans (Only.set _)⟩
              · have hv' : inVN s[j + 1].toNat = false := by simpa using hv
                have HX := Lib.hid (quo_backbad hlt2 x92 hlt3 hv' HJ.out)
                clear x34 x92 hv
                go_wp2_with fail
                refine HD.out.mono ?_
                rintro e w2 ⟨rfl, m, rfl⟩
                go_wp2_with fail
                go_quiet (fail)
                go_wp2_with fail
                have hC1 : Cur ((wr.drewN (m + nq)).setCell ⟨b, 1, none⟩ (.int .i64 ((j : Int) + 1))) b s (j + 1) := Cur.set (w := wr.drewN (m + nq)) HCJ.out (j + 1)
                have hO1 : Only b w1 ((wr.drewN (m + nq)).setCell ⟨b, 1, none⟩ (.int .i64 ((j : Int) + 1))) := (hO.drewN _).trans (Only.set _)
                have hown1 : Own ((wr.drewN (m + nq)).setCell ⟨b, 1, none⟩ (.int .i64 ((j : Int) + 1))) w1.heap.size _ acc := Own.only (w := wr.drewN (m + nq)) hown (Only.set _) HBS.out
                generalize (wr.drewN (m + nq)).setCell ⟨b, 1, none⟩ (.int .i64 ((j : Int) + 1)) = W1 at *
                clear c0 c1 f1 hbase
                have HC1 := Lib.hid hC1
                have c0 := hC1.c0
                have c1 : W1.cell? ⟨b, 1, none⟩ = some (.int .i64 ((j : Int) + 1)) := hC1.c1
                have f1 := hC1.f1
                have hbase : ∀ (n : Nat) o, w1.heap.size ≤ ((W1.drewN n).alloc o).heap.size := fun n o => by have := hO1.size; simp; omega
                clear hC1
                refine (HD2.out _ HC1.out).mono ?_
                rintro e w2 ⟨rfl, m2, rfl⟩
                go_wp2_with fail
                go_quiet (fail)
                go_wp2_with (go_at_call 65; refine (inValue_c _ (by omega) (by omega) _).mono ?_; rintro e w' ⟨rfl, rfl⟩)
                go_ret2
                exact ⟨by rw [HX.out]; rfl, ⟨j + 1, by omega, by omega, HC1.out, fun v r h => by rw [HX.out] at h; cases h⟩, ho.trans (hO1.drewN _)⟩
            · have hd2 : decide (s.size ≤ j + 1) = true := by simp; omega
              rw [hd2] at HD2
              have HD2 := Lib.hid HD2
              have HX := Lib.hid (quo_backend hlt2 x92 hlt3 HJ.out)
              clear x34 x92
              go_wp2_with fail
              refine HD.out.mono ?_
              rintro e w2 ⟨rfl, m, rfl⟩
              go_wp2_with fail
              go_quiet (fail)
              go_wp2_with fail
              have hC1 : Cur ((wr.drewN (m + nq)).setCell ⟨b, 1, none⟩ (.int .i64 ((j : Int) + 1))) b s (j + 1) := Cur.set (w := wr.drewN (m + nq)) HCJ.out (j + 1)
              have hO1 : Only b w1 ((wr.drewN (m + nq)).setCell ⟨b, 1, none⟩ (.int .i64 ((j : Int) + 1))) := (hO.drewN _).trans (Only.set _)
              have hown1 : Own ((wr.drewN (m + nq)).setCell ⟨b, 1, none⟩ (.int .i64 ((j : Int) + 1))) w1.heap.size _ acc := Own.only (w := wr.drewN (m + nq)) hown (Only.set _) HBS.out
              generalize (wr.drewN (m + nq)).setCell ⟨b, 1, none⟩ (.int .i64 ((j : Int) + 1)) = W1 at *
              clear c0 c1 f1 hbase
              have HC1 := Lib.hid hC1
              have c0 := hC1.c0
              have c1 : W1.cell? ⟨b, 1, none⟩ = some (.int .i64 ((j : Int) + 1)) := hC1.c1
              have f1 := hC1.f1
              have hbase : ∀ (n : Nat) o, w1.heap.size ≤ ((W1.drewN n).alloc o).heap.size := fun n o => by have := hO1.size; simp; omega
              clear hC1
              refine (HD2.out _ HC1.out).mono ?_
              rintro e w2 ⟨rfl, m2, rfl⟩
              go_wp2_with fail
              go_ret2
              exact ⟨by rw [HX.out]; rfl, ⟨j + 1, by omega, by omega, HC1.out, fun v r h => by rw [HX.out] at h; cases h⟩, ho.trans (hO1.drewN _)⟩
          · have e92 : ((s[j].toNat : Int) == 92) = false := by simp; omega
            by_cases hv : inVN s[j].toNat = true
            · have HX := Lib.hid (quo_step hlt2 x34 x92 hv HJ.out)
              clear x34 x92
              go_wp2_with fail
              refine HD.out.mono ?_
              rintro e w2 ⟨rfl, m, rfl⟩
              go_wp2_with fail
              go_quiet (fail)
              have HOWN := hown
              go_wp2_with (first | (go_at_call 65; refine (inValue_c _ (by omega) (by omega) _).mono ?_; rintro e w' ⟨rfl, rfl⟩) | (at_builtin; go_must (refine wpList_append_bytes rfl _ _ 67 rfl Tryz.underlying67 w1.heap.size _ acc rfl (Own.alloc (w := wr.drewN (m + nq)) HOWN _) ⟨(wr.drewN (m + nq)).heap.size, 0, none⟩ 1 1 [s[j]] rfl rfl (news_bytes (wr.drewN (m + nq)) [s[j]] _ rfl) hlen (hbase _ _) ?_); intro v' w3 hown' hg; have hcj3 := cur_app (wr := wr.drewN (m + nq)) (HCJ.out) HOWN HBS.out hg; have c03 := hcj3.c0; have c13 := hcj3.c1; have f13 := hcj3.f1))
              go_roundg (gk - 1)
              case measure => omega
              case rel => exact ⟨j + 1, acc ++ [s[j]], by omega, by omega, by omega, by simp; omega, hcj3.set (j + 1), Own.only hown' (Only.set _) HBS.out, HX.out, (only_app (wr := wr.drewN (m + nq)) (hO.drewN _) hown (Nat.le_refl _) hg).trans (Only.set _)⟩
            · have hv' : inVN s[j].toNat = false := by simpa using hv
              have HX := Lib.hid (quo_bad hlt2 x34 x92 hv' HJ.out)
              clear x34 x92 hv
              go_wp2_with fail
              refine HD.out.mono ?_
              rintro e w2 ⟨rfl, m, rfl⟩
              go_wp2_with fail
              go_quiet (fail)
              go_wp2_with (go_at_call 65; refine (inValue_c _ (by omega) (by omega) _).mono ?_; rintro e w' ⟨rfl, rfl⟩)
              go_ret2
              exact ⟨by rw [HX.out]; rfl, ⟨j, by omega, hj, HCJ.out, fun v r h => by rw [HX.out] at h; cases h⟩, ho.trans (hO.drewN _)⟩
      · have hd : decide (s.size ≤ j) = true := by simp; omega
        have HX := Lib.hid (quo_end hlt2 HJ.out)
        rw [hd] at HD
        go_wp2_with fail
        refine HD.out.mono ?_
        rintro e w2 ⟨rfl, m, rfl⟩
        go_wp2_with fail
        go_ret2
        exact ⟨by rw [HX.out]; rfl, ⟨j, by omega, hj, HCJ.out, fun v r h => by rw [HX.out] at h; cases h⟩, ho.trans (hO.drewN _)⟩
end Go.Proofs.YtaopehogpdgkgaaGreat
