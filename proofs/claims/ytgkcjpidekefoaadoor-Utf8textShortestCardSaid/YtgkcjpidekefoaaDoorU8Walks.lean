/- Contracts of the functions of chapter 2 (program and reference). -/
import Derived.Test.YtgkcjpidekefoaaDoorRows
import Derived.WalkKit
import Derived.WalkSpells
import Derived.WalkLawsBesides
import Derived.Lib.Hide
import Derived.Deep.QuietTactic
import Derived.BigQuiet
import Derived.Laws.BitsAllLaws
import Derived.Laws.BitsLemmas
import Derived.Test.YtgkcjpidekefoaaDoorMem
import Derived.Test.YtgkcjpidekefoaaDoorU8Plain
namespace Go.Proofs.YtgkcjpidekefoaaDoor
open Go.RowKit

theorem ret_b {a b : Bool} (h : a = b) : Ending.returned (.bool a) = .returned (.bool b) := by rw [h]
theorem ret_i {k : IntKind} {a b : Int} (h : a = b) : Ending.returned (.int k a) = .returned (.int k b) := by rw [h]
theorem ret_s {a b : ByteArray} (h : a = b) : Ending.returned (.string a) = .returned (.string b) := by rw [h]

/-- the cells of the table of forms -/
def formCells : Array Value := #[.int .u8 0, .int .u8 127, .int .i64 0, .int .u8 192, .int .u8 31, .int .i64 128, .int .u8 224, .int .u8 15, .int .i64 2048, .int .u8 240, .int .u8 7, .int .i64 65536]
def Forms (w : World) : Prop := ∃ t fr, w.heap[0]? = some (.cells formCells t fr)


set_option maxHeartbeats 400000 in
theorem point_c (r : Int) (w : World) :
    Calls Tryd.prog 17 #[.int .i64 r] w fun e w' => e = .returned (.bool (decide (0 ≤ r) && pointN r.toNat)) ∧ w = w' := by
  go_enter Tryd.func17, Tryd.ntmps17
  go_wp2
  all_goals
    go_ret
    exact ⟨ret_b (by rw [Bool.eq_iff_iff]; simp [pointN] <;> omega), rfl⟩

theorem point_n (r : Nat) (w : World) :
    Calls Tryd.prog 17 #[.int .i64 r] w fun e w' => e = .returned (.bool (pointN r)) ∧ w = w' :=
  (point_c r w).mono fun e w' ⟨h1, h2⟩ => ⟨h1.trans (ret_b (by simp)), h2⟩
set_option maxHeartbeats 400000 in
theorem rpoint_c (r : Int) (w : World) :
    Calls Tryd.prog 19 #[.int .i64 r] w fun e w' => e = .returned (.bool (decide (0 ≤ r) && pointN r.toNat)) ∧ w = w' := by
  go_enter Tryd.func19, Tryd.ntmps19
  go_wp2
  all_goals
    go_ret
    exact ⟨ret_b (by rw [Bool.eq_iff_iff]; simp [pointN] <;> omega), rfl⟩

theorem rpoint_n (r : Nat) (w : World) :
    Calls Tryd.prog 19 #[.int .i64 r] w fun e w' => e = .returned (.bool (pointN r)) ∧ w = w' :=
  (rpoint_c r w).mono fun e w' ⟨h1, h2⟩ => ⟨h1.trans (ret_b (by simp)), h2⟩
theorem idx_form0 (w : World) : (Instr.index 36 (.agg formCells) (.int .i64 0)).run Tryd.prog w = .ok (.agg #[.int .u8 0, .int .u8 127, .int .i64 0]) w := by kernel_rfl
theorem idx_form1 (w : World) : (Instr.index 36 (.agg formCells) (.int .i64 1)).run Tryd.prog w = .ok (.agg #[.int .u8 192, .int .u8 31, .int .i64 128]) w := by kernel_rfl
theorem idx_form2 (w : World) : (Instr.index 36 (.agg formCells) (.int .i64 2)).run Tryd.prog w = .ok (.agg #[.int .u8 224, .int .u8 15, .int .i64 2048]) w := by kernel_rfl
theorem idx_form3 (w : World) : (Instr.index 36 (.agg formCells) (.int .i64 3)).run Tryd.prog w = .ok (.agg #[.int .u8 240, .int .u8 7, .int .i64 65536]) w := by kernel_rfl
/-- the row of the table at index i -/
theorem idx_form (i : Nat) (hi : i < 4) (w : World) : (Instr.index 36 (.agg formCells) (.int .i64 (i : Int))).run Tryd.prog w = .ok (.agg #[.int .u8 (mkN i), .int .u8 (msN i), .int .i64 (lsN i)]) w :=
  match i, hi with
  | 0, _ => idx_form0 w
  | 1, _ => idx_form1 w
  | 2, _ => idx_form2 w
  | 3, _ => idx_form3 w


theorem i64_or6 (r x : Nat) (hr : r < 67108864) (hx : x < 64) : bits .or .i64 ((r : Int) * 64) (x : Int) = ((r * 64 + x : Nat) : Int) := by
  have h := bits_join .i64 62 (by decide) (fun n h0 h1 => by rw [IntKind.wrap_i64]; omega) 6 ((r : Int) * 64) (x : Int) (by omega) (by omega) (by omega) (by omega) (by omega) (by omega)
  rw [h]; simp
/-- what Decode answers -/
def decR (at_ : Nat) (o : Option (Nat × Nat)) : Value :=
  match o with
  | some (r, n) => .tuple #[.int .i64 r, .int .i64 (at_ + n : Nat), .int .i64 0]
  | none => .tuple #[.int .i64 0, .int .i64 0, .int .i64 7]
theorem dec_ret0 {at_ : Nat} {X : Option (Nat × Nat)} (h : X = none) : Ending.returned (.tuple #[.int .i64 0, .int .i64 0, .int .i64 7]) = .returned (decR at_ X) := by rw [h]; rfl
theorem dec_ret1 {at_ i r : Nat} {X : Option (Nat × Nat)} (h : X = some (r, i + 1)) {a b : Int} (ha : a = r) (hb : b = at_ + i + 1) : Ending.returned (.tuple #[.int .i64 a, .int .i64 b, .int .i64 0]) = .returned (decR at_ X) := by
  rw [h, ha, hb]; show _ = Ending.returned (.tuple #[.int .i64 (r : Int), .int .i64 ((at_ + (i + 1) : Nat) : Int), .int .i64 0]); rw [show ((at_ + (i + 1) : Nat) : Int) = (at_ : Int) + i + 1 by omega]
theorem below_dn {B : Nat} {a w : World} (h : Below B a w) (n : Nat) : Below B a (w.drewN n) := ⟨h.os, h.tape, h.output, h.size, h.block⟩
theorem and63_low6 (b : UInt8) : bits .and .u8 (b.toNat : Int) 63 = ((low6 b : Nat) : Int) := by
  have := b.toNat_lt
  have h := u8_and63 (x := (b.toNat : Int)) (by omega) (by omega)
  rw [h]; unfold low6; omega
theorem and192 (b : UInt8) : bits .and .u8 (b.toNat : Int) 192 = ((b.toNat &&& 192 : Nat) : Int) := u8_and_nat _ 192 (by have := b.toNat_lt; omega) (by omega)
theorem below_ad {w wr : World} {o : Obj} {n : Nat} (h : Below w.heap.size w wr) : Below w.heap.size w ((wr.alloc o).drewN n) :=
  below_dn (h.alloc h.size o) n

set_option maxHeartbeats 1000000 in
theorem decode_c (s : ByteArray) (at_ : Nat) (hs : s.size ≤ 1000000) (w : World) (hf : Forms w) (h1 : at_ < s.size) :
    Calls Tryd.prog 9 #[.string s, .int .i64 at_] w fun e w' => e = .returned (decR at_ (decL (s.data.toList.drop at_))) ∧ Below w.heap.size w w' := by
  obtain ⟨t, fr, hf⟩ := hf
  have d0 : decide ((at_ : Int) < 0) = false := by simp
  have d1 : decide ((s.size : Int) ≤ (at_ : Int)) = false := by simp; omega
  go_enter Tryd.func9, Tryd.ntmps9
  go_wp2_with (refine wpList_load_row rfl 36 _ rfl 0 rfl t _ fr _ hf Tryd.underlying36 rfl (by kernel_rfl) ?_)
  go_loopw [20] (fun v wr => ∃ i : Nat, i ≤ 4 ∧ v = .int .i64 i ∧ decFrom (4 - i) i (s.data.toList.drop at_) = decL (s.data.toList.drop at_) ∧ Below w.heap.size w wr) (fun v _ => 4 - (intOf v).toNat)
  case atStart => exact ⟨0, by omega, rfl, dec_from _, Below.refl _ _⟩
  case round =>
    obtain ⟨i, hi, rfl, hd, hB⟩ := hrel
    have HD := Lib.hid hd
    clear hd hf
    by_cases hlt : i < 4
    · have hix := idx_form i hlt
      have d2 : decide ((i : Int) < 4) = true := by simp; omega
      have hb := byte_lt s[at_]
      have hm : (msN i : Int) ≤ 127 := by unfold msN; split <;> omega
      have hl : (lsN i : Int) ≤ 65536 := by unfold lsN; split <;> omega
      have hmN : msN i ≤ 127 := by omega
      have e1 : bits .andNot .u8 (s[at_].toNat : Int) (msN i : Int) = ((s[at_].toNat &&& (255 - msN i) : Nat) : Int) := u8_andNot_nat _ _ (by omega) (by omega)
      have e2 : bits .and .u8 (s[at_].toNat : Int) (msN i : Int) = ((headV i s[at_] : Nat) : Int) := u8_and_nat _ _ (by omega) (by omega)
      by_cases hok : headOk i s[at_] = true
      · have e3 : (((s[at_].toNat &&& (255 - msN i) : Nat) : Int) != (mkN i : Int)) = false := by
          have : s[at_].toNat &&& (255 - msN i) = mkN i := by simpa [headOk] using hok
          rw [this]; simp
        have hv : (headV i s[at_] : Int) ≤ 255 := by have := @Nat.and_le_left s[at_].toNat (msN i); unfold headV; omega
        by_cases hlen : s.size < at_ + 1 + i
        · have HX := Lib.hid (dec_short h1 hlt hok hlen HD.out)
          clear hok HD
          generalize headV i s[at_] = hv0 at *
          generalize mkN i = mk at *
          generalize msN i = ms at *
          generalize lsN i = ls at *
          go_wp2
          go_quiet (fail)
          go_wp2
          go_quiet (fail)
          go_wp2
          go_ret3
          exact ⟨dec_ret0 HX.out, below_ad hB⟩
        · have d3 : decide ((s.size : Int) - (at_ : Int) - 1 < (i : Int)) = false := by simp; omega
          have HX := Lib.hid (dec_go h1 hlt hok hlen HD.out)
          have HL : Hid (finV i = fun o => match o with | none => none | some r => if decide (lsN i ≤ r) && pointN r then some (r, i + 1) else none) := rfl
          clear hok HD
          generalize headV i s[at_] = hv0 at *
          generalize mkN i = mk at *
          generalize msN i = ms at *
          generalize lsN i = ls at *
          go_wp2
          go_quiet (fail)
          go_wp2
          go_quiet (fail)
          go_wp2
          clear e1 e2 e3 hix hb
          go_loop [9, 10] (fun u v => ∃ k r : Nat, 1 ≤ k ∧ k ≤ i + 1 ∧ v = .int .i64 k ∧ u = .int .i64 r ∧ ((k = 1 ∧ r < 256) ∨ (k = 2 ∧ r < 16384) ∨ (k = 3 ∧ r < 1048576) ∨ (k = 4 ∧ r < 67108864)) ∧ contsF (s.data.toList.drop (at_ + k)) (i + 1 - k) r = contsF (s.data.toList.drop (at_ + 1)) i hv0) (fun _ v => 5 - (intOf v).toNat)
          case atStart => exact ⟨1, hv0, by omega, by omega, rfl, rfl, by omega, rfl⟩
          case round =>
            obtain ⟨k, r, hk0, hk, rfl, rfl, hrb, hco⟩ := hrel
            have HC := Lib.hid hco
            have HR := Lib.hid hrb
            have hr0 : r < 67108864 := by omega
            clear hco hrb
            by_cases hki : k ≤ i
            · have hak : at_ + k < s.size := by omega
              have hb := byte_lt s[at_ + k]
              have f1 := and192 s[at_ + k]
              have f2 := and63_low6 s[at_ + k]
              have hx6 := lt6 s[at_ + k]
              have f3 := i64_or6 r (low6 s[at_ + k]) hr0 hx6
              have hca := contB_and s[at_ + k]
              by_cases hcb : contB s[at_ + k] = true
              · have f4 : (((s[at_ + k].toNat &&& 192 : Nat) : Int) != 128) = false := by
                  rw [hcb] at hca; have : s[at_ + k].toNat &&& 192 = 128 := by simpa using hca
                  rw [this]; rfl
                have HS := Lib.hid (conts_step hki hak hcb HC.out)
                have HB2 := Lib.hid (bound_next HR.out (by omega) hx6)
                clear hca hcb
                generalize low6 s[at_ + k] = x6 at *
                go_wp2
                go_round
                case rel => exact ⟨k + 1, r * 64 + x6, by omega, by omega, by go_num, rfl, HB2.out, HS.out⟩
                case measure => simp [intOf]; omega
              · have hcb' : contB s[at_ + k] = false := by simpa using hcb
                have f4 : (((s[at_ + k].toNat &&& 192 : Nat) : Int) != 128) = true := by
                  rw [hcb'] at hca; have : ¬ s[at_ + k].toNat &&& 192 = 128 := by simpa using hca
                  rw [bne_iff_ne]; omega
                have HN := Lib.hid (conts_bad hki hak hcb' HC.out)
                clear hca hcb hcb'
                go_wp2
                go_ret3
                exact ⟨dec_ret0 (by rw [← HX.out, HN.out]; rfl), below_ad hB⟩
            · have HE := Lib.hid (conts_end hk hki HC.out)
              have hF : finV i (some r) = decL (s.data.toList.drop at_) := by rw [← HX.out, HE.out]
              rw [HL.out] at hF
              have HF := Lib.hid hF
              clear hF HL
              by_cases hls : ls ≤ r
              · by_cases hp : pointN r = true
                · have HY := Lib.hid (show decL (s.data.toList.drop at_) = some (r, i + 1) from by rw [← HF.out]; simp [hls, hp])
                  clear HF
                  go_wp2_with (go_at_call 17; refine (point_n _ _).mono ?_; rintro e w' ⟨rfl, rfl⟩)
                  go_ret3
                  exact ⟨dec_ret1 HY.out rfl rfl, below_ad hB⟩
                · have hp' : pointN r = false := by simpa using hp
                  have HY := Lib.hid (show decL (s.data.toList.drop at_) = none from by rw [← HF.out]; simp [hls, hp'])
                  clear HF hp
                  go_wp2_with (go_at_call 17; refine (point_n _ _).mono ?_; rintro e w' ⟨rfl, rfl⟩)
                  go_ret3
                  exact ⟨dec_ret0 HY.out, below_ad hB⟩
              · have HY := Lib.hid (show decL (s.data.toList.drop at_) = none from by rw [← HF.out]; simp [hls])
                clear HF
                go_wp2
                go_ret3
                exact ⟨dec_ret0 HY.out, below_ad hB⟩
      · have e3 : (((s[at_].toNat &&& (255 - msN i) : Nat) : Int) != (mkN i : Int)) = true := by
          have : ¬ s[at_].toNat &&& (255 - msN i) = mkN i := by simpa [headOk] using hok
          rw [bne_iff_ne]; omega
        have HX := Lib.hid (dec_next h1 hlt hok HD.out)
        generalize mkN i = mk at *
        generalize msN i = ms at *
        generalize lsN i = ls at *
        clear hok
        go_wp2
        go_quiet (fail)
        go_wp2
        go_roundw
        case rel => exact ⟨i + 1, by omega, by go_num, HX.out, below_ad hB⟩
        case measure => simp [intOf]; omega
    · have HX := Lib.hid (dec_none hi hlt HD.out)
      go_wp2
      go_ret3
      exact ⟨dec_ret0 HX.out, hB⟩
end Go.Proofs.YtgkcjpidekefoaaDoor
