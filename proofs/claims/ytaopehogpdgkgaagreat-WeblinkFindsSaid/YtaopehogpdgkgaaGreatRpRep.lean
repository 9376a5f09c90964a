/- (*strings.byteStringReplacer).Replace: the walk. -/
import Derived.Test.YtaopehogpdgkgaaGreatRpRun
namespace Go.Proofs.YtaopehogpdgkgaaGreat
open Go.RowKit
/-- what the replacer's table holds at a byte -/
theorem rep_at {w : World} {b p q cp cq : Nat} (h : ∀ j, j < 256 → w.cell? ⟨b, j, none⟩ = some (if j = 34 then .slice (some ⟨p, 0, none⟩) 2 cp else if j = 92 then .slice (some ⟨q, 0, none⟩) 2 cq else .slice none 0 0)) (c : UInt8) :
    (c.toNat = 34 → w.cell? ⟨b, c.toNat, none⟩ = some (.slice (some ⟨p, 0, none⟩) 2 cp)) ∧ (c.toNat = 92 → w.cell? ⟨b, c.toNat, none⟩ = some (.slice (some ⟨q, 0, none⟩) 2 cq)) ∧ (¬ (c.toNat = 34 ∨ c.toNat = 92) → w.cell? ⟨b, c.toNat, none⟩ = some (.slice none 0 0)) := by
  have h1 := h c.toNat c.toNat_lt
  refine ⟨fun e => ?_, fun e => ?_, fun e => ?_⟩
  · rw [h1, if_pos e]
  · rw [h1, if_neg (by omega), if_pos e]
  · rw [h1, if_neg (by omega), if_neg (by omega)]
theorem add_at0 (g i : Nat) : (⟨g, 0, none⟩ : Addr).add i = ⟨g, i, none⟩ := by unfold Addr.add; split <;> simp_all
theorem quote_pre (s : ByteArray) (k : Nat) : (quoteL (s.data.toList.take k)).length ≤ (quoteL s.data.toList).length := by
  conv => rhs; rw [← List.take_append_drop k s.data.toList]
  unfold quoteL
  rw [List.flatMap_append, List.length_append]
  omega
set_option maxRecDepth 100000 in
set_option maxHeartbeats 8000000 in
theorem bsrReplace_c (B b : Nat) (s : ByteArray) (hs : s.size ≤ 1000000) (w : World) (hR : RB w B b) :
    Calls Tryz.prog 144 #[.pointer (some ⟨b, 0, none⟩), .string s] w fun e w' => e = .returned (.string (S (quoteL s.data.toList))) ∧ Below w.heap.size w w' := by
  have HRB := Lib.hid hR
  obtain ⟨p, q, r, cp, cq, cr, h1, h2, h3, h4, h5, h6, l1, l2, l3, l4⟩ := hR
  have h5' : w.cell? ⟨r, 0, none⟩ = some (.string ⟨#[34]⟩) := h5
  have h6' : w.cell? ⟨r, 1, none⟩ = some (.string ⟨#[92]⟩) := h6
  have t34 : w.cell? ⟨b, 34, none⟩ = some (.slice (some ⟨p, 0, none⟩) 2 cp) := h1 34 (by decide)
  have t92 : w.cell? ⟨b, 92, none⟩ = some (.slice (some ⟨q, 0, none⟩) 2 cq) := h1 92 (by decide)
  have H1 := Lib.hid h1
  have ix34 : ∀ W, (Instr.index 9 (.string ⟨#[34]⟩) (.int .i64 0)).run Tryz.prog W = .ok (.int .u8 34) W := fun _ => by kernel_rfl
  have ix92 : ∀ W, (Instr.index 9 (.string ⟨#[92]⟩) (.int .i64 0)).run Tryz.prog W = .ok (.int .u8 92) W := fun _ => by kernel_rfl
  obtain ⟨c34, hc34⟩ : ∃ c, Lib.countByte s.data.toList 34 = c := ⟨_, rfl⟩
  obtain ⟨c92, hc92⟩ : ∃ c, Lib.countByte s.data.toList 92 = c := ⟨_, rfl⟩
  have hcn : cntQ s.data.toList = c34 + c92 := by unfold cntQ; rw [hc34, hc92]
  have hcl := cnt_le s.data.toList
  rw [hcn, size_toList] at hcl
  have hC1 := count_c s 34
  have hC2 := count_c s 92
  rw [hc34] at hC1
  rw [hc92] at hC2
  have HC1 := Lib.hid hC1
  have HC2 := Lib.hid hC2
  have HCN := Lib.hid hcn
  clear h1 h3 h4 h5 h6 l1 l2 l3 l4 hc34 hc92 hC1 hC2 hcn
  have hnn : ∀ (W : World) (a : Option Addr) (n c : Nat), (binOp .neq 67 (.slice a n c) (.slice none 0 0)).run Tryz.prog W = .ok (.bool (!a.isNone)) W := fun W a n c => run_neq_slice_nil_any W _ 5 a n c 0 0 Tryz.underlying67
  by_cases h16 : 16 ≤ s.size
  · have h16' : (16 : Int) ≤ (s.size : Int) := by omega
    go_enter Tryz.func144, Tryz.ntmps144
    go_wp2_with fail
    go_loopw [5, 6, 32] (fun u5 u6 u32 wr => ∃ (k n m : Nat), k ≤ 2 ∧ u32 = .int .i64 (k : Int) ∧ u5 = .int .i64 (((s.size + n : Nat)) : Int) ∧ u6 = .bool (decide (0 < n)) ∧ n = (if k = 0 then 0 else if k = 1 then c34 else c34 + c92) ∧ wr = w.drewN m) (fun _ _ u32 _ => 3 - (intOf u32).toNat)
    case atStart => exact ⟨0, 0, 0, by decide, rfl, rfl, rfl, rfl, rfl⟩
    case round =>
      obtain ⟨k, n, m, hk, rfl, rfl, rfl, hn, rfl⟩ := hrel
      have hk3 : k = 0 ∨ k = 1 ∨ k = 2 := by omega
      rcases hk3 with rfl | rfl | rfl
      · rw [if_pos rfl] at hn
        subst hn
        by_cases hz : c34 = 0
        · subst hz
          go_wp2_with (go_at_call 146; refine (HC1.out _).mono ?_; rintro e w' ⟨rfl, rfl⟩)
          go_roundw
          case rel => exact ⟨1, 0, m, by decide, rfl, rfl, rfl, rfl, rfl⟩
          case measure => simp [intOf]
        · have hz' : ¬ (c34 : Int) = 0 := by omega
          have hzp : 0 < c34 := by omega
          have r1 : IntKind.i64.wrap ((c34 : Nat) : Int) = (c34 : Int) := IntWalk.i64_in _ (by omega)
          have r2 : IntKind.i64.wrap ((s.size : Int) + (c34 : Int)) = (s.size : Int) + (c34 : Int) := IntWalk.i64_in _ (by omega)
          go_wp2_with (go_at_call 146; refine (HC1.out _).mono ?_; rintro e w' ⟨rfl, rfl⟩)
          go_quiet (fail)
          clear r1 r2
          go_wp2_with fail
          go_roundw
          case rel => exact ⟨1, c34, _, by decide, rfl, by go_num, by rw [decide_eq_true hzp], rfl, rfl⟩
          case measure => simp [intOf]
      · rw [if_neg (by decide), if_pos rfl] at hn
        subst hn
        by_cases hz : c92 = 0
        · subst hz
          go_wp2_with (go_at_call 146; refine (HC2.out _).mono ?_; rintro e w' ⟨rfl, rfl⟩)
          go_roundw
          case rel => exact ⟨2, n, m, by decide, rfl, by go_num, rfl, rfl, rfl⟩
          case measure => simp [intOf]
        · have hz' : ¬ (c92 : Int) = 0 := by omega
          have hzp : 0 < n + c92 := by omega
          have r1 : IntKind.i64.wrap ((c92 : Nat) : Int) = (c92 : Int) := IntWalk.i64_in _ (by omega)
          have r2 : IntKind.i64.wrap ((s.size : Int) + (n : Int) + (c92 : Int)) = (s.size : Int) + (n : Int) + (c92 : Int) := IntWalk.i64_in _ (by omega)
          go_wp2_with (go_at_call 146; refine (HC2.out _).mono ?_; rintro e w' ⟨rfl, rfl⟩)
          go_quiet (fail)
          clear r1 r2
          go_wp2_with fail
          go_roundw
          case rel => exact ⟨2, n + c92, _, by decide, rfl, by go_num, by rw [decide_eq_true hzp], rfl, rfl⟩
          case measure => simp [intOf]
      · rw [if_neg (by decide), if_neg (by decide)] at hn
        subst hn
        rw [show ((2 : Nat) : Int) = 2 from rfl]
        have HR0 := Lib.hid (show RB (w.drewN m) B b from HRB.out)
        have HB0 := Lib.hid (show Below w.heap.size w (w.drewN m) from ⟨rfl, rfl, rfl, Nat.le_refl _, fun _ _ => rfl⟩)
        clear h5' h6' t34 t92 h2 HRB H1 hk
        generalize w.drewN m = w0 at *
        obtain ⟨n, hnE⟩ : ∃ n, c34 + c92 = n := ⟨_, rfl⟩
        rw [hnE] at HCN hcl ⊢
        clear hnE HC1 HC2 ix34 ix92
        by_cases hn0 : n = 0
        · subst hn0
          have HQ := Lib.hid (quote_none _ HCN.out)
          go_wp2_with fail
          go_ret
          exact ⟨ret_s (by rw [HQ.out]; rfl), HB0.out⟩
        · have hnp : 0 < n := by omega
          have hnd : decide (0 < n) = true := decide_eq_true hnp
          rw [hnd]
          clear hnd
          obtain ⟨N, hN⟩ : ∃ N, s.size + n = N := ⟨_, rfl⟩
          rw [hN]
          have hNl : N ≤ 2000000 := by omega
          have hqN : (quoteL s.data.toList).length = N := by rw [quote_cnt, HCN.out, size_toList]; exact hN
          have HQN := Lib.hid hqN
          have hmk := fun W => run_make_row' (P := Tryz.prog) 67 5 (.int .u8 0) 1 Tryz.underlying67 info5 rfl .i64 .i64 N (by omega) (by omega) W
          have hBm := (Below.refl w0.heap.size w0).alloc (Nat.le_refl _) (.cells (madeCells #[.int .u8 0] N) 5)
          have hbm := heap_alloc_new w0 (.cells (madeCells #[.int .u8 0] N) 5)
          have HBm := Lib.hid hBm
          have Hbm := Lib.hid hbm
          clear hBm hbm hN hqN hcl hn0 hnp
          go_wp2_with fail
          generalize w0.alloc (.cells (madeCells #[.int .u8 0] N) 5) = w1 at *
          clear hmk
          go_loopw [13, 14] (fun u13 u14 wr => ∃ (k : Nat) (cur : List Value), k ≤ s.size ∧ u14 = .int .i64 (k : Int) ∧ u13 = .int .i64 (((quoteL (s.data.toList.take k)).length : Nat) : Int) ∧ cur.length = N ∧ cur.take (quoteL (s.data.toList.take k)).length = Lib.byteCells (quoteL (s.data.toList.take k)) ∧ wr.heap[w0.heap.size]? = some (.cells cur.toArray 5 (0, 0)) ∧ Below w0.heap.size w0 wr) (fun _ u14 _ => s.size - (intOf u14).toNat)
          case atStart => exact ⟨0, (madeCells #[.int .u8 0] N).toList, Nat.zero_le _, rfl, rfl, by rw [Array.length_toList, size_madeCells], rfl, by rw [Array.toArray_toList]; exact Hbm.out, HBm.out⟩
          case round =>
            obtain ⟨k, cur, hk, rfl, rfl, hcl, hct, hbk, hbw⟩ := hrel
            have HCT := Lib.hid hct
            have HCL := Lib.hid hcl
            have HBK := Lib.hid hbk
            clear hct hcl hbk Hbm HBm
            by_cases hkn : k < s.size
            · have HQT := Lib.hid (quote_take s k hkn)
              have hle := quote_pre s (k + 1)
              rw [HQN.out] at hle
              have hbl := s[k].toNat_lt
              have hbI : (s[k].toNat : Int) < 256 := by omega
              obtain ⟨p', q', r', cp', cq', cr', g1, _, g3, g4, _, _, gl1, gl2, gl3, _⟩ := HR0.out.later hbw
              obtain ⟨e1, e2, e3⟩ := rep_at g1 s[k]
              have HG3 := Lib.hid g3
              have HG4 := Lib.hid g4
              clear g1 g3 g4
              obtain ⟨j, hj⟩ : ∃ j, (quoteL (s.data.toList.take k)).length = j := ⟨_, rfl⟩
              have HJ := Lib.hid hj
              rw [hj]
              by_cases hc : s[k].toNat = 34 ∨ s[k].toNat = 92
              · have hq2 : quoteL (s.data.toList.take (k + 1)) = quoteL (s.data.toList.take k) ++ [92, s[k]] := by rw [HQT.out, if_pos hc]
                have hj2 : (quoteL (s.data.toList.take (k + 1))).length = j + 2 := by rw [hq2, List.length_append, hj]; rfl
                rw [hj2] at hle
                obtain ⟨pp, cpp, hcell, hbt⟩ : ∃ pp cpp, wr.cell? ⟨b, s[k].toNat, none⟩ = some (.slice (some ⟨pp, 0, none⟩) 2 cpp) ∧ BytesAt wr pp 5 [92, s[k]] := by
                  rcases hc with hc | hc
                  · exact ⟨_, _, e1 hc, by rw [show s[k] = 34 from UInt8.toNat_inj.1 hc]; exact HG3.out⟩
                  · exact ⟨_, _, e2 hc, by rw [show s[k] = 92 from UInt8.toNat_inj.1 hc]; exact HG4.out⟩
                have HBT := Lib.hid hbt
                have HQ2 := Lib.hid hq2
                have HJ2 := Lib.hid hj2
                have hjN : (j : Int) ≤ (N : Int) := by omega
                have hj0 : (0 : Int) ≤ (j : Int) := by omega
                clear e1 e2 e3 hc hbt hq2 hj2 hj
                go_wp2_with fail
                have r1 : IntKind.i64.wrap ((j : Int) + 2) = (j : Int) + 2 := IntWalk.i64_in _ (by omega)
                have hne : ¬ N = j := by omega
                have hmin : ([bv 92, bv s[k]] : List Value).length = Nat.min 2 (N - j) := by show 2 = min 2 (N - j); omega
                have HMIN := Lib.hid hmin
                clear hmin
                have hfit : j + ([bv 92, bv s[k]] : List Value).length ≤ cur.length := by rw [HCL.out]; show j + 2 ≤ N; omega
                have hone : ∀ v ∈ ([bv 92, bv s[k]] : List Value), v.oneCell' = true := by
                  intro u hu
                  rcases List.mem_cons.1 hu with rfl | hu
                  · rfl
                  · rcases List.mem_cons.1 hu with rfl | hu
                    · rfl
                    · cases hu
                have hnews : ∀ i v, ([bv 92, bv s[k]] : List Value)[i]? = some v → wr.drew.cell? ((⟨pp, 0, none⟩ : Addr).add i) = some v := by
                  intro i v hv
                  rw [add_at0, World.cell?_drew]
                  match i, hv with
                  | 0, hv => injection hv with hv; rw [← hv]; exact HBT.out.cell (j := 0) (by simp)
                  | 1, hv => injection hv with hv; rw [← hv]; exact HBT.out.cell (j := 1) (by simp)
                have hBd : Below w0.heap.size w0 wr.drew := ⟨hbw.os, hbw.tape, hbw.output, hbw.size, hbw.block⟩
                go_region_law (first | (refine step_copy_splice (by rfl) (.tmp 105) (.tmp 111) 67 67 (by rfl) 5 Tryz.underlying67 (by kernel_rfl) _ _ _ _ _ _ rfl rfl w0.heap.size j cur 5 HBK.out [bv 92, bv s[k]] HMIN.out (fun _ => ⟨rfl, _, rfl, hnews⟩) hfit hone w0.heap.size w0 hBd (Nat.le_refl _) ?_; intro w5 hH5 hB5))
                all_goals
                  clear r1 hnews hBd hcell hone hne
                  have HH5 := Lib.hid hH5.out
                  clear hH5
                  go_wp2_with fail
                  go_roundw
                  case rel =>
                    have hls := length_splice cur j [bv 92, bv s[k]] hfit
                    refine ⟨k + 1, splice cur j [bv 92, bv s[k]], by omega, by go_num, ?_, by rw [hls]; exact HCL.out, ?_, HH5.out, hB5⟩
                    · rw [HJ2.out]; go_num
                    · rw [HJ2.out, HQ2.out, Lib.byteCells_append]
                      have hct := HCT.out
                      rw [HJ.out] at hct
                      unfold splice
                      rw [hct, ← List.append_assoc, List.take_append_of_le_length (by rw [List.length_append, Lib.byteCells_length, HJ.out]; exact Nat.le_refl _), List.take_of_length_le (by rw [List.length_append, Lib.byteCells_length, HJ.out]; exact Nat.le_refl _)]
                      rfl
                  case measure => simp [intOf]; omega
              · have hcell := e3 hc
                have hq2 : quoteL (s.data.toList.take (k + 1)) = quoteL (s.data.toList.take k) ++ [s[k]] := by rw [HQT.out, if_neg hc]
                have hj2 : (quoteL (s.data.toList.take (k + 1))).length = j + 1 := by rw [hq2, List.length_append, hj]; rfl
                rw [hj2] at hle
                have hcj : wr.cell? ⟨w0.heap.size, j, none⟩ = some (cur[j]'(by rw [HCL.out]; omega)) := by
                  rw [cell_of_row _ _ _ _ _ _ HBK.out, List.getElem?_toArray, List.getElem?_eq_getElem]
                have hzj : wr.frozen? ⟨w0.heap.size, j, none⟩ = false := by simp [World.frozen?, HBK.out]
                generalize cur[j]'(by rw [HCL.out]; omega) = old at hcj
                have hjN : (j : Int) < (N : Int) := by omega
                have HQ2 := Lib.hid hq2
                have HJ2 := Lib.hid hj2
                clear e1 e2 e3 hc hq2 hj2 hj
                go_wp2_with fail
                go_roundw
                case rel =>
                  refine ⟨k + 1, cur.set j (.int .u8 (s[k].toNat : Int)), by omega, by go_num, ?_, by rw [List.length_set]; exact HCL.out, ?_, ?_, hbw.setCell (Nat.le_refl _) _⟩
                  · rw [HJ2.out]; go_num
                  · rw [HJ2.out, HQ2.out, Lib.byteCells_append]
                    have hct := HCT.out
                    rw [HJ.out] at hct
                    rw [List.take_succ_eq_append_getElem (by rw [List.length_set, HCL.out]; omega), List.take_set_of_le (Nat.le_refl _), hct, List.getElem_set_self]; rfl
                  · have := setCell_blk HBK.out j (.int .u8 (s[k].toNat : Int))
                    rw [this]; simp
                case measure => simp [intOf]; omega
            · have hkk : k = s.size := by omega
              have hall : s.data.toList.take k = s.data.toList := by rw [hkk, List.take_of_length_le (by rw [size_toList]; omega)]
              have hcv := run_convert_bytes_back (P := Tryz.prog) wr 67 9 5 ⟨w0.heap.size, 0, none⟩ N (quoteL s.data.toList) Tryz.underlying67 Tryz.underlying5 Tryz.underlying9 (fun j hj => by
                have hct := HCT.out
                rw [hall] at hct
                rw [add_at0, cell_of_row _ _ _ _ _ _ HBK.out, List.getElem?_toArray]
                have h1 : (cur.take (quoteL s.data.toList).length)[j]? = cur[j]? := by rw [List.getElem?_take, if_pos hj]
                rw [← h1, hct]
                unfold Lib.byteCells
                rw [List.getElem?_map, List.getElem?_eq_getElem hj]; rfl)
              rw [HQN.out] at hcv
              clear hkk hall
              go_wp2_with fail
              go_ret
              exact ⟨rfl, HB0.out.trans (hbw.mono HB0.out.size)⟩
  · have h16' : ¬ (16 : Int) ≤ (s.size : Int) := by omega
    go_enter Tryz.func144, Tryz.ntmps144
    go_wp2_with fail
    go_loop [5, 6, 10] (fun u5 u6 u10 => ∃ (k n : Nat), k ≤ s.size ∧ u10 = .int .i64 (k : Int) ∧ u5 = .int .i64 (((s.size + n : Nat)) : Int) ∧ u6 = .bool (decide (0 < n)) ∧ n = cntQ (s.data.toList.take k)) (fun _ _ u10 => s.size - (intOf u10).toNat)
    case atStart => exact ⟨0, 0, Nat.zero_le _, rfl, rfl, rfl, rfl⟩
    case round =>
      obtain ⟨k, n, hk, rfl, rfl, rfl, hn⟩ := hrel
      have HN := Lib.hid hn
      have hnl : n ≤ k := by rw [hn]; exact Nat.le_trans (cnt_le _) (by rw [List.length_take]; omega)
      clear hn
      by_cases hkn : k < s.size
      · obtain ⟨e1, e2, e3⟩ := rep_at H1.out s[k]
        have HT := Lib.hid (cnt_take s k hkn)
        have hbl := s[k].toNat_lt
        have hbI : (s[k].toNat : Int) < 256 := by omega
        by_cases hc : s[k].toNat = 34 ∨ s[k].toNat = 92
        · have HE := Lib.hid (show n + 1 = cntQ (s.data.toList.take (k + 1)) by rw [HT.out, if_pos hc, HN.out])
          obtain ⟨pp, cpp, hcell⟩ : ∃ pp cpp, w.cell? ⟨b, s[k].toNat, none⟩ = some (.slice (some ⟨pp, 0, none⟩) 2 cpp) := by
            rcases hc with hc | hc
            · exact ⟨_, _, e1 hc⟩
            · exact ⟨_, _, e2 hc⟩
          have hzp : 0 < n + 1 := by omega
          clear e1 e2 e3 hc
          go_wp2_with fail
          go_round
          case rel => exact ⟨k + 1, n + 1, by omega, by go_num, by go_num, by rw [decide_eq_true hzp], HE.out⟩
          case measure => simp [intOf]; omega
        · have hcell := e3 hc
          have HE := Lib.hid (show n = cntQ (s.data.toList.take (k + 1)) by rw [HT.out, if_neg hc, HN.out]; rfl)
          clear e1 e2 e3 hc
          go_wp2_with fail
          go_round
          case rel => exact ⟨k + 1, n, by omega, by go_num, rfl, rfl, HE.out⟩
          case measure => simp [intOf]; omega
      · have hkk : k = s.size := by omega
        have HCN := Lib.hid (show cntQ s.data.toList = n by rw [HN.out, hkk, List.take_of_length_le (by rw [size_toList]; omega)])
        have hcl : n ≤ s.size := by omega
        have HR0 := HRB
        have HB0 := Lib.hid (Below.refl w.heap.size w)
        clear h5' h6' t34 t92 h2 H1 hkk HN hnl ix34 ix92 HC1 HC2 HRB
        obtain ⟨w0, hw0⟩ : ∃ w0, w = w0 := ⟨_, rfl⟩
        rw [hw0] at HR0 ⊢
        have HB0 := Lib.hid (show Below w.heap.size w w0 by rw [← hw0]; exact Below.refl _ _)
        clear hw0
        by_cases hn0 : n = 0
        · subst hn0
          have HQ := Lib.hid (quote_none _ HCN.out)
          go_wp2_with fail
          go_ret
          exact ⟨ret_s (by rw [HQ.out]; rfl), HB0.out⟩
        · have hnp : 0 < n := by omega
          have hnd : decide (0 < n) = true := decide_eq_true hnp
          rw [hnd]
          clear hnd
          obtain ⟨N, hN⟩ : ∃ N, s.size + n = N := ⟨_, rfl⟩
          rw [hN]
          have hNl : N ≤ 2000000 := by omega
          have hqN : (quoteL s.data.toList).length = N := by rw [quote_cnt, HCN.out, size_toList]; exact hN
          have HQN := Lib.hid hqN
          have hmk := fun W => run_make_row' (P := Tryz.prog) 67 5 (.int .u8 0) 1 Tryz.underlying67 info5 rfl .i64 .i64 N (by omega) (by omega) W
          have hBm := (Below.refl w0.heap.size w0).alloc (Nat.le_refl _) (.cells (madeCells #[.int .u8 0] N) 5)
          have hbm := heap_alloc_new w0 (.cells (madeCells #[.int .u8 0] N) 5)
          have HBm := Lib.hid hBm
          have Hbm := Lib.hid hbm
          clear hBm hbm hN hqN hcl hn0 hnp
          go_wp2_with fail
          generalize w0.alloc (.cells (madeCells #[.int .u8 0] N) 5) = w1 at *
          clear hmk
          go_loopw [13, 14] (fun u13 u14 wr => ∃ (k : Nat) (cur : List Value), k ≤ s.size ∧ u14 = .int .i64 (k : Int) ∧ u13 = .int .i64 (((quoteL (s.data.toList.take k)).length : Nat) : Int) ∧ cur.length = N ∧ cur.take (quoteL (s.data.toList.take k)).length = Lib.byteCells (quoteL (s.data.toList.take k)) ∧ wr.heap[w0.heap.size]? = some (.cells cur.toArray 5 (0, 0)) ∧ Below w0.heap.size w0 wr) (fun _ u14 _ => s.size - (intOf u14).toNat)
          case atStart => exact ⟨0, (madeCells #[.int .u8 0] N).toList, Nat.zero_le _, rfl, rfl, by rw [Array.length_toList, size_madeCells], rfl, by rw [Array.toArray_toList]; exact Hbm.out, HBm.out⟩
          case round =>
            obtain ⟨k, cur, hk, rfl, rfl, hcl, hct, hbk, hbw⟩ := hrel
            have HCT := Lib.hid hct
            have HCL := Lib.hid hcl
            have HBK := Lib.hid hbk
            clear hct hcl hbk Hbm HBm
            by_cases hkn : k < s.size
            · have HQT := Lib.hid (quote_take s k hkn)
              have hle := quote_pre s (k + 1)
              rw [HQN.out] at hle
              have hbl := s[k].toNat_lt
              have hbI : (s[k].toNat : Int) < 256 := by omega
              obtain ⟨p', q', r', cp', cq', cr', g1, _, g3, g4, _, _, gl1, gl2, gl3, _⟩ := HR0.out.later hbw
              obtain ⟨e1, e2, e3⟩ := rep_at g1 s[k]
              have HG3 := Lib.hid g3
              have HG4 := Lib.hid g4
              clear g1 g3 g4
              obtain ⟨j, hj⟩ : ∃ j, (quoteL (s.data.toList.take k)).length = j := ⟨_, rfl⟩
              have HJ := Lib.hid hj
              rw [hj]
              by_cases hc : s[k].toNat = 34 ∨ s[k].toNat = 92
              · have hq2 : quoteL (s.data.toList.take (k + 1)) = quoteL (s.data.toList.take k) ++ [92, s[k]] := by rw [HQT.out, if_pos hc]
                have hj2 : (quoteL (s.data.toList.take (k + 1))).length = j + 2 := by rw [hq2, List.length_append, hj]; rfl
                rw [hj2] at hle
                obtain ⟨pp, cpp, hcell, hbt⟩ : ∃ pp cpp, wr.cell? ⟨b, s[k].toNat, none⟩ = some (.slice (some ⟨pp, 0, none⟩) 2 cpp) ∧ BytesAt wr pp 5 [92, s[k]] := by
                  rcases hc with hc | hc
                  · exact ⟨_, _, e1 hc, by rw [show s[k] = 34 from UInt8.toNat_inj.1 hc]; exact HG3.out⟩
                  · exact ⟨_, _, e2 hc, by rw [show s[k] = 92 from UInt8.toNat_inj.1 hc]; exact HG4.out⟩
                have HBT := Lib.hid hbt
                have HQ2 := Lib.hid hq2
                have HJ2 := Lib.hid hj2
                have hjN : (j : Int) ≤ (N : Int) := by omega
                have hj0 : (0 : Int) ≤ (j : Int) := by omega
                clear e1 e2 e3 hc hbt hq2 hj2 hj
                go_wp2_with fail
                have r1 : IntKind.i64.wrap ((j : Int) + 2) = (j : Int) + 2 := IntWalk.i64_in _ (by omega)
                have hne : ¬ N = j := by omega
                have hmin : ([bv 92, bv s[k]] : List Value).length = Nat.min 2 (N - j) := by show 2 = min 2 (N - j); omega
                have HMIN := Lib.hid hmin
                clear hmin
                have hfit : j + ([bv 92, bv s[k]] : List Value).length ≤ cur.length := by rw [HCL.out]; show j + 2 ≤ N; omega
                have hone : ∀ v ∈ ([bv 92, bv s[k]] : List Value), v.oneCell' = true := by
                  intro u hu
                  rcases List.mem_cons.1 hu with rfl | hu
                  · rfl
                  · rcases List.mem_cons.1 hu with rfl | hu
                    · rfl
                    · cases hu
                have hnews : ∀ i v, ([bv 92, bv s[k]] : List Value)[i]? = some v → wr.drew.cell? ((⟨pp, 0, none⟩ : Addr).add i) = some v := by
                  intro i v hv
                  rw [add_at0, World.cell?_drew]
                  match i, hv with
                  | 0, hv => injection hv with hv; rw [← hv]; exact HBT.out.cell (j := 0) (by simp)
                  | 1, hv => injection hv with hv; rw [← hv]; exact HBT.out.cell (j := 1) (by simp)
                have hBd : Below w0.heap.size w0 wr.drew := ⟨hbw.os, hbw.tape, hbw.output, hbw.size, hbw.block⟩
                go_region_law (first | (refine step_copy_splice (by rfl) (.tmp 105) (.tmp 111) 67 67 (by rfl) 5 Tryz.underlying67 (by kernel_rfl) _ _ _ _ _ _ rfl rfl w0.heap.size j cur 5 HBK.out [bv 92, bv s[k]] HMIN.out (fun _ => ⟨rfl, _, rfl, hnews⟩) hfit hone w0.heap.size w0 hBd (Nat.le_refl _) ?_; intro w5 hH5 hB5))
                all_goals
                  clear r1 hnews hBd hcell hone hne
                  have HH5 := Lib.hid hH5.out
                  clear hH5
                  go_wp2_with fail
                  go_roundw
                  case rel =>
                    have hls := length_splice cur j [bv 92, bv s[k]] hfit
                    refine ⟨k + 1, splice cur j [bv 92, bv s[k]], by omega, by go_num, ?_, by rw [hls]; exact HCL.out, ?_, HH5.out, hB5⟩
                    · rw [HJ2.out]; go_num
                    · rw [HJ2.out, HQ2.out, Lib.byteCells_append]
                      have hct := HCT.out
                      rw [HJ.out] at hct
                      unfold splice
                      rw [hct, ← List.append_assoc, List.take_append_of_le_length (by rw [List.length_append, Lib.byteCells_length, HJ.out]; exact Nat.le_refl _), List.take_of_length_le (by rw [List.length_append, Lib.byteCells_length, HJ.out]; exact Nat.le_refl _)]
                      rfl
                  case measure => simp [intOf]; omega
              · have hcell := e3 hc
                have hq2 : quoteL (s.data.toList.take (k + 1)) = quoteL (s.data.toList.take k) ++ [s[k]] := by rw [HQT.out, if_neg hc]
                have hj2 : (quoteL (s.data.toList.take (k + 1))).length = j + 1 := by rw [hq2, List.length_append, hj]; rfl
                rw [hj2] at hle
                have hcj : wr.cell? ⟨w0.heap.size, j, none⟩ = some (cur[j]'(by rw [HCL.out]; omega)) := by
                  rw [cell_of_row _ _ _ _ _ _ HBK.out, List.getElem?_toArray, List.getElem?_eq_getElem]
                have hzj : wr.frozen? ⟨w0.heap.size, j, none⟩ = false := by simp [World.frozen?, HBK.out]
                generalize cur[j]'(by rw [HCL.out]; omega) = old at hcj
                have hjN : (j : Int) < (N : Int) := by omega
                have HQ2 := Lib.hid hq2
                have HJ2 := Lib.hid hj2
                clear e1 e2 e3 hc hq2 hj2 hj
                go_wp2_with fail
                go_roundw
                case rel =>
                  refine ⟨k + 1, cur.set j (.int .u8 (s[k].toNat : Int)), by omega, by go_num, ?_, by rw [List.length_set]; exact HCL.out, ?_, ?_, hbw.setCell (Nat.le_refl _) _⟩
                  · rw [HJ2.out]; go_num
                  · rw [HJ2.out, HQ2.out, Lib.byteCells_append]
                    have hct := HCT.out
                    rw [HJ.out] at hct
                    rw [List.take_succ_eq_append_getElem (by rw [List.length_set, HCL.out]; omega), List.take_set_of_le (Nat.le_refl _), hct, List.getElem_set_self]; rfl
                  · have := setCell_blk HBK.out j (.int .u8 (s[k].toNat : Int))
                    rw [this]; simp
                case measure => simp [intOf]; omega
            · have hkk : k = s.size := by omega
              have hall : s.data.toList.take k = s.data.toList := by rw [hkk, List.take_of_length_le (by rw [size_toList]; omega)]
              have hcv := run_convert_bytes_back (P := Tryz.prog) wr 67 9 5 ⟨w0.heap.size, 0, none⟩ N (quoteL s.data.toList) Tryz.underlying67 Tryz.underlying5 Tryz.underlying9 (fun j hj => by
                have hct := HCT.out
                rw [hall] at hct
                rw [add_at0, cell_of_row _ _ _ _ _ _ HBK.out, List.getElem?_toArray]
                have h1 : (cur.take (quoteL s.data.toList).length)[j]? = cur[j]? := by rw [List.getElem?_take, if_pos hj]
                rw [← h1, hct]
                unfold Lib.byteCells
                rw [List.getElem?_map, List.getElem?_eq_getElem hj]; rfl)
              rw [HQN.out] at hcv
              clear hkk hall
              go_wp2_with fail
              go_ret
              exact ⟨rfl, HB0.out.trans (hbw.mono HB0.out.size)⟩
end Go.Proofs.YtaopehogpdgkgaaGreat
