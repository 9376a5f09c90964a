/- Contract of fresh.Directives. -/
import Derived.Test.YtegejmbkpdlekaaDirPlain
namespace Go.Proofs.Ytegejmbkpdlekaa
open Go.RowKit
def DP (w wr : World) (s : ByteArray) (gf : Nat) (X : Option (List Fld)) (u4 : Value) : Prop :=
  ∃ (j : Nat) (acc : List Fld) (n : Nat), j ≤ s.size ∧ s.size ≤ j + gf ∧ acc.length ≤ j ∧ s.size < j + n ∧ preF acc (dirF n (s.data.toList.drop j)) = X ∧
    Cur wr w.heap.size s j ∧ Flds wr (w.heap.size + 1) u4 acc ∧ Below w.heap.size w wr
set_option maxRecDepth 100000 in
set_option maxHeartbeats 4000000 in
theorem dir_c (s : ByteArray) (hs : s.size ≤ 900000) (w : World) :
    Calls Try.prog 12 #[.string s] w fun e w' => DR w w' (dirF (s.size + 1) s.data.toList) e ∧ Below w.heap.size w w' := by
  replace hs : s.size ≤ 1000000 := by omega
  generalize hX : dirF (s.size + 1) s.data.toList = X
  have HX0 := Lib.hid hX
  clear hX
  go_enter Try.func12, Try.ntmps12
  go_wp2_with fail
  go_loopg [4] s.size (fun gf u4 wr => DP w wr s gf X u4)
  case atStart =>
    exact ⟨0, [], s.size + 1, Nat.zero_le _, by omega, by simp, by omega, by rw [preF_nil]; exact HX0.out, heap_alloc_new w _, Flds.nil, (Below.refl _ w).alloc (Nat.le_refl _) _⟩
  case round =>
    obtain ⟨j, acc, n, hj, hgf, hal, hjn, hX, hcj, hF, hB⟩ := hrel
    obtain ⟨uA, uc, rfl⟩ := own_slice_n hF
    clear HX0
    have HX := Lib.hid hX
    have HF := Lib.hid hF
    have HCJ := Lib.hid hcj
    clear hX hF hcj
    go_wp2_with fail
    refine (cBlank_c w.heap.size s j hj hs _ HCJ.out).mono ?_
    rintro e w1 ⟨rfl, ⟨j1, a1, a2, a3, hc1⟩, ho1⟩
    have hF1 := HF.out.only ho1 (Nat.lt_succ_self _)
    have hB1 : Below w.heap.size w w1 := hB.trans (ho1.below (Nat.le_refl _) hB.size)
    have HF1 := Lib.hid hF1
    have HC1 := Lib.hid hc1
    have A3 := Lib.hid a3
    clear a3 hc1 hF1 HF HCJ
    have hlen : (s.data.toList.drop j).length < n := by rw [drop_len]; omega
    by_cases hlt : j1 < s.size
    · have hd : decide (s.size ≤ j1) = false := by simp; omega
      have HD := cDone_c w.heap.size s j1 _ HC1.out
      rw [hd] at HD
      have HD := Lib.hid HD
      go_wp2_with fail
      refine HD.out.mono ?_
      rintro e w2 ⟨rfl, m, rfl⟩
      by_cases h44 : s[j1].toNat = 44
      · have HT := Lib.hid (cTake_b w.heap.size s j1 a2 hs 44 (by omega) (by omega) _ (HC1.out.drewN m) true (decide_eq_true ⟨hlt, by omega⟩).symm)
        have HY := Lib.hid (dir_comma hlen A3.out hlt h44 HX.out)
        clear h44
        go_wp2_with fail
        refine HT.out.mono ?_
        rintro e w3 ⟨rfl, hc3, ho3⟩
        have hc3' : Cur w3 w.heap.size s (j1 + 1) := hc3
        have ho3' := ((Only.refl w.heap.size w1).drewN m).trans ho3
        have hF3 := HF1.out.only ho3' (Nat.lt_succ_self _)
        have hB3 : Below w.heap.size w w3 := hB1.trans (ho3'.below (Nat.le_refl _) hB1.size)
        clear hc3
        go_wp2_with fail
        go_roundg (gk - 1)
        case measure => omega
        case rel => exact ⟨j1 + 1, acc, n - 1, by omega, by omega, by omega, by omega, HY.out, hc3', hF3, hB3⟩
      · have HT := Lib.hid (cTake_b w.heap.size s j1 a2 hs 44 (by omega) (by omega) _ (HC1.out.drewN m) false (decide_eq_false (fun ⟨_, h⟩ => h44 (by omega))).symm)
        have HN44 := Lib.hid h44
        clear h44
        go_wp2_with fail
        refine HT.out.mono ?_
        rintro e w2' ⟨rfl, hc2, ho2⟩
        have hc2' : Cur w2' w.heap.size s j1 := hc2
        have ho2' := ((Only.refl w.heap.size w1).drewN m).trans ho2
        have hF2 := HF1.out.only ho2' (Nat.lt_succ_self _)
        have hB2 : Below w.heap.size w w2' := hB1.trans (ho2'.below (Nat.le_refl _) hB1.size)
        have HF2 := Lib.hid hF2
        clear hc2 HT HC1 hF2 HF1
        have HTL := Lib.hid (show (S (tokL (s.data.toList.drop j1))).size ≤ 1000000 from by rw [S_size]; have h1 := tokL_len (s.data.toList.drop j1); rw [drop_len] at h1; omega)
        go_wp2_with fail
        refine (cToken_c w.heap.size s j1 a2 hs _ hc2').mono ?_
        rintro e w2t ⟨rfl, ⟨k2, b1, b2, b3, hct⟩, hot⟩
        have B3 := Lib.hid b3
        have hFt := HF2.out.only hot (Nat.lt_succ_self _)
        have hBt := hB2.trans (hot.below (Nat.le_refl _) hB2.size)
        clear b3 hc2' HF2 hB2
        go_wp2_with fail
        refine (lower_c (S (tokL (s.data.toList.drop j1))) (Nat.le_trans HTL.out (by decide)) _).mono ?_
        rintro e w3 ⟨rfl, hb3⟩
        have hc3 := hct.below hb3 hct.lt
        have hF3 := hFt.later hb3
        have hB3 := hBt.trans (hb3.mono hBt.size)
        clear hct hFt hBt hb3
        generalize HN : S (lowerL (S (tokL (s.data.toList.drop j1))).data.toList) = N at *
        have HN : Hid (N = S (lowerL (tokL (s.data.toList.drop j1)))) := Lib.hid HN.symm
        have hbw : w.heap.size < w3.heap.size := hc3.lt
        have hg4 : (w3.alloc (.cells #[.string N, .string ⟨#[]⟩] 61)).heap[w3.heap.size]? = some (.cells #[.string N, .string ⟨#[]⟩] 61 (0, 0)) := heap_alloc_new w3 _
        have hc4 := hc3.alloc (.cells #[.string N, .string ⟨#[]⟩] 61)
        have hne := own_ne hF3 (Nat.le_refl _)
        have hF4 := hF3.alloc (.cells #[.string N, .string ⟨#[]⟩] 61)
        have hB4 := hB3.alloc hB3.size (.cells #[.string N, .string ⟨#[]⟩] 61)
        cases ht : (tokL (s.data.toList.drop j1)) with
        | nil =>
          have HY := Lib.hid (dir_bad hlen A3.out hlt HN44.out (dirL_none (by rw [ht]; rfl)) HX.out)
          clear ht
          go_wp2_with fail
          refine (cBlank_c w.heap.size s k2 b2 hs _ hc4).mono ?_
          rintro e w5 ⟨rfl, _, ho5⟩
          go_wp2_with fail
          go_ret2
          exact ⟨.inl ⟨HY.out, rfl⟩, hB4.trans (ho5.below (Nat.le_refl _) hB4.size)⟩
        | cons t0 ts =>
          have ht1 : (tokL (s.data.toList.drop j1)).isEmpty = false := by rw [ht]; rfl
          have HT1 := Lib.hid ht1
          clear ht1
          by_cases h61 : ∃ h : k2 < s.size, (s[k2].toNat : Int) = 61
          · have HT := Lib.hid (cTake_b w.heap.size s k2 b2 hs 61 (by omega) (by omega) _ hc4 true (decide_eq_true h61).symm)
            obtain ⟨hk2, h61⟩ := h61
            have HVL := Lib.hid (dirL_val HT1.out B3.out hk2 h61)
            clear h61
            go_wp2_with fail
            refine HT.out.mono ?_
            rintro e w4 ⟨rfl, hc4', ho4⟩
            have hc4' : Cur w4 w.heap.size s (k2 + 1) := hc4'
            have hF4' := hF4.only ho4 (Nat.lt_succ_self _)
            have hB4' := hB4.trans (ho4.below (Nat.le_refl _) hB4.size)
            have hg4' : w4.heap[w3.heap.size]? = some (.cells #[.string N, .string ⟨#[]⟩] 61 (0, 0)) := (ho4.block _ (heap_lt hg4) (by simp; omega)).trans hg4
            clear hc4 hF4 hB4 hg4 HT
            go_wp2_with fail
            refine (cValue_c w.heap.size s (k2 + 1) (by omega) hs _ hc4').mono ?_
            rintro e w5 ⟨he, ⟨k5, n1, n2, hc5, n3⟩, ho5⟩
            have N3 := Lib.hid n3
            have hF5 := hF4'.only ho5 (Nat.lt_succ_self _)
            have hB5 := hB4'.trans (ho5.below (Nat.le_refl _) hB4'.size)
            have hg5 : w5.heap[w3.heap.size]? = some (.cells #[.string N, .string ⟨#[]⟩] 61 (0, 0)) := (ho5.block _ (heap_lt hg4') (by simp; omega)).trans hg4'
            clear n3 hc4' hF4' hB4' hg4'
            obtain ⟨l0, l1, l2, l3⟩ := fld_cells hg5
            cases hv : valueL (s.data.toList.drop (k2 + 1)) with
            | none =>
              have HV := HVL.out
              rw [hv] at he HV
              have he' : e = .returned (.tuple #[.string ⟨#[]⟩, .bool false]) := he
              subst he'
              have HY := Lib.hid (dir_bad hlen A3.out hlt HN44.out HV HX.out)
              have hc6 := hc5.setNe (a := ⟨w3.heap.size, 1, none⟩) (by simp; omega) (.string ⟨#[]⟩)
              have hB6 := hB5.setCell (p := ⟨w3.heap.size, 1, none⟩) (by simp; omega) (.string ⟨#[]⟩)
              clear he hv HV
              go_wp2_with fail
              refine (cBlank_c w.heap.size s k5 n2 hs _ hc6).mono ?_
              rintro e w6 ⟨rfl, _, ho6⟩
              go_wp2_with fail
              go_ret2
              exact ⟨.inl ⟨HY.out, rfl⟩, hB6.trans (ho6.below (Nat.le_refl _) hB6.size)⟩
            | some y =>
              have HV := HVL.out
              have hr : s.data.toList.drop k5 = y.2 := N3.out y.1 y.2 hv
              rw [hv] at he HV
              have he' : e = .returned (.tuple #[.string (S y.1), .bool true]) := he
              subst he'
              have HI : Hid (dirL (s.data.toList.drop j1) = some ((lowerL (tokL (s.data.toList.drop j1)), y.1), s.data.toList.drop k5)) := Lib.hid (by rw [HV, hr]; rfl)
              have hne5 : (Value.slice uA acc.length uc).ownBlock ≠ some w3.heap.size := hne
              have hF5 := hF5.far (a := ⟨w3.heap.size, 1, none⟩) hne5 (.string (S y.1))
              have hB5 := hB5.setCell (p := ⟨w3.heap.size, 1, none⟩) (by simp; omega) (.string (S y.1))
              have hc5 := hc5.setNe (a := ⟨w3.heap.size, 1, none⟩) (by simp; omega) (.string (S y.1))
              have hg5 : (w5.setCell ⟨w3.heap.size, 1, none⟩ (.string (S y.1))).heap[w3.heap.size]? = some (.cells #[.string N, .string (S y.1)] 61 (0, 0)) := by simp [World.setCell, Array.getElem?_modify, hg5]
              clear he hv HV hr N3
              go_wp2_with fail
              refine (cBlank_c w.heap.size s k5 n2 hs _ hc5).mono ?_
              rintro e w6 ⟨rfl, ⟨k6, d1, d2, d3, hc6⟩, ho6⟩
              have D3 := Lib.hid d3
              have hF6 := hF5.only ho6 (Nat.lt_succ_self _)
              have hB6 := hB5.trans (ho6.below (Nat.le_refl _) hB5.size)
              have hg6 : w6.heap[w3.heap.size]? = some (.cells #[.string N, .string (S y.1)] 61 (0, 0)) := (ho6.block _ (heap_lt hg5) (by simp; omega)).trans hg5
              clear d3 hF5 hB5 hc5 hg5
              by_cases h6 : k6 < s.size
              · have hd : decide (s.size ≤ k6) = false := by simp; omega
                have HD := cDone_c w.heap.size s k6 _ hc6
                rw [hd] at HD
                have HD := Lib.hid HD
                go_wp2_with fail
                refine HD.out.mono ?_
                rintro e w7 ⟨rfl, m7, rfl⟩
                have hc7 := hc6.drewN m7
                by_cases h64 : s[k6].toNat = 44
                · have HT := Lib.hid (cTake_b w.heap.size s k6 d2 hs 44 (by omega) (by omega) _ hc7 true (decide_eq_true ⟨h6, by omega⟩).symm)
                  have HY := Lib.hid (dir_next hlen A3.out hlt HN44.out HI.out D3.out h6 h64 HX.out)
                  clear h64
                  go_wp2_with fail
                  refine HT.out.mono ?_
                  rintro e W7 ⟨rfl, hc8, ho8⟩
                  have ho8 := ((Only.refl w.heap.size w6).drewN m7).trans ho8
                  have hF7 := hF6.only ho8 (Nat.lt_succ_self _)
                  have hB7 := hB6.trans (ho8.below (Nat.le_refl _) hB6.size)
                  have hg7 : W7.heap[w3.heap.size]? = some (.cells #[.string N, .string (S y.1)] 61 (0, 0)) := (ho8.block _ (heap_lt hg6) (by simp; omega)).trans hg6
                  have hc7 : Cur W7 w.heap.size s (k6 + 1) := hc8
                  obtain ⟨l0, l1, l2, l3⟩ := fld_cells hg7
                  have HF7 := Lib.hid hF7
                  clear hF7
                  go_wp2_with (at_builtin; refine wpList_append_row infoF rfl (by decide) (by decide) rfl (.tmp 52) (.tmp 54) 23 rfl Try.underlying23 (w.heap.size + 1) _ acc.length (fldsV acc) rfl (World.ownsRow.alloc HF7.out _) ⟨W7.heap.size, 0, none⟩ 1 [.string N, .string (S y.1)] rfl rfl ?c1 ?c2 ?c3 ?c4 ?_)
                  case c1 => exact news_of _ _ _ _ rfl
                  case c2 => intro u hu; simp at hu; rcases hu with rfl | rfl <;> rfl
                  case c3 => omega
                  case c4 => have := hB7.size; have := heap_lt hg7; simp; omega
                  intro g cap w8 hown8 hg8
                  obtain ⟨hF8, hB8, hc8⟩ := fld_app (f := (lowerL (tokL (s.data.toList.drop j1)), y.1)) hB7 (Nat.le_succ _) HF7.out hg8 (by rw [HN.out] at hown8; exact hown8)
                  clear hown8 hg8 HF7 hB7 l0 l1 l2 l3
                  go_wp2_with fail
                  go_roundg (gk - 1)
                  case measure => omega
                  case rel => exact ⟨k6 + 1, acc ++ [(lowerL (tokL (s.data.toList.drop j1)), y.1)], n - 1, by omega, by omega, by simp; omega, by omega, HY.out, hc8 _ _ _ (Nat.lt_succ_self _) hc7, hF8, hB8⟩
                · have HT := Lib.hid (cTake_b w.heap.size s k6 d2 hs 44 (by omega) (by omega) _ hc7 false (decide_eq_false (fun ⟨_, h⟩ => h64 (by omega))).symm)
                  have HY := Lib.hid (dir_tail hlen A3.out hlt HN44.out HI.out D3.out h6 h64 HX.out)
                  clear h64
                  go_wp2_with fail
                  refine HT.out.mono ?_
                  rintro e W7 ⟨rfl, hc8, ho8⟩
                  have ho8 := ((Only.refl w.heap.size w6).drewN m7).trans ho8
                  go_wp2_with fail
                  go_ret2
                  exact ⟨.inl ⟨HY.out, rfl⟩, hB6.trans (ho8.below (Nat.le_refl _) hB6.size)⟩
              · have hd : decide (s.size ≤ k6) = true := by simp; omega
                have HD := cDone_c w.heap.size s k6 _ hc6
                rw [hd] at HD
                have HD := Lib.hid HD
                have HY := Lib.hid (dir_ok (acc := acc ++ [(lowerL (tokL (s.data.toList.drop j1)), y.1)]) (k := k6) (n := 1) (by omega) h6 (dir_last hlen A3.out hlt HN44.out HI.out D3.out h6 HX.out))
                go_wp2_with fail
                refine HD.out.mono ?_
                rintro e W7' ⟨rfl, m7, rfl⟩
                have hF7 : Flds (w6.drewN m7) (w.heap.size + 1) (.slice uA acc.length uc) acc := hF6
                have hB7 : Below w.heap.size w (w6.drewN m7) := hB6.trans (((Only.refl w.heap.size w6).drewN m7).below (Nat.le_refl _) hB6.size)
                have hg7 : (w6.drewN m7).heap[w3.heap.size]? = some (.cells #[.string N, .string (S y.1)] 61 (0, 0)) := hg6
                have hc7 := hc6.drewN m7
                clear HD hc6 hF6 hB6 hg6
                generalize w6.drewN m7 = W7 at *
                obtain ⟨l0, l1, l2, l3⟩ := fld_cells hg7
                have HF7 := Lib.hid hF7
                clear hF7
                go_wp2_with (at_builtin; refine wpList_append_row infoF rfl (by decide) (by decide) rfl (.tmp 52) (.tmp 54) 23 rfl Try.underlying23 (w.heap.size + 1) _ acc.length (fldsV acc) rfl (World.ownsRow.alloc HF7.out _) ⟨W7.heap.size, 0, none⟩ 1 [.string N, .string (S y.1)] rfl rfl ?c1 ?c2 ?c3 ?c4 ?_)
                case c1 => exact news_of _ _ _ _ rfl
                case c2 => intro u hu; simp at hu; rcases hu with rfl | rfl <;> rfl
                case c3 => omega
                case c4 => have := hB7.size; have := heap_lt hg7; simp; omega
                intro g cap w8 hown8 hg8
                obtain ⟨hF8, hB8, hc8⟩ := fld_app (f := (lowerL (tokL (s.data.toList.drop j1)), y.1)) hB7 (Nat.le_succ _) HF7.out hg8 (by rw [HN.out] at hown8; exact hown8)
                clear hown8 hg8 HF7 hB7 l0 l1 l2 l3
                go_wp2_with fail
                go_roundg (gk - 1)
                case measure => omega
                case rel => exact ⟨k6, acc ++ [(lowerL (tokL (s.data.toList.drop j1)), y.1)], 1, by omega, by omega, by simp; omega, by omega, HY.out, hc8 _ _ _ (Nat.lt_succ_self _) hc7, hF8, hB8⟩
          · have HT := Lib.hid (cTake_b w.heap.size s k2 b2 hs 61 (by omega) (by omega) _ hc4 false (decide_eq_false h61).symm)
            have HI := Lib.hid (dirL_plain HT1.out B3.out (fun h e => h61 ⟨h, e⟩))
            clear h61
            go_wp2_with fail
            refine HT.out.mono ?_
            rintro e w5 ⟨rfl, hc5, ho5⟩
            have hc5 : Cur w5 w.heap.size s k2 := hc5
            have hF5 := hF4.only ho5 (Nat.lt_succ_self _)
            have hB5 := hB4.trans (ho5.below (Nat.le_refl _) hB4.size)
            have hg5 : w5.heap[w3.heap.size]? = some (.cells #[.string N, .string ⟨#[]⟩] 61 (0, 0)) := (ho5.block _ (heap_lt hg4) (by simp; omega)).trans hg4
            clear hc4 hF4 hB4 hg4 HT
            go_wp2_with fail
            refine (cBlank_c w.heap.size s k2 b2 hs _ hc5).mono ?_
            rintro e w6 ⟨rfl, ⟨k6, d1, d2, d3, hc6⟩, ho6⟩
            have D3 := Lib.hid d3
            have hF6 := hF5.only ho6 (Nat.lt_succ_self _)
            have hB6 := hB5.trans (ho6.below (Nat.le_refl _) hB5.size)
            have hg6 : w6.heap[w3.heap.size]? = some (.cells #[.string N, .string ⟨#[]⟩] 61 (0, 0)) := (ho6.block _ (heap_lt hg5) (by simp; omega)).trans hg5
            clear d3 hF5 hB5 hc5 hg5
            by_cases h6 : k6 < s.size
            · have hd : decide (s.size ≤ k6) = false := by simp; omega
              have HD := cDone_c w.heap.size s k6 _ hc6
              rw [hd] at HD
              have HD := Lib.hid HD
              go_wp2_with fail
              refine HD.out.mono ?_
              rintro e w7 ⟨rfl, m7, rfl⟩
              have hc7 := hc6.drewN m7
              by_cases h64 : s[k6].toNat = 44
              · have HT := Lib.hid (cTake_b w.heap.size s k6 d2 hs 44 (by omega) (by omega) _ hc7 true (decide_eq_true ⟨h6, by omega⟩).symm)
                have HY := Lib.hid (dir_next hlen A3.out hlt HN44.out HI.out D3.out h6 h64 HX.out)
                clear h64
                go_wp2_with fail
                refine HT.out.mono ?_
                rintro e W7 ⟨rfl, hc8, ho8⟩
                have ho8 := ((Only.refl w.heap.size w6).drewN m7).trans ho8
                have hF7 := hF6.only ho8 (Nat.lt_succ_self _)
                have hB7 := hB6.trans (ho8.below (Nat.le_refl _) hB6.size)
                have hg7 : W7.heap[w3.heap.size]? = some (.cells #[.string N, .string ⟨#[]⟩] 61 (0, 0)) := (ho8.block _ (heap_lt hg6) (by simp; omega)).trans hg6
                have hc7 : Cur W7 w.heap.size s (k6 + 1) := hc8
                obtain ⟨l0, l1, l2, l3⟩ := fld_cells hg7
                have HF7 := Lib.hid hF7
                clear hF7
                go_wp2_with (at_builtin; refine wpList_append_row infoF rfl (by decide) (by decide) rfl (.tmp 52) (.tmp 54) 23 rfl Try.underlying23 (w.heap.size + 1) _ acc.length (fldsV acc) rfl (World.ownsRow.alloc HF7.out _) ⟨W7.heap.size, 0, none⟩ 1 [.string N, .string ⟨#[]⟩] rfl rfl ?c1 ?c2 ?c3 ?c4 ?_)
                case c1 => exact news_of _ _ _ _ rfl
                case c2 => intro u hu; simp at hu; rcases hu with rfl | rfl <;> rfl
                case c3 => omega
                case c4 => have := hB7.size; have := heap_lt hg7; simp; omega
                intro g cap w8 hown8 hg8
                obtain ⟨hF8, hB8, hc8⟩ := fld_app (f := (lowerL (tokL (s.data.toList.drop j1)), [])) hB7 (Nat.le_succ _) HF7.out hg8 (by rw [HN.out] at hown8; exact hown8)
                clear hown8 hg8 HF7 hB7 l0 l1 l2 l3
                go_wp2_with fail
                go_roundg (gk - 1)
                case measure => omega
                case rel => exact ⟨k6 + 1, acc ++ [(lowerL (tokL (s.data.toList.drop j1)), [])], n - 1, by omega, by omega, by simp; omega, by omega, HY.out, hc8 _ _ _ (Nat.lt_succ_self _) hc7, hF8, hB8⟩
              · have HT := Lib.hid (cTake_b w.heap.size s k6 d2 hs 44 (by omega) (by omega) _ hc7 false (decide_eq_false (fun ⟨_, h⟩ => h64 (by omega))).symm)
                have HY := Lib.hid (dir_tail hlen A3.out hlt HN44.out HI.out D3.out h6 h64 HX.out)
                clear h64
                go_wp2_with fail
                refine HT.out.mono ?_
                rintro e W7 ⟨rfl, hc8, ho8⟩
                have ho8 := ((Only.refl w.heap.size w6).drewN m7).trans ho8
                go_wp2_with fail
                go_ret2
                exact ⟨.inl ⟨HY.out, rfl⟩, hB6.trans (ho8.below (Nat.le_refl _) hB6.size)⟩
            · have hd : decide (s.size ≤ k6) = true := by simp; omega
              have HD := cDone_c w.heap.size s k6 _ hc6
              rw [hd] at HD
              have HD := Lib.hid HD
              have HY := Lib.hid (dir_ok (acc := acc ++ [(lowerL (tokL (s.data.toList.drop j1)), [])]) (k := k6) (n := 1) (by omega) h6 (dir_last hlen A3.out hlt HN44.out HI.out D3.out h6 HX.out))
              go_wp2_with fail
              refine HD.out.mono ?_
              rintro e W7' ⟨rfl, m7, rfl⟩
              have hF7 : Flds (w6.drewN m7) (w.heap.size + 1) (.slice uA acc.length uc) acc := hF6
              have hB7 : Below w.heap.size w (w6.drewN m7) := hB6.trans (((Only.refl w.heap.size w6).drewN m7).below (Nat.le_refl _) hB6.size)
              have hg7 : (w6.drewN m7).heap[w3.heap.size]? = some (.cells #[.string N, .string ⟨#[]⟩] 61 (0, 0)) := hg6
              have hc7 := hc6.drewN m7
              clear HD hc6 hF6 hB6 hg6
              generalize w6.drewN m7 = W7 at *
              obtain ⟨l0, l1, l2, l3⟩ := fld_cells hg7
              have HF7 := Lib.hid hF7
              clear hF7
              go_wp2_with (at_builtin; refine wpList_append_row infoF rfl (by decide) (by decide) rfl (.tmp 52) (.tmp 54) 23 rfl Try.underlying23 (w.heap.size + 1) _ acc.length (fldsV acc) rfl (World.ownsRow.alloc HF7.out _) ⟨W7.heap.size, 0, none⟩ 1 [.string N, .string ⟨#[]⟩] rfl rfl ?c1 ?c2 ?c3 ?c4 ?_)
              case c1 => exact news_of _ _ _ _ rfl
              case c2 => intro u hu; simp at hu; rcases hu with rfl | rfl <;> rfl
              case c3 => omega
              case c4 => have := hB7.size; have := heap_lt hg7; simp; omega
              intro g cap w8 hown8 hg8
              obtain ⟨hF8, hB8, hc8⟩ := fld_app (f := (lowerL (tokL (s.data.toList.drop j1)), [])) hB7 (Nat.le_succ _) HF7.out hg8 (by rw [HN.out] at hown8; exact hown8)
              clear hown8 hg8 HF7 hB7 l0 l1 l2 l3
              go_wp2_with fail
              go_roundg (gk - 1)
              case measure => omega
              case rel => exact ⟨k6, acc ++ [(lowerL (tokL (s.data.toList.drop j1)), [])], 1, by omega, by omega, by simp; omega, by omega, HY.out, hc8 _ _ _ (Nat.lt_succ_self _) hc7, hF8, hB8⟩
    · have hd : decide (s.size ≤ j1) = true := by simp; omega
      have HD := cDone_c w.heap.size s j1 _ HC1.out
      rw [hd] at HD
      have HD := Lib.hid HD
      have HY := Lib.hid (dir_end hlen A3.out hlt HX.out)
      go_wp2_with fail
      refine HD.out.mono ?_
      rintro e w2 ⟨rfl, m, rfl⟩
      go_wp2_with fail
      go_ret2
      exact ⟨.inr ⟨acc, _, HY.out, rfl, (HF1.out.only ((Only.refl w.heap.size w1).drewN m) (Nat.lt_succ_self _)).base (Nat.le_succ _)⟩, hB1.trans (((Only.refl w.heap.size w1).drewN m).below (Nat.le_refl _) hB1.size)⟩
end Go.Proofs.Ytegejmbkpdlekaa
