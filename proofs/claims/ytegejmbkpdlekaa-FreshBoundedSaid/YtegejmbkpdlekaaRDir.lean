/- Contract of webfingerref21.Directives. -/
import Derived.Test.YtegejmbkpdlekaaDirPlain
namespace Go.Proofs.Ytegejmbkpdlekaa
open Go.RowKit
theorem tokO_nil {l : List UInt8} (h : tokO l = none) : (tokL l).isEmpty = true := by rw [tokO_none h]; rfl
def RDP (w wr : World) (s : ByteArray) (gf : Nat) (X : Option (List Fld)) (u4 u5 : Value) : Prop :=
  ∃ (j : Nat) (acc : List Fld) (n : Nat), u5 = .int .i64 (j : Int) ∧ j ≤ s.size ∧ s.size ≤ j + gf ∧ acc.length ≤ j ∧ s.size < j + n ∧ preF acc (dirF n (s.data.toList.drop j)) = X ∧
    Flds wr w.heap.size u4 acc ∧ Below w.heap.size w wr
set_option maxRecDepth 100000 in
set_option maxHeartbeats 4000000 in
theorem rdir_c (s : ByteArray) (hs : s.size ≤ 900000) (w : World) :
    Calls Try.prog 13 #[.string s] w fun e w' => DR w w' (dirF (s.size + 1) s.data.toList) e ∧ Below w.heap.size w w' := by
  replace hs : s.size ≤ 1000000 := by omega
  generalize hX : dirF (s.size + 1) s.data.toList = X
  have HX0 := Lib.hid hX
  clear hX
  go_enter Try.func13, Try.ntmps13
  go_wp2_with fail
  go_loopg [4, 5] s.size (fun gf u4 u5 wr => RDP w wr s gf X u4 u5)
  case atStart =>
    exact ⟨0, [], s.size + 1, rfl, Nat.zero_le _, by omega, by simp, by omega, by rw [preF_nil]; exact HX0.out, Flds.nil, Below.refl _ w⟩
  case round =>
    obtain ⟨j, acc, n, rfl, hj, hgf, hal, hjn, hX, hF, hB⟩ := hrel
    obtain ⟨uA, uc, rfl⟩ := own_slice_n hF
    clear HX0
    have HX := Lib.hid hX
    have HF := Lib.hid hF
    clear hX hF
    go_wp2_with fail
    refine (rSkip_c s j hj hs _).mono ?_
    rintro e w1 ⟨⟨j1, a1, a2, a3, rfl⟩, rfl⟩
    have A3 := Lib.hid a3
    clear a3
    have hlen : (s.data.toList.drop j).length < n := by rw [drop_len]; omega
    by_cases hlt : j1 < s.size
    · have ejs : ((j1 : Int) == (s.size : Int)) = false := by simp; omega
      by_cases h44 : s[j1].toNat = 44
      · have e44 : ((s[j1].toNat : Int) != 44) = false := by rw [h44]; rfl
        have HY := Lib.hid (dir_comma hlen A3.out hlt h44 HX.out)
        clear h44
        go_wp2_with fail
        go_roundg (gk - 1)
        case measure => omega
        case rel => exact ⟨j1 + 1, acc, n - 1, by go_num, by omega, by omega, by omega, by omega, HY.out, HF.out, hB⟩
      · have e44 : ((s[j1].toNat : Int) != 44) = true := by simp; omega
        have HN44 := Lib.hid h44
        clear h44
        go_wp2_with fail
        refine (rToken_c s j1 a2 hs _).mono ?_
        rintro e w2 ⟨hT, rfl⟩
        rcases hT with ⟨hx, rfl⟩ | ⟨v, r, k2, hx, b1, b2, b3, rfl⟩
        · have HY := Lib.hid (dir_bad hlen A3.out hlt HN44.out (dirL_none (tokO_nil hx)) HX.out)
          clear hx
          go_wp2_with fail
          go_ret2
          exact ⟨.inl ⟨HY.out, rfl⟩, hB⟩
        · obtain ⟨ht, rfl, rfl⟩ := tokO_some hx
          have HT1 := Lib.hid ht
          have B3 := Lib.hid b3
          have HTL := Lib.hid (show (S (tokL (s.data.toList.drop j1))).size ≤ 1000000 from by rw [S_size]; have h1 := tokL_len (s.data.toList.drop j1); rw [drop_len] at h1; omega)
          clear hx ht b3
          go_wp2_with fail
          refine (rLower_c (S (tokL (s.data.toList.drop j1))) HTL.out _).mono ?_
          rintro e w3 ⟨rfl, hb3⟩
          have hF3 := HF.out.later hb3
          have hB3 := hB.trans (hb3.mono hB.size)
          generalize HN : S (lowerL (S (tokL (s.data.toList.drop j1))).data.toList) = N at *
          have HN : Hid (N = S (lowerL (tokL (s.data.toList.drop j1)))) := Lib.hid HN.symm
          have hg4 : (w3.alloc (.cells #[.string N, .string ⟨#[]⟩] 61)).heap[w3.heap.size]? = some (.cells #[.string N, .string ⟨#[]⟩] 61 (0, 0)) := heap_alloc_new w3 _
          have hne := own_ne hF3 (Nat.le_refl _)
          have hF4 := hF3.alloc (.cells #[.string N, .string ⟨#[]⟩] 61)
          have hB4 := hB3.alloc hB3.size (.cells #[.string N, .string ⟨#[]⟩] 61)
          have hsz3 := hB3.size
          clear hF3 hB3 hb3
          by_cases h61 : ∃ h : k2 < s.size, (s[k2].toNat : Int) = 61
          · obtain ⟨hk2, h61⟩ := h61
            have e61 : ((s[k2].toNat : Int) == 61) = true := by rw [h61]; rfl
            have HVL := Lib.hid (dirL_val HT1.out B3.out hk2 h61)
            clear h61
            go_wp2_with fail
            refine (rValue_c s (k2 + 1) (by omega) hs _).mono ?_
            rintro e w5 ⟨hV, hb5⟩
            have hF5 := hF4.later hb5
            have hB5 := hB4.trans (hb5.mono hB4.size)
            have hg5 : w5.heap[w3.heap.size]? = some (.cells #[.string N, .string ⟨#[]⟩] 61 (0, 0)) := (hb5.block _ (heap_lt hg4)).trans hg4
            have hlt35 := heap_lt hg5
            clear hF4 hB4 hg4 hb5
            obtain ⟨l0, l1, l2, l3⟩ := fld_cells hg5
            have HV := HVL.out
            rcases hV with ⟨hv, rfl⟩ | ⟨v, r, k5, hv, n1, n2, n3, rfl⟩
            · rw [hv] at HV
              have HY := Lib.hid (dir_bad hlen A3.out hlt HN44.out HV HX.out)
              clear hv HV
              go_wp2_with fail
              go_ret2
              exact ⟨.inl ⟨HY.out, rfl⟩, hB5.setCell (by simp; omega) _⟩
            · rw [hv] at HV
              have HI : Hid (dirL (s.data.toList.drop j1) = some ((lowerL (tokL (s.data.toList.drop j1)), v), s.data.toList.drop k5)) := Lib.hid (by rw [HV, n3]; rfl)
              have hF5 := hF5.far (a := ⟨w3.heap.size, 1, none⟩) hne (.string (S v))
              have hB5 := hB5.setCell (p := ⟨w3.heap.size, 1, none⟩) (by simp; omega) (.string (S v))
              have hg5' : (w5.setCell ⟨w3.heap.size, 1, none⟩ (.string (S v))).heap[w3.heap.size]? = some (.cells #[.string N, .string (S v)] 61 (0, 0)) := by simp [World.setCell, Array.getElem?_modify, hg5]
              have hsz5 : (w5.setCell ⟨w3.heap.size, 1, none⟩ (.string (S v))).heap.size = w5.heap.size := by simp
              clear hv HV n3
              have hg5 := hg5
              obtain ⟨l0, l1, l2, l3⟩ := fld_cells hg5
              have HF5 := Lib.hid hF5
              clear hF5
              go_wp2_with (at_builtin; refine wpList_append_row infoF rfl (by decide) (by decide) rfl (.tmp 58) (.tmp 60) 23 rfl Try.underlying23 w.heap.size _ acc.length (fldsV acc) rfl (World.ownsRow.alloc HF5.out _) ⟨w5.heap.size, 0, none⟩ 1 [.string N, .string (S v)] rfl rfl ?c1 ?c2 ?c3 ?c4 ?_)
              case c1 => rw [← hsz5]; exact news_of _ _ _ _ rfl
              case c2 => intro u hu; simp at hu; rcases hu with rfl | rfl <;> rfl
              case c3 => omega
              case c4 => have := hB5.size; simp at this ⊢; omega
              intro g cap w8 hown8 hg8
              obtain ⟨hF8, hB8, _⟩ := fld_app (f := (lowerL (tokL (s.data.toList.drop j1)), v)) hB5 (Nat.le_refl _) HF5.out hg8 (by rw [HN.out] at hown8; exact hown8)
              clear hown8 hg8 HF5 hB5 l0 l1 l2 l3
              go_wp2_with fail
              refine (rSkip_c s k5 n2 hs _).mono ?_
              rintro e w9 ⟨⟨k6, d1, d2, d3, rfl⟩, rfl⟩
              have D3 := Lib.hid d3
              clear d3
              by_cases h6 : k6 < s.size
              · have ejs6 : ((k6 : Int) == (s.size : Int)) = false := by simp; omega
                by_cases h64 : s[k6].toNat = 44
                · have e64 : ((s[k6].toNat : Int) != 44) = false := by rw [h64]; rfl
                  have HY := Lib.hid (dir_next hlen A3.out hlt HN44.out HI.out D3.out h6 h64 HX.out)
                  clear h64
                  go_wp2_with fail
                  go_roundg (gk - 1)
                  case measure => omega
                  case rel => exact ⟨k6 + 1, acc ++ [(lowerL (tokL (s.data.toList.drop j1)), v)], n - 1, by go_num, by omega, by omega, by simp; omega, by omega, HY.out, hF8, hB8⟩
                · have e64 : ((s[k6].toNat : Int) != 44) = true := by simp; omega
                  have HY := Lib.hid (dir_tail hlen A3.out hlt HN44.out HI.out D3.out h6 h64 HX.out)
                  clear h64
                  go_wp2_with fail
                  go_ret2
                  exact ⟨.inl ⟨HY.out, rfl⟩, hB8⟩
              · obtain rfl : k6 = s.size := by omega
                have ejs6 : ((s.size : Int) == (s.size : Int)) = true := by simp
                have HY := Lib.hid (dir_last hlen A3.out hlt HN44.out HI.out D3.out h6 HX.out)
                go_wp2_with fail
                go_ret2
                exact ⟨.inr ⟨acc ++ [(lowerL (tokL (s.data.toList.drop j1)), v)], _, HY.out, rfl, hF8⟩, hB8⟩
          · have HI := Lib.hid (dirL_plain HT1.out B3.out (fun h e => h61 ⟨h, e⟩))
            have hF5 := hF4
            have hB5 := hB4
            have hg5 := hg4
            clear hF4 hB4 hg4
            by_cases hk2 : k2 < s.size
            · have e61 : ((s[k2].toNat : Int) == 61) = false := by simp; exact fun h => h61 ⟨hk2, by omega⟩
              clear h61
              obtain ⟨l0, l1, l2, l3⟩ := fld_cells hg5
              have HF5 := Lib.hid hF5
              clear hF5
              go_wp2_with (at_builtin; refine wpList_append_row infoF rfl (by decide) (by decide) rfl (.tmp 58) (.tmp 60) 23 rfl Try.underlying23 w.heap.size _ acc.length (fldsV acc) rfl (World.ownsRow.alloc HF5.out _) ⟨w3.heap.size + 1, 0, none⟩ 1 [.string N, .string ⟨#[]⟩] rfl rfl ?c1 ?c2 ?c3 ?c4 ?_)
              case c1 => rw [show w3.heap.size + 1 = (w3.alloc (.cells #[.string N, .string ⟨#[]⟩] 61)).heap.size from by simp]; exact news_of _ _ _ _ rfl
              case c2 => intro u hu; simp at hu; rcases hu with rfl | rfl <;> rfl
              case c3 => omega
              case c4 => have := hB5.size; simp at this ⊢; omega
              intro g cap w8 hown8 hg8
              obtain ⟨hF8, hB8, _⟩ := fld_app (f := (lowerL (tokL (s.data.toList.drop j1)), [])) hB5 (Nat.le_refl _) HF5.out hg8 (by rw [HN.out] at hown8; exact hown8)
              clear hown8 hg8 HF5 hB5 l0 l1 l2 l3
              go_wp2_with fail
              refine (rSkip_c s k2 b2 hs _).mono ?_
              rintro e w9 ⟨⟨k6, d1, d2, d3, rfl⟩, rfl⟩
              have D3 := Lib.hid d3
              clear d3
              by_cases h6 : k6 < s.size
              · have ejs6 : ((k6 : Int) == (s.size : Int)) = false := by simp; omega
                by_cases h64 : s[k6].toNat = 44
                · have e64 : ((s[k6].toNat : Int) != 44) = false := by rw [h64]; rfl
                  have HY := Lib.hid (dir_next hlen A3.out hlt HN44.out HI.out D3.out h6 h64 HX.out)
                  clear h64
                  go_wp2_with fail
                  go_roundg (gk - 1)
                  case measure => omega
                  case rel => exact ⟨k6 + 1, acc ++ [(lowerL (tokL (s.data.toList.drop j1)), [])], n - 1, by go_num, by omega, by omega, by simp; omega, by omega, HY.out, hF8, hB8⟩
                · have e64 : ((s[k6].toNat : Int) != 44) = true := by simp; omega
                  have HY := Lib.hid (dir_tail hlen A3.out hlt HN44.out HI.out D3.out h6 h64 HX.out)
                  clear h64
                  go_wp2_with fail
                  go_ret2
                  exact ⟨.inl ⟨HY.out, rfl⟩, hB8⟩
              · obtain rfl : k6 = s.size := by omega
                have ejs6 : ((s.size : Int) == (s.size : Int)) = true := by simp
                have HY := Lib.hid (dir_last hlen A3.out hlt HN44.out HI.out D3.out h6 HX.out)
                go_wp2_with fail
                go_ret2
                exact ⟨.inr ⟨acc ++ [(lowerL (tokL (s.data.toList.drop j1)), [])], _, HY.out, rfl, hF8⟩, hB8⟩
            · clear h61
              obtain ⟨l0, l1, l2, l3⟩ := fld_cells hg5
              have HF5 := Lib.hid hF5
              clear hF5
              go_wp2_with (at_builtin; refine wpList_append_row infoF rfl (by decide) (by decide) rfl (.tmp 58) (.tmp 60) 23 rfl Try.underlying23 w.heap.size _ acc.length (fldsV acc) rfl (World.ownsRow.alloc HF5.out _) ⟨w3.heap.size + 1, 0, none⟩ 1 [.string N, .string ⟨#[]⟩] rfl rfl ?c1 ?c2 ?c3 ?c4 ?_)
              case c1 => rw [show w3.heap.size + 1 = (w3.alloc (.cells #[.string N, .string ⟨#[]⟩] 61)).heap.size from by simp]; exact news_of _ _ _ _ rfl
              case c2 => intro u hu; simp at hu; rcases hu with rfl | rfl <;> rfl
              case c3 => omega
              case c4 => have := hB5.size; simp at this ⊢; omega
              intro g cap w8 hown8 hg8
              obtain ⟨hF8, hB8, _⟩ := fld_app (f := (lowerL (tokL (s.data.toList.drop j1)), [])) hB5 (Nat.le_refl _) HF5.out hg8 (by rw [HN.out] at hown8; exact hown8)
              clear hown8 hg8 HF5 hB5 l0 l1 l2 l3
              go_wp2_with fail
              refine (rSkip_c s k2 b2 hs _).mono ?_
              rintro e w9 ⟨⟨k6, d1, d2, d3, rfl⟩, rfl⟩
              have D3 := Lib.hid d3
              clear d3
              by_cases h6 : k6 < s.size
              · have ejs6 : ((k6 : Int) == (s.size : Int)) = false := by simp; omega
                by_cases h64 : s[k6].toNat = 44
                · have e64 : ((s[k6].toNat : Int) != 44) = false := by rw [h64]; rfl
                  have HY := Lib.hid (dir_next hlen A3.out hlt HN44.out HI.out D3.out h6 h64 HX.out)
                  clear h64
                  go_wp2_with fail
                  go_roundg (gk - 1)
                  case measure => omega
                  case rel => exact ⟨k6 + 1, acc ++ [(lowerL (tokL (s.data.toList.drop j1)), [])], n - 1, by go_num, by omega, by omega, by simp; omega, by omega, HY.out, hF8, hB8⟩
                · have e64 : ((s[k6].toNat : Int) != 44) = true := by simp; omega
                  have HY := Lib.hid (dir_tail hlen A3.out hlt HN44.out HI.out D3.out h6 h64 HX.out)
                  clear h64
                  go_wp2_with fail
                  go_ret2
                  exact ⟨.inl ⟨HY.out, rfl⟩, hB8⟩
              · obtain rfl : k6 = s.size := by omega
                have ejs6 : ((s.size : Int) == (s.size : Int)) = true := by simp
                have HY := Lib.hid (dir_last hlen A3.out hlt HN44.out HI.out D3.out h6 HX.out)
                go_wp2_with fail
                go_ret2
                exact ⟨.inr ⟨acc ++ [(lowerL (tokL (s.data.toList.drop j1)), [])], _, HY.out, rfl, hF8⟩, hB8⟩
    · obtain rfl : j1 = s.size := by omega
      have ejs : ((s.size : Int) == (s.size : Int)) = true := by simp
      have HY := Lib.hid (dir_end hlen A3.out hlt HX.out)
      go_wp2_with fail
      go_ret2
      exact ⟨.inr ⟨acc, _, HY.out, rfl, HF.out⟩, hB⟩
end Go.Proofs.Ytegejmbkpdlekaa
