/- Contract of webfingerref22.link: the walk. -/
import Derived.Test.YtaopehogpdgkgaaWlRLink
namespace Go.Proofs.Ytaopehogpdgkgaa
open Go.RowKit
def RL2 (w wr : World) (gW : Nat) (s : ByteArray) (k gf : Nat) (t : List UInt8) (Y : Option (List Fld × List UInt8)) (u1 u9 : Value) : Prop :=
  ∃ (j : Nat) (rv pv : Value) (acc : List Fld) (l : List UInt8) (n : Nat), u1 = .int .i64 (j : Int) ∧ u9 = .bool (anyRel acc) ∧ k < j ∧ j ≤ s.size ∧ s.size ≤ j + gf ∧ acc.length ≤ j ∧
    l.length < n ∧ s.data.toList.drop j = blankL l ∧ preP acc (paramsF n l) = Y ∧ LQ w wr gW #[.string (S t), rv, pv] rv pv (relsL acc) acc
set_option maxRecDepth 100000 in
set_option maxHeartbeats 4000000 in
theorem rlink_c (s : ByteArray) (k : Nat) (hk : k < s.size) (hs : s.size ≤ 1000000) (w : World) :
    Calls Try.prog 20 #[.string s, .int .i64 (k : Int)] w fun e w' => RLR w w' s k (linkL (s.data.toList.drop (k + 1))) e ∧ Below w.heap.size w w' := by
  go_enter Try.func20, Try.ntmps20
  go_wp2_with fail
  have hB0 : Below w.heap.size w (w.alloc (.cells #[.string ⟨#[]⟩, .slice none 0 0, .slice none 0 0] 41)) := (Below.refl _ w).alloc (Nat.le_refl _) _
  have hg0 : (w.alloc (.cells #[.string ⟨#[]⟩, .slice none 0 0, .slice none 0 0] 41)).heap[w.heap.size]? = some (.cells wl0 41 (0, 0)) := heap_alloc_new w _
  generalize w.alloc (.cells #[.string ⟨#[]⟩, .slice none 0 0, .slice none 0 0] 41) = w0 at *
  have hs0 := heap_lt hg0
  have hZ : ∀ u0 u1 u2, Below w.heap.size w (((w0.setCell ⟨w.heap.size, 0, none⟩ u0).setCell ⟨w.heap.size, 1, none⟩ u1).setCell ⟨w.heap.size, 2, none⟩ u2) := fun u0 u1 u2 =>
    ((hB0.setCell (Nat.le_refl _) _).setCell (Nat.le_refl _) _).setCell (Nat.le_refl _) _
  have HZ := Lib.hid hZ
  clear hZ
  go_loop [7] (fun i => ∃ (j : Nat) (acc : List UInt8), k + 1 ≤ j ∧ j ≤ s.size ∧ i = .int .i64 (j : Int) ∧ s.extract (k + 1) j = S acc ∧ pre2 acc (tgtL (s.data.toList.drop j)) = tgtL (s.data.toList.drop (k + 1))) (fun i => s.size - (intOf i).toNat)
  case atStart => exact ⟨k + 1, [], Nat.le_refl _, by omega, by go_num, ext_nil _, by rw [pre2_nil]⟩
  case round =>
    obtain ⟨j, acc, hkj, hj, rfl, hE, hJ⟩ := hrel
    have HE := Lib.hid hE
    have HJ := Lib.hid hJ
    clear hE hJ
    obtain ⟨r0, r1, r2, q0, q1, q2⟩ := cells3 hg0
    by_cases hlt : j < s.size
    · have hb := byte_lt s[j]
      by_cases h62 : s[j].toNat = 62
      · have e62 : ((s[j].toNat : Int) != 62) = false := by rw [h62]; rfl
        have ejs : ((j : Int) == (s.size : Int)) = false := by simp; omega
        have HX := Lib.hid (tgt_close hlt h62 HJ.out)
        clear h62
        go_wp2_with fail
        refine (rSkip_c s (j + 1) (by omega) hs _).mono ?_
        rintro e w1 ⟨⟨k1, i1, i2, i3, rfl⟩, rfl⟩
        have I3 := Lib.hid i3
        clear i3
        go_wp2_with fail
        obtain ⟨Y, hYl, hY0⟩ : ∃ Y, linkL (s.data.toList.drop (k + 1)) = Y.map (fun x => ((acc, relsL x.1, x.1), x.2)) ∧ RL2 w (w0.alloc (.cells #[.string (s.extract (k + 1) j), .slice none 0 0, .slice none 0 0] 41)) w0.heap.size s k s.size acc Y (.int .i64 (k1 : Int)) (.bool false) :=
          ⟨paramsF ((s.data.toList.drop (j + 1)).length + 1) (s.data.toList.drop (j + 1)), by rw [linkL, HX.out],
            k1, _, _, [], s.data.toList.drop (j + 1), _, rfl, rfl, by omega, i2, by omega, Nat.zero_le _, Nat.lt_succ_self _, I3.out, preP_nil _,
            ⟨hB0.alloc hB0.size _, (Below.heap_alloc w0 _ _ hs0).trans hg0, by rw [← HE.out]; exact heap_alloc_new w0 _, hs0, Strs.nil, Flds.nil⟩⟩
        have HYL := Lib.hid hYl
        clear hYl HE HJ HX r0 r1 r2 q0 q1 q2 e62 ejs HZ I3
        generalize w0.alloc (.cells #[.string (s.extract (k + 1) j), .slice none 0 0, .slice none 0 0] 41) = w1 at *
        generalize w0.heap.size = gW at *
        clear hg0 hB0
        go_loopg [1, 9] s.size (fun gf u1 u9 wr => RL2 w wr gW s k gf acc Y u1 u9)
        case atStart => exact hY0
        case round =>
          clear hY0
          obtain ⟨j2, rv, pv, ac, l, n, rfl, rfl, hkj2, hj2, hgf, hal, hln, hl, hY, hLQ⟩ := hrel
          obtain ⟨rA, rn, rc, rfl⟩ := own_slice hLQ.strs
          obtain ⟨pA, pc, rfl⟩ := own_slice_n hLQ.flds
          have HL := Lib.hid hl
          have HY := Lib.hid hY
          have HLQ := Lib.hid hLQ
          have hsz := hLQ.size
          have hgt := hLQ.gt
          clear hl hY hLQ
          by_cases h59 : ∃ h : j2 < s.size, s[j2].toNat = 59
          · obtain ⟨hlt2, h59⟩ := h59
            have e59 : ((s[j2].toNat : Int) == 59) = true := by rw [h59]; rfl
            have H59 := Lib.hid h59
            clear h59
            go_wp2_with fail
            refine (rSkip_c s (j2 + 1) (by omega) hs _).mono ?_
            rintro e w2 ⟨⟨k3, a1, a2, a3, rfl⟩, rfl⟩
            have A3 := Lib.hid a3
            clear a3
            go_wp2_with fail
            refine (rparam_c s k3 a2 hs _).mono ?_
            rintro e w4 ⟨hR, hb4⟩
            have HLQ4 := Lib.hid (HLQ.out.then_ hb4)
            have hsz4 := HLQ4.out.size
            have hsz4' := HLQ4.out.low.size
            clear HLQ hsz
            rcases hR with ⟨hx, rfl⟩ | ⟨f, r, k4, hx, n1, n2, n3, he⟩
            · rw [A3.out] at hx
              have HN := Lib.hid (pars_bad hln HL.out hlt2 H59.out hx HY.out)
              have hq := HLQ4.out.alloc (.cells #[.string ⟨#[]⟩, .string ⟨#[]⟩] 56)
              obtain ⟨r0, r1, r2, q0, q1, q2⟩ := cells3 hq.res
              have HQ := Lib.hid hq
              clear hx hq
              go_wp2_with fail
              refine bodyPost_ret (v := .tuple #[.agg #[.string ⟨#[]⟩, .slice none 0 0, .slice none 0 0], .int .i64 0, .bool false]) (by simp [results, Try.results20, go_sem, r0, r1, r2]) rfl ⟨.inl ⟨by rw [HYL.out, HN.out]; rfl, rfl⟩, (HQ.out.three _ _ _).1⟩
            · have he' : e = .returned (.tuple #[.agg #[.string (S f.1), .string (S f.2)], .int .i64 (k4 : Int), .bool true]) := he
              subst he'
              clear he
              have hle := paramL_le hx
              rw [drop_len] at hle
              rw [A3.out] at hx
              have HPF := Lib.hid hx
              have N3 := Lib.hid n3
              have hg4 : (w4.alloc (.cells #[.string (S f.1), .string (S f.2)] 56)).heap[w4.heap.size]? = some (.cells #[.string (S f.1), .string (S f.2)] 56 (0, 0)) := heap_alloc_new w4 _
              have hfs : (S f.2).size ≤ 1000000 := by rw [S_size]; omega
              have HFS := Lib.hid hfs
              clear hx n3 hfs
              obtain ⟨l0, l1, l2, l3⟩ := fld_cells hg4
              have hq := HLQ4.out.alloc (.cells #[.string (S f.1), .string (S f.2)] 56)
              obtain ⟨c0, c1, c2, f0, f1, f2⟩ := cells3 hq.blk
              have HQ := Lib.hid hq
              clear hq hg4
              cases hA : anyRel ac with
              | true =>
                have HAF := Lib.hid (rels_old (f := f) hA)
                by_cases hf : f.1 = relW
                · have hE : ((S f.1).toList == [114, 101, 108]) = true := by rw [S_beq]; exact decide_eq_true hf
                  clear hf
                  have hO5 := HQ.out
                  have hLV := Lib.hid hO5
                  clear hO5
                  go_wp2_with (at_builtin; refine wpList_append_row infoF rfl (by decide) (by decide) rfl (.tmp 86) (.tmp 88) 30 rfl Try.underlying30 w.heap.size _ ac.length (fldsV ac) rfl (hLV.out.flds.alloc _) ⟨w4.heap.size + 1, 0, none⟩ 1 [.string (S f.1), .string (S f.2)] rfl rfl ?c1 ?c2 ?c3 ?c4 ?_)
                  case c1 => rw [show w4.heap.size + 1 = (w4.alloc (.cells #[.string (S f.1), .string (S f.2)] 56)).heap.size from by simp]; exact news_of _ _ _ _ rfl
                  case c2 => intro u hu; simp at hu; rcases hu with rfl | rfl <;> rfl
                  case c3 => omega
                  case c4 => have := hLV.out.low.size; simp at this ⊢; omega
                  intro g cap w6 hown6 hg6
                  have hLQ6 := hLV.out.app hg6 (acc' := ac ++ [f]) (pv' := .slice (some ⟨g, 0, none⟩) (ac.length + 1) cap) (by unfold Flds; rw [List.length_append, fldsV_snoc]; exact hown6)
                  obtain ⟨b0, b1, b2, p0, p1, p2⟩ := cells3 hLQ6.blk
                  have HLQ7 := Lib.hid (hLQ6.store (j := 2) (.slice (some ⟨g, 0, none⟩) (ac.length + 1) cap) hLQ6.strs hLQ6.flds)
                  clear hLQ6 hown6 hg6 hLV c0 c1 c2 f0 f1 f2 l0 l1 l2 l3
                  go_wp2_with fail
                  refine (rSkip_c s k4 n2 hs _).mono ?_
                  rintro e w8 ⟨⟨k5, m1, m2, m3, rfl⟩, rfl⟩
                  have M3 := Lib.hid m3
                  clear m3
                  go_wp2_with fail
                  go_roundg (gk - 1)
                  case measure => omega
                  case rel =>
                    have hbl' := blank_len l
                    rw [← HL.out, drop_len] at hbl'
                    exact ⟨k5, _, _, ac ++ [f], blankL r, n - 1, rfl, by rw [HAF.out.2], by omega, m2, by omega, by simp; omega, by have := blank_len r; rw [← N3.out]; have h9 := blank_len (s.data.toList.drop k4); rw [drop_len] at h9; omega, by rw [M3.out, N3.out, blank_blank], by rw [pars_blank]; exact pars_step hln HL.out hlt2 (by have := H59.out; omega) HPF.out HY.out, by rw [HAF.out.1]; exact HLQ7.out⟩
                · have hE : ((S f.1).toList == [114, 101, 108]) = false := by rw [S_beq]; exact decide_eq_false hf
                  clear hf
                  have hO5 := HQ.out
                  have hLV := Lib.hid hO5
                  clear hO5
                  go_wp2_with (at_builtin; refine wpList_append_row infoF rfl (by decide) (by decide) rfl (.tmp 86) (.tmp 88) 30 rfl Try.underlying30 w.heap.size _ ac.length (fldsV ac) rfl (hLV.out.flds.alloc _) ⟨w4.heap.size + 1, 0, none⟩ 1 [.string (S f.1), .string (S f.2)] rfl rfl ?c1 ?c2 ?c3 ?c4 ?_)
                  case c1 => rw [show w4.heap.size + 1 = (w4.alloc (.cells #[.string (S f.1), .string (S f.2)] 56)).heap.size from by simp]; exact news_of _ _ _ _ rfl
                  case c2 => intro u hu; simp at hu; rcases hu with rfl | rfl <;> rfl
                  case c3 => omega
                  case c4 => have := hLV.out.low.size; simp at this ⊢; omega
                  intro g cap w6 hown6 hg6
                  have hLQ6 := hLV.out.app hg6 (acc' := ac ++ [f]) (pv' := .slice (some ⟨g, 0, none⟩) (ac.length + 1) cap) (by unfold Flds; rw [List.length_append, fldsV_snoc]; exact hown6)
                  obtain ⟨b0, b1, b2, p0, p1, p2⟩ := cells3 hLQ6.blk
                  have HLQ7 := Lib.hid (hLQ6.store (j := 2) (.slice (some ⟨g, 0, none⟩) (ac.length + 1) cap) hLQ6.strs hLQ6.flds)
                  clear hLQ6 hown6 hg6 hLV c0 c1 c2 f0 f1 f2 l0 l1 l2 l3
                  go_wp2_with fail
                  refine (rSkip_c s k4 n2 hs _).mono ?_
                  rintro e w8 ⟨⟨k5, m1, m2, m3, rfl⟩, rfl⟩
                  have M3 := Lib.hid m3
                  clear m3
                  go_wp2_with fail
                  go_roundg (gk - 1)
                  case measure => omega
                  case rel =>
                    have hbl' := blank_len l
                    rw [← HL.out, drop_len] at hbl'
                    exact ⟨k5, _, _, ac ++ [f], blankL r, n - 1, rfl, by rw [HAF.out.2], by omega, m2, by omega, by simp; omega, by have := blank_len r; rw [← N3.out]; have h9 := blank_len (s.data.toList.drop k4); rw [drop_len] at h9; omega, by rw [M3.out, N3.out, blank_blank], by rw [pars_blank]; exact pars_step hln HL.out hlt2 (by have := H59.out; omega) HPF.out HY.out, by rw [HAF.out.1]; exact HLQ7.out⟩
              | false =>
                by_cases hf : f.1 = relW
                · have hE : ((S f.1).toList == [114, 101, 108]) = true := by rw [S_beq]; exact decide_eq_true hf
                  have HAF := Lib.hid (rels_new hA hf)
                  clear hf
                  go_wp2_with fail
                  refine (rwords_c (S f.2) HFS.out _).mono ?_
                  rintro e w5 ⟨⟨rA', rn', rc', rfl, hS5⟩, hb5⟩
                  have hq5 := HQ.out.then_ hb5
                  have hg5 : w5.heap[w4.heap.size]? = some (.cells #[.string (S f.1), .string (S f.2)] 56 (0, 0)) := (hb5.block _ (by simp)).trans (heap_alloc_new w4 _)
                  have hS5' : Strs w5 w.heap.size (.slice rA' rn' rc') (wordsL (lowerL f.2)) := hS5.base HQ.out.low.size
                  have HQ5 := Lib.hid (hq5.store (j := 1) (.slice rA' rn' rc') hS5' hq5.flds)
                  clear c0 c1 c2 f0 f1 f2 l0 l1 l2 l3 HQ
                  obtain ⟨l0, l1, l2, l3⟩ := fld_cells hg5
                  obtain ⟨c0, c1, c2, f0, f1, f2⟩ := cells3 hq5.blk
                  have hsz5 : w4.heap.size < w5.heap.size := heap_lt hg5
                  clear hS5 hb5 hq5 hg5 hS5'
                  have hO5 := HQ5.out
                  have hLV := Lib.hid hO5
                  clear hO5
                  go_wp2_with (at_builtin; refine wpList_append_row infoF rfl (by decide) (by decide) rfl (.tmp 86) (.tmp 88) 30 rfl Try.underlying30 w.heap.size _ ac.length (fldsV ac) rfl (hLV.out.flds.alloc _) ⟨w5.heap.size, 0, none⟩ 1 [.string (S f.1), .string (S f.2)] rfl rfl ?c1 ?c2 ?c3 ?c4 ?_)
                  case c1 => rw [show w5.heap.size = (w5.setCell ⟨gW, 1, none⟩ (.slice rA' rn' rc')).heap.size from by simp]; exact news_of _ _ _ _ rfl
                  case c2 => intro u hu; simp at hu; rcases hu with rfl | rfl <;> rfl
                  case c3 => omega
                  case c4 => have := hLV.out.low.size; simp at this ⊢; omega
                  intro g cap w6 hown6 hg6
                  have hLQ6 := hLV.out.app hg6 (acc' := ac ++ [f]) (pv' := .slice (some ⟨g, 0, none⟩) (ac.length + 1) cap) (by unfold Flds; rw [List.length_append, fldsV_snoc]; exact hown6)
                  obtain ⟨b0, b1, b2, p0, p1, p2⟩ := cells3 hLQ6.blk
                  have HLQ7 := Lib.hid (hLQ6.store (j := 2) (.slice (some ⟨g, 0, none⟩) (ac.length + 1) cap) hLQ6.strs hLQ6.flds)
                  clear hLQ6 hown6 hg6 hLV c0 c1 c2 f0 f1 f2 l0 l1 l2 l3
                  go_wp2_with fail
                  refine (rSkip_c s k4 n2 hs _).mono ?_
                  rintro e w8 ⟨⟨k5, m1, m2, m3, rfl⟩, rfl⟩
                  have M3 := Lib.hid m3
                  clear m3
                  go_wp2_with fail
                  go_roundg (gk - 1)
                  case measure => omega
                  case rel =>
                    have hbl' := blank_len l
                    rw [← HL.out, drop_len] at hbl'
                    exact ⟨k5, _, _, ac ++ [f], blankL r, n - 1, rfl, by rw [HAF.out.2], by omega, m2, by omega, by simp; omega, by have := blank_len r; rw [← N3.out]; have h9 := blank_len (s.data.toList.drop k4); rw [drop_len] at h9; omega, by rw [M3.out, N3.out, blank_blank], by rw [pars_blank]; exact pars_step hln HL.out hlt2 (by have := H59.out; omega) HPF.out HY.out, by rw [HAF.out.1]; exact HLQ7.out⟩
                · have hE : ((S f.1).toList == [114, 101, 108]) = false := by rw [S_beq]; exact decide_eq_false hf
                  have HAF := Lib.hid (rels_not hA hf)
                  clear hf
                  have hO5 := HQ.out
                  have hLV := Lib.hid hO5
                  clear hO5
                  go_wp2_with (at_builtin; refine wpList_append_row infoF rfl (by decide) (by decide) rfl (.tmp 86) (.tmp 88) 30 rfl Try.underlying30 w.heap.size _ ac.length (fldsV ac) rfl (hLV.out.flds.alloc _) ⟨w4.heap.size + 1, 0, none⟩ 1 [.string (S f.1), .string (S f.2)] rfl rfl ?c1 ?c2 ?c3 ?c4 ?_)
                  case c1 => rw [show w4.heap.size + 1 = (w4.alloc (.cells #[.string (S f.1), .string (S f.2)] 56)).heap.size from by simp]; exact news_of _ _ _ _ rfl
                  case c2 => intro u hu; simp at hu; rcases hu with rfl | rfl <;> rfl
                  case c3 => omega
                  case c4 => have := hLV.out.low.size; simp at this ⊢; omega
                  intro g cap w6 hown6 hg6
                  have hLQ6 := hLV.out.app hg6 (acc' := ac ++ [f]) (pv' := .slice (some ⟨g, 0, none⟩) (ac.length + 1) cap) (by unfold Flds; rw [List.length_append, fldsV_snoc]; exact hown6)
                  obtain ⟨b0, b1, b2, p0, p1, p2⟩ := cells3 hLQ6.blk
                  have HLQ7 := Lib.hid (hLQ6.store (j := 2) (.slice (some ⟨g, 0, none⟩) (ac.length + 1) cap) hLQ6.strs hLQ6.flds)
                  clear hLQ6 hown6 hg6 hLV c0 c1 c2 f0 f1 f2 l0 l1 l2 l3
                  go_wp2_with fail
                  refine (rSkip_c s k4 n2 hs _).mono ?_
                  rintro e w8 ⟨⟨k5, m1, m2, m3, rfl⟩, rfl⟩
                  have M3 := Lib.hid m3
                  clear m3
                  go_wp2_with fail
                  go_roundg (gk - 1)
                  case measure => omega
                  case rel =>
                    have hbl' := blank_len l
                    rw [← HL.out, drop_len] at hbl'
                    exact ⟨k5, _, _, ac ++ [f], blankL r, n - 1, rfl, by rw [HAF.out.2], by omega, m2, by omega, by simp; omega, by have := blank_len r; rw [← N3.out]; have h9 := blank_len (s.data.toList.drop k4); rw [drop_len] at h9; omega, by rw [M3.out, N3.out, blank_blank], by rw [pars_blank]; exact pars_step hln HL.out hlt2 (by have := H59.out; omega) HPF.out HY.out, by rw [HAF.out.1]; exact HLQ7.out⟩
          · have hn : ∀ h : j2 < s.size, (s[j2].toNat : Int) ≠ 59 := fun h he => h59 ⟨h, by omega⟩
            have HN := Lib.hid (pars_no hln HL.out hn HY.out)
            obtain ⟨c0, c1, c2, f0, f1, f2⟩ := cells3 HLQ.out.blk
            obtain ⟨r0, r1, r2, q0, q1, q2⟩ := cells3 HLQ.out.res
            have HF := Lib.hid (show ∀ W', Below w.heap.size w W' ∧ Strs W' w.heap.size (.slice rA rn rc) (relsL ac) ∧ Flds W' w.heap.size (.slice pA ac.length pc) ac → RLR w W' s k (linkL (s.data.toList.drop (k + 1))) (.returned (.tuple #[.agg #[.string (S acc), .slice rA rn rc, .slice pA ac.length pc], .int .i64 (j2 : Int), .bool true])) ∧ Below w.heap.size w W' from
              fun W' ⟨h1, h2, h3⟩ => ⟨.inr ⟨(acc, relsL ac, ac), _, _, _, _, _, _, j2, by rw [HYL.out, HN.out]; rfl, hkj2, hj2, rfl, h2, h3⟩, h1⟩)
            by_cases hlt2 : j2 < s.size
            · have e59 : ((s[j2].toNat : Int) == 59) = false := by simp; exact fun h => hn hlt2 (by omega)
              clear h59 hn
              go_wp2_with fail
              refine bodyPost_ret (v := .tuple #[.agg #[.string (S acc), .slice rA rn rc, .slice pA ac.length pc], .int .i64 (j2 : Int), .bool true]) (by simp [results, Try.results20, go_sem, r0, r1, r2]) rfl (HF.out _ (HLQ.out.three _ _ _))
            · clear h59 hn
              go_wp2_with fail
              refine bodyPost_ret (v := .tuple #[.agg #[.string (S acc), .slice rA rn rc, .slice pA ac.length pc], .int .i64 (j2 : Int), .bool true]) (by simp [results, Try.results20, go_sem, r0, r1, r2]) rfl (HF.out _ (HLQ.out.three _ _ _))
      · have e62 : ((s[j].toNat : Int) != 62) = true := by simp; omega
        have HP := rPrintable_c (s[j].toNat : Int) (by omega) (by omega) w0
        rw [show ((s[j].toNat : Int)).toNat = s[j].toNat from by simp] at HP
        by_cases hv : inVN s[j].toNat = true
        · rw [hv] at HP
          have HP := Lib.hid HP
          have HX := Lib.hid (tgt_step hlt h62 hv HJ.out)
          have HE2 := Lib.hid (ext_snoc hkj hlt HE.out)
          clear h62 hv
          go_wp2_with (go_at_call 37; refine HP.out.mono ?_; rintro e w' ⟨rfl, rfl⟩)
          go_round
          case rel => exact ⟨j + 1, _, by omega, by omega, by go_num, HE2.out, HX.out⟩
          case measure => simp [intOf]; omega
        · have hv' : inVN s[j].toNat = false := by simpa using hv
          rw [hv'] at HP
          have HP := Lib.hid HP
          have HX := Lib.hid (tgt_bad hlt hv' HJ.out)
          clear h62 hv hv'
          go_wp2_with (go_at_call 37; refine HP.out.mono ?_; rintro e w' ⟨rfl, rfl⟩)
          refine bodyPost_ret (v := .tuple #[.agg #[.string ⟨#[]⟩, .slice none 0 0, .slice none 0 0], .int .i64 0, .bool false]) (by simp [results, Try.results20, go_sem, r0, r1, r2]) rfl ⟨.inl ⟨by rw [linkL, HX.out], rfl⟩, HZ.out _ _ _⟩
    · obtain rfl : j = s.size := by omega
      have ejs : ((s.size : Int) == (s.size : Int)) = true := by simp
      have HX := Lib.hid (tgt_end hlt HJ.out)
      go_wp2_with fail
      refine bodyPost_ret (v := .tuple #[.agg #[.string ⟨#[]⟩, .slice none 0 0, .slice none 0 0], .int .i64 0, .bool false]) (by simp [results, Try.results20, go_sem, r0, r1, r2]) rfl ⟨.inl ⟨by rw [linkL, HX.out], rfl⟩, HZ.out _ _ _⟩
end Go.Proofs.Ytaopehogpdgkgaa
