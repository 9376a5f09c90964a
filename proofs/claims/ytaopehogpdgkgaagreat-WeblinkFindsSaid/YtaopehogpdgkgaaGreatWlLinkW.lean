/- Contract of weblink.link: the walk. -/
import Derived.Test.YtaopehogpdgkgaaGreatWlLink
namespace Go.Proofs.YtaopehogpdgkgaaGreat
open Go.RowKit
/-- what link answers -/
def LR (w w' : World) (x : Option (Lnk × List UInt8)) (e : Ending) : Prop :=
  (x = none ∧ ∃ a A n c A' n' c', e = .returned (.tuple #[.agg #[.string a, .slice A n c, .slice A' n' c'], .bool false])) ∨
  ∃ y A n c A' n' c', x = some y ∧ e = .returned (.tuple #[.agg #[.string (S y.1.1), .slice A n c, .slice A' n' c'], .bool true]) ∧ Strs w' w.heap.size (.slice A n c) y.1.2.1 ∧ Flds w' w.heap.size (.slice A' n' c') y.1.2.2
def LL (w wr : World) (b gW : Nat) (s : ByteArray) (k gf : Nat) (t : List UInt8) (Y : Option (List Fld × List UInt8)) (u5 : Value) : Prop :=
  ∃ (j : Nat) (pv : Value) (acc : List Fld) (ok : Bool), u5 = .bool ok ∧ k ≤ j ∧ j ≤ s.size ∧ acc.length ≤ j ∧ (∀ f ∈ acc, f.2.length ≤ s.size) ∧ Cur wr b s j ∧ LS w wr b gW #[.string (S t), .slice none 0 0, pv] pv acc ∧
    ((ok = true ∧ s.size ≤ j + gf ∧ ∃ l n, l.length < n ∧ s.data.toList.drop j = blankL l ∧ preP acc (paramsF n l) = Y) ∨ (ok = false ∧ Y = none))
theorem pars_no {s : ByteArray} {n j : Nat} {l : List UInt8} {acc : List Fld} {X : Option (List Fld × List UInt8)} (hn : l.length < n) (hl : s.data.toList.drop j = blankL l) (hc : ∀ h : j < s.size, (s[j].toNat : Int) ≠ 59) (H : preP acc (paramsF n l) = X) : X = some (acc, s.data.toList.drop j) := by
  by_cases h : j < s.size
  · exact pars_stop hn hl h (by have := hc h; omega) H
  · rw [pars_end hn hl h H, drop_end s j h]
theorem cells3 {w : World} {g : Nat} {x y z : Value} {T : TypeId} (h : w.heap[g]? = some (.cells #[x, y, z] T (0, 0))) : w.cell? ⟨g, 0, none⟩ = some x ∧ w.cell? ⟨g, 1, none⟩ = some y ∧ w.cell? ⟨g, 2, none⟩ = some z ∧ w.frozen? ⟨g, 0, none⟩ = false ∧ w.frozen? ⟨g, 1, none⟩ = false ∧ w.frozen? ⟨g, 2, none⟩ = false := by
  simp [World.cell?, World.frozen?, h]
set_option maxRecDepth 100000 in
set_option maxHeartbeats 4000000 in
theorem link_c (b : Nat) (s : ByteArray) (k : Nat) (hk : k ≤ s.size) (hs : s.size ≤ 1000000) (w : World) (hc : Cur w b s k) :
    Calls Tryz.prog 43 #[.pointer (some ⟨b, 0, none⟩)] w fun e w' =>
      LR w w' (linkL (s.data.toList.drop k)) e ∧ AtRestF w' b s k (linkL (s.data.toList.drop k)) ∧ Only b w w' := by
  have HC := Lib.hid hc
  clear hc
  go_enter Tryz.func43, Tryz.ntmps43
  go_wp2_with fail
  refine (target_c b s k hk hs _ (HC.out.alloc _)).mono ?_
  rintro e w1 ⟨he, ⟨k1, h1, h2, h4, h3⟩, ho1⟩
  have hbl : b < w.heap.size := HC.out.lt
  have hs1 : w.heap.size < w1.heap.size := by have := ho1.size; simp at this; omega
  have hO1 : Only b w w1 := (Only.of_below ((Below.refl w.heap.size w).alloc (Nat.le_refl _) _)).trans ho1
  have hg1 : w1.heap[w.heap.size]? = some (.cells wl0 59 (0, 0)) := (ho1.block w.heap.size (by simp) (by simp; omega)).trans (heap_alloc_new w _)
  obtain ⟨t, ok, hv, hY⟩ : ∃ (t : List UInt8) (ok : Bool), e = .returned (.tuple #[.string (S t), .bool ok]) ∧
      ((ok = true ∧ ∃ r, tgtL (s.data.toList.drop k) = some (t, r) ∧ s.data.toList.drop k1 = r) ∨ (ok = false ∧ tgtL (s.data.toList.drop k) = none)) := by
    cases hx : tgtL (s.data.toList.drop k) with
    | none => rw [hx] at he; exact ⟨[], false, he, .inr ⟨rfl, rfl⟩⟩
    | some y => rw [hx] at he; exact ⟨y.1, true, he, .inl ⟨rfl, y.2, rfl, h3 y.1 y.2 hx⟩⟩
  subst hv
  have HY := Lib.hid hY
  have H4 := Lib.hid h4
  clear he h3 hY h4
  go_wp2_with fail
  refine (cBlank_c b s k1 h2 hs _ (H4.out.alloc _)).mono ?_
  rintro e w2 ⟨rfl, ⟨k2, j1, j2, j3, hc2⟩, ho2⟩
  go_wp2_with fail
  have hs2 : w1.heap.size < w2.heap.size := by have := ho2.size; simp at this; omega
  have hL0 : LS w w2 b w1.heap.size #[.string (S t), .slice none 0 0, .slice none 0 0] (.slice none 0 0) [] :=
    ⟨(hO1.trans (Only.of_below ((Below.refl _ w1).alloc (Nat.le_refl _) _))).trans ho2, hbl, (ho2.block _ (by simp; omega) (by simp; omega)).trans ((Below.heap_alloc w1 _ _ hs1).trans hg1),
      (ho2.block _ (by simp) (by simp; omega)).trans (heap_alloc_new w1 _), hs1, Flds.nil⟩
  obtain ⟨Y, hYl, hY0⟩ : ∃ Y, linkL (s.data.toList.drop k) = Y.map (fun x => ((t, relsL x.1, x.1), x.2)) ∧ LL w w2 b w1.heap.size s k s.size t Y (.bool ok) := by
    rcases HY.out with ⟨rfl, r, hr, hr2⟩ | ⟨rfl, hr⟩
    · exact ⟨paramsF (r.length + 1) r, by rw [linkL, hr], k2, _, [], true, rfl, by omega, j2, Nat.zero_le _, (fun f hf => by cases hf), hc2, hL0, .inl ⟨rfl, by omega, r, _, Nat.lt_succ_self _, by rw [j3, hr2], preP_nil _⟩⟩
    · exact ⟨none, by rw [linkL, hr]; rfl, k2, _, [], false, rfl, by omega, j2, Nat.zero_le _, (fun f hf => by cases hf), hc2, hL0, .inr ⟨rfl, rfl⟩⟩
  have HYL := Lib.hid hYl
  have hbl' := hL0.lt
  clear hL0 hYl HY hg1 hc2 j3 H4 ho2 ho1 hO1
  generalize w1.heap.size = gW at *
  go_loopg [5] s.size (fun gf u5 wr => LL w wr b gW s k gf t Y u5)
  case atStart => exact hY0
  case round =>
    clear hY0
    obtain ⟨j, pv, acc, ok, rfl, hkj, hj, hal, hav, hcj, hLS, hcase⟩ := hrel
    obtain ⟨pA, pn, pc, rfl⟩ := own_slice hLS.own
    have HCJ := Lib.hid hcj
    have HLS := Lib.hid hLS
    have HAV := Lib.hid hav
    rcases hcase with ⟨rfl, hgf, l, n, hln, hl, hX⟩ | ⟨rfl, hYn⟩
    · have HL := Lib.hid hl
      have HX := Lib.hid hX
      clear hcj hLS hav hl hX
      go_wp2_with fail
      refine (cTake_c b s j hj hs 59 (by omega) (by omega) _ HCJ.out).mono ?_
      rintro e w3 ⟨tk, rfl, hT, hF, ho3⟩
      have HLS3 := Lib.hid (HLS.out.then_ ho3)
      cases tk with
      | false =>
        obtain ⟨hn, hc3⟩ := hF rfl
        have HN := Lib.hid (pars_no hln HL.out hn HX.out)
        have HC3 := Lib.hid hc3
        clear hT hF hn hc3
        obtain ⟨c0, c1, c2, f0, f1, f2⟩ := cells3 HLS3.out.blk
        go_wp2_with fail
        refine (rels_s _ w.heap.size _ acc HLS3.out.own (by omega) (fun f hf => Nat.le_trans (HAV.out f hf) hs)).mono ?_
        rintro e w5 ⟨rA, rn, rc, rfl, hS, hb5⟩
        have hLS5 := HLS3.out.then_ (Only.of_below hb5)
        have hgt := hLS5.gt
        have hK := hLS5.lk (hS.base HLS3.out.only.size)
        have hc5 := HC3.out.below hb5 HC3.out.lt
        obtain ⟨c0, c1, c2, f0, f1, f2⟩ := cells3 hLS5.blk
        obtain ⟨r0, r1, r2, q0, q1, q2⟩ := cells3 hLS5.res
        have HK := Lib.hid hK
        have HC5 := Lib.hid hc5
        clear hLS5 hK hc5 hS hb5
        go_wp2_with fail
        refine bodyPost_ret (v := .tuple #[.agg #[.string (S t), .slice rA rn rc, .slice pA pn pc], .bool true]) (by simp [results, Tryz.results43, go_sem, r0, r1, r2]) rfl ?_
        have fin : ∀ W', LK w W' b w.heap.size gW (.slice rA rn rc) (.slice pA pn pc) (relsL acc) acc → Cur W' b s j → LR w W' (linkL (s.data.toList.drop k)) (.returned (.tuple #[.agg #[.string (S t), .slice rA rn rc, .slice pA pn pc], .bool true])) ∧ AtRestF W' b s k (linkL (s.data.toList.drop k)) ∧ Only b w W' := fun W' hK hC =>
          ⟨.inr ⟨((t, relsL acc, acc), s.data.toList.drop j), _, _, _, _, _, _, by rw [HYL.out, HN.out]; rfl, rfl, hK.strs, hK.flds⟩, ⟨j, hkj, hj, hC, fun v r h => by rw [HYL.out, HN.out] at h; cases h; rfl⟩, hK.only⟩
        exact fin _ (HK.out.four hgt _ _ _ _) (HC5.out.four hbl' hgt _ _ _ _)
      | true =>
        obtain ⟨hlt, he, hc3⟩ := hT rfl
        have HC3 := Lib.hid hc3
        have HE := Lib.hid he
        clear hT hF hc3 he
        go_wp2_with fail
        refine (cBlank_c b s (j + 1) (by omega) hs _ (HC3.out.alloc _)).mono ?_
        rintro e w4 ⟨rfl, ⟨j4, a1, a2, a3, hc4⟩, ho4⟩
        have hLS4 := (HLS3.out.alloc (.cells #[.string ⟨#[]⟩, .string ⟨#[]⟩] 52)).then_ ho4
        have hg4 : w4.heap[w3.heap.size]? = some (.cells #[.string ⟨#[]⟩, .string ⟨#[]⟩] 52 (0, 0)) := (ho4.block _ (by simp) (by simp; have := HC3.out.lt; omega)).trans (heap_alloc_new w3 _)
        have hg34 := heap_lt hg4
        have A3 := Lib.hid a3
        clear a3
        go_wp2_with fail
        refine (param_c b s j4 a2 hs _ hc4).mono ?_
        rintro e w5 ⟨hpr, ⟨j5, b1, b2, hc5, b3⟩, ho5⟩
        have hLS5 := hLS4.then_ ho5
        have hg5 : w5.heap[w3.heap.size]? = some (.cells #[.string ⟨#[]⟩, .string ⟨#[]⟩] 52 (0, 0)) := (ho5.block _ hg34 (by simp; have := HC3.out.lt; omega)).trans hg4
        clear hLS4 hg4 hc4
        obtain ⟨n', v', ok', he', hvl, hcase⟩ : ∃ (n' v' : List UInt8) (ok' : Bool), e = .returned (.tuple #[.agg #[.string (S n'), .string (S v')], .bool ok']) ∧ v'.length ≤ s.size ∧
            ((ok' = true ∧ ∃ r, paramL (s.data.toList.drop j4) = some ((n', v'), r) ∧ s.data.toList.drop j5 = r) ∨ (ok' = false ∧ paramL (s.data.toList.drop j4) = none)) := by
          rcases hpr with ⟨hx, n', he⟩ | ⟨y, hx, he⟩
          · exact ⟨n'.data.toList, [], false, he, by simp, .inr ⟨rfl, hx⟩⟩
          · have := paramL_le (f := y.1) (r := y.2) hx
            rw [drop_len] at this
            exact ⟨y.1.1, y.1.2, true, he, by omega, .inl ⟨rfl, y.2, hx, b3 _ _ hx⟩⟩
        subst he'
        have HCS := Lib.hid hcase
        clear hpr b3 hcase
        obtain ⟨c0, c1, c2, f0, f1, f2⟩ := cells3 hLS5.blk
        obtain ⟨l0, l1, l2, l3⟩ := fld_cells hg5
        have HLS5 := Lib.hid hLS5
        have HC5 := Lib.hid hc5
        have hgt := hLS5.gt
        have hsz := hLS5.size
        have hsz3 : gW < w3.heap.size := HLS3.out.size
        clear hLS5 hc5 hg5
        have hA5 := (((HLS5.out.far (a := ⟨w3.heap.size, 0, none⟩) (by simp; omega) (by simp; omega) (own_ne HLS3.out.own (Nat.le_refl _)) (.string (S n'))).far (a := ⟨w3.heap.size, 1, none⟩) (by simp; omega) (by simp; omega) (own_ne HLS3.out.own (Nat.le_refl _)) (.string (S v'))))
        have HA5 := Lib.hid hA5
        clear hA5
        go_wp2_with (at_builtin; refine wpList_append_row infoF rfl (by decide) (by decide) rfl (.tmp 32) (.tmp 34) 23 rfl Tryz.underlying23 w.heap.size _ acc.length (fldsV acc) rfl (HA5.out.own.alloc _) ⟨w5.heap.size, 0, none⟩ 1 [.string (S n'), .string (S v')] rfl rfl ?c1 ?c2 ?c3 ?c4 ?_)
        case c1 =>
          have hsz5 : ((w5.setCell ⟨w3.heap.size, 0, none⟩ (.string (S n'))).setCell ⟨w3.heap.size, 1, none⟩ (.string (S v'))).heap.size = w5.heap.size := by simp
          rw [← hsz5]; exact news_of _ _ _ _ rfl
        case c2 => intro u hu; simp at hu; rcases hu with rfl | rfl <;> rfl
        case c3 => omega
        case c4 => have := HLS5.out.only.size; simp; omega
        intro g cap w6 hown6 hg6
        have hC5 := ((HC5.out.setNe (a := ⟨w3.heap.size, 0, none⟩) (by simp; omega) (.string (S n'))).setNe (a := ⟨w3.heap.size, 1, none⟩) (by simp; omega) (.string (S v'))).alloc (.cells #[.string (S n'), .string (S v')] 52)
        have hC6 : Cur w6 b s j5 := (hg6.block b hC5.lt (fun e => by have := (World.ownsRow.lt HA5.out.own b e.symm).1; omega)).trans hC5
        have hLS6 : LS w w6 b gW #[.string (S t), .slice none 0 0, .slice pA pn pc] (.slice (some ⟨g, 0, none⟩) (acc.length + 1) cap) (acc ++ [(n', v')]) := HA5.out.app hg6 (by unfold Flds; rw [List.length_append, fldsV_snoc]; exact hown6)
        have hLS7 : LS w (w6.setCell ⟨gW, 2, none⟩ (.slice (some ⟨g, 0, none⟩) (acc.length + 1) cap)) b gW #[.string (S t), .slice none 0 0, .slice (some ⟨g, 0, none⟩) (acc.length + 1) cap] (.slice (some ⟨g, 0, none⟩) (acc.length + 1) cap) (acc ++ [(n', v')]) := hLS6.store _ hLS6.own
        have hC7 := hC6.setNe (a := ⟨gW, 2, none⟩) (by simp; omega) (.slice (some ⟨g, 0, none⟩) (acc.length + 1) cap)
        clear c0 c1 c2 f0 f1 f2 l0 l1 l2 l3 hC5 hown6 hg6 HA5 hC6
        obtain ⟨c0, c1, c2, f0, f1, f2⟩ := cells3 hLS6.blk
        have HLS7 := Lib.hid hLS7
        clear hLS6 hLS7
        go_wp2_with fail
        refine (cBlank_c b s j5 b2 hs _ hC7).mono ?_
        rintro e w8 ⟨rfl, ⟨j8, d1, d2, d3, hc8⟩, ho8⟩
        have D3 := Lib.hid d3
        clear d3 hC7
        go_wp2_with fail
        go_roundg (gk - 1)
        case measure => omega
        case rel =>
          refine ⟨j8, _, acc ++ [(n', v')], ok', rfl, by omega, d2, by simp; omega, ?_, hc8, HLS7.out.then_ ho8, ?_⟩
          · intro f hf
            rcases List.mem_append.1 hf with h | h
            · exact HAV.out f h
            · simp at h; subst h; exact hvl
          · have hbl' := blank_len l
            rw [← HL.out, drop_len] at hbl'
            rcases HCS.out with ⟨rfl, r, hp, hr⟩ | ⟨rfl, hp⟩
            · rw [A3.out] at hp
              exact .inl ⟨rfl, by omega, r, n - 1, by rw [← hr, drop_len]; omega, by rw [D3.out, hr], pars_step hln HL.out hlt (by have := HE.out; omega) hp HX.out⟩
            · rw [A3.out] at hp
              exact .inr ⟨rfl, pars_bad hln HL.out hlt (by have := HE.out; omega) hp HX.out⟩
    · have HYn := Lib.hid hYn
      obtain ⟨c0, c1, c2, f0, f1, f2⟩ := cells3 hLS.blk
      clear hcj hLS hav hYn
      go_wp2_with fail
      refine (rels_s _ w.heap.size _ acc HLS.out.own (by omega) (fun f hf => Nat.le_trans (HAV.out f hf) hs)).mono ?_
      rintro e w5 ⟨rA, rn, rc, rfl, hS, hb5⟩
      have hLS5 := HLS.out.then_ (Only.of_below hb5)
      have hgt := hLS5.gt
      have hK := hLS5.lk (hS.base HLS.out.only.size)
      have hc5 := HCJ.out.below hb5 HCJ.out.lt
      obtain ⟨c0, c1, c2, f0, f1, f2⟩ := cells3 hLS5.blk
      obtain ⟨r0, r1, r2, q0, q1, q2⟩ := cells3 hLS5.res
      have HK := Lib.hid hK
      have HC5 := Lib.hid hc5
      clear hLS5 hK hc5 hS hb5
      go_wp2_with fail
      refine bodyPost_ret (v := .tuple #[.agg #[.string (S t), .slice rA rn rc, .slice pA pn pc], .bool false]) (by simp [results, Tryz.results43, go_sem, r0, r1, r2]) rfl ?_
      have fin : ∀ W', LK w W' b w.heap.size gW (.slice rA rn rc) (.slice pA pn pc) (relsL acc) acc → Cur W' b s j → LR w W' (linkL (s.data.toList.drop k)) (.returned (.tuple #[.agg #[.string (S t), .slice rA rn rc, .slice pA pn pc], .bool false])) ∧ AtRestF W' b s k (linkL (s.data.toList.drop k)) ∧ Only b w W' := fun W' hK hC =>
        ⟨.inl ⟨by rw [HYL.out, HYn.out]; rfl, _, _, _, _, _, _, _, rfl⟩, ⟨j, hkj, hj, hC, fun v r h => by rw [HYL.out, HYn.out] at h; cases h⟩, hK.only⟩
      exact fin _ (HK.out.four hgt _ _ _ _) (HC5.out.four hbl' hgt _ _ _ _)
end Go.Proofs.YtaopehogpdgkgaaGreat
