/- The walk of the reference's parse of a media type (chapter 20). -/
import Derived.Test.YtaopehogpdgkgaaGreatMdParse
import Derived.Deep.RegionHeld3
namespace Go.Proofs.YtaopehogpdgkgaaGreat
open Go.RowKit
/-- what the reference's parse answers -/
def RMR (w w' : World) (X : MX) (e : Ending) : Prop :=
  (X = none ∧ e = .returned (.tuple #[.agg #[.string ⟨#[]⟩, .string ⟨#[]⟩, .slice none 0 0], .bool false])) ∨
  ∃ a b fs v, X = some (a, b, fs) ∧ e = .returned (.tuple #[.agg #[.string (S a), .string (S b), v], .bool true]) ∧ Flds w' w.heap.size v fs
theorem rmr_err {w w' : World} {X : MX} {v : Value} (h : X = none) (hv : v = .tuple #[.agg #[.string ⟨#[]⟩, .string ⟨#[]⟩, .slice none 0 0], .bool false]) : RMR w w' X (.returned v) := .inl ⟨h, by rw [hv]⟩
/-- the media type's block, its parameters, the result's block -/
def MH (w wr : World) (hb : Nat) (x y fv : Value) (acc : List Fld) : Prop :=
  wr.heap[hb]? = some (.cells #[x, y, fv] 25 (0, 0)) ∧ Flds wr (hb + 1) fv acc ∧ Below w.heap.size w wr ∧ wr.heap[w.heap.size]? = some (.cells #[.string ⟨#[]⟩, .string ⟨#[]⟩, .slice none 0 0] 25 (0, 0))
theorem m_own_blk {w : World} {B n size : Nat} {e : TypeId} {v : Value} {xs : List Value} (h : w.ownsRow B e size v n xs) {g : Nat} (hg : v.ownBlock = some g) : B ≤ g := (World.ownsRow.lt h g hg).1
theorem m_cell {W w7 w8 : World} {hb : Nat} {o : Obj} {fv : Value} {acc : List Fld} {x : Obj} (h : w7.heap[hb]? = some x) (hg : (w7.alloc o).grownBy w8 fv.ownBlock) (hf : Flds W (hb + 1) fv acc) : w8.heap[hb]? = some x :=
  (hg.block hb (by have := heap_lt h; simp; omega) (fun e => by have := m_own_blk hf e.symm; omega)).trans ((Below.heap_alloc _ _ _ (heap_lt h)).trans h)
theorem m_alloc {w : World} {a : Addr} {v : Value} {o : Obj} (h : w.cell? a = some v ∧ w.frozen? a = false) : (w.alloc o).cell? a = some v ∧ (w.alloc o).frozen? a = false := by
  have hlt := World.block_lt_of_cell? _ _ h.1
  have hb := (Below.refl _ w).alloc (Nat.le_refl _) o
  exact ⟨(hb.cell hlt).trans h.1, (World.frozen?_of_block (hb.block _ hlt)).trans h.2⟩
theorem m_set2 {w : World} {hb : Nat} {x y z : Value} {T : TypeId} (h : w.heap[hb]? = some (.cells #[x, y, z] T (0, 0))) (u : Value) : (w.setCell ⟨hb, 2, none⟩ u).heap[hb]? = some (.cells #[x, y, u] T (0, 0)) := by
  simp [World.setCell, Array.getElem?_modify, h]
theorem mh_app {w W W1 w7 W7 w8 : World} {hb g cap : Nat} {x y fv : Value} {acc : List Fld} {f : Fld}
    (h : MH w W hb x y fv acc) (hbs : w.heap.size < hb)
    (e1 : W1.heap = W.heap) (hb7 : Below W1.heap.size W1 w7) (hb7' : Below w7.heap.size w7 W7) (hgr : W7.grownBy w8 fv.ownBlock)
    (hown : w8.ownsRow (hb + 1) 52 2 (.slice (some ⟨g, 0, none⟩) (acc.length + 1) cap) (acc.length + 1) (fldsV acc ++ [.string (S f.1), .string (S f.2)]))
    (hb0 : Below w.heap.size w W1) :
    MH w (w8.setCell ⟨hb, 2, none⟩ (.slice (some ⟨g, 0, none⟩) (acc.length + 1) cap)) hb x y (.slice (some ⟨g, 0, none⟩) (acc.length + 1) cap) (acc ++ [f]) := by
  obtain ⟨hh, hf, hB, hg⟩ := h
  have hlt := heap_lt hh
  have hne : fv.ownBlock ≠ some hb := fun e => by have := m_own_blk hf e; omega
  have hs1 : W1.heap.size = W.heap.size := by rw [e1]
  have hs7 := hb7.size
  have hs7' := hb7'.size
  have keep : ∀ j, j < W.heap.size → fv.ownBlock ≠ some j → w8.heap[j]? = W.heap[j]? := by
    intro j hj hn
    rw [hgr.block j (by omega) (fun e => hn e.symm), hb7'.block j (by omega), hb7.block j (by omega), e1]
  have k1 := (keep hb hlt hne).trans hh
  have hB8 : Below w.heap.size w w8 := by
    refine (hb0.trans (hb7.mono (by have := hB.size; omega))).trans ((hb7'.mono (by have := hB.size; omega)).trans ⟨hgr.os, hgr.tape, hgr.output, hgr.size, fun j hj => hgr.block j (by have := hB.size; omega) (fun e => ?_)⟩)
    have := m_own_blk hf e.symm; omega
  refine ⟨m_set2 k1 _, ?_, hB8.setCell (by simp; omega) _, ?_⟩
  · unfold Flds
    rw [fldsV_snoc, List.length_append]
    exact own_keep hown (Only.set (b := hb) _) (fun g' e => by cases e; exact .inl (Nat.lt_succ_self _))
  · rw [Below.heap_setCell _ _ _ _ (by simp; omega)]
    refine (keep _ (by omega) (fun e => ?_)).trans hg
    have := m_own_blk hf e; omega
theorem m_later {w w' : World} {B : Nat} {v : Value} {l : List Fld} (hb : Below w.heap.size w w') (h : Flds w B v l) : Flds w' B v l := h.later hb
def mparK (nm r : List UInt8) : Option (Fld × List UInt8) := match r with
  | [] => none
  | c :: t => if c.toNat = 61 then (valueL t).map fun y => ((lowerL nm, y.1), y.2) else none
def medK (n : Nat) (nm r : List UInt8) : MX := match r with
  | [] => none
  | c :: t => if c.toNat = 47 then (match tokO t with
      | none => none
      | some (b, q) => (mparsF n q).map fun fs => (lowerL nm, lowerL b, fs)) else none
theorem mpar_tok {l nm r : List UInt8} (h : tokO (blankL l) = some (nm, r)) : mpar l = mparK nm r := by
  unfold mpar mparK; simp only [h]; cases r <;> rfl
theorem mpar_none {l : List UInt8} (h : tokO (blankL l) = none) : mpar l = none := by unfold mpar; simp only [h]
theorem med_none {l : List UInt8} (h : tokO (blankL l) = none) : mediaL l = none := by unfold mediaL mtype; simp only [h]
theorem med_tok {l nm r : List UInt8} (h : tokO (blankL l) = some (nm, r)) : mediaL l = medK (l.length + 1) nm r := by
  unfold mediaL mtype medK; simp only [h]
  cases r with
  | nil => rfl
  | cons c t =>
    simp only
    by_cases hc : c.toNat = 47
    · rw [if_pos hc, if_pos hc]
      cases tokO t with
      | none => rfl
      | some y => rfl
    · rw [if_neg hc, if_neg hc]
/-- the loop's relation -/
def RMP (w wr : World) (hb : Nat) (s : ByteArray) (gf : Nat) (x y : Value) (Y : Option (List Fld)) (u5 : Value) : Prop :=
  ∃ (k n : Nat) (pv : Value) (acc : List Fld), u5 = .int .i64 (k : Int) ∧ k ≤ s.size ∧ s.size ≤ k + gf ∧ acc.length ≤ k ∧ (s.data.toList.drop k).length < n ∧ MH w wr hb x y pv acc ∧ preM acc (mparsF n (s.data.toList.drop k)) = Y
theorem tok_len2 {l nm r : List UInt8} (h : tokO l = some (nm, r)) : nm.length ≤ l.length := by
  unfold tokO at h
  split at h
  · cases h
  · injection h with h; injection h with h1 h2; subst h1; exact tok_len l
set_option maxRecDepth 100000 in
set_option maxHeartbeats 8000000 in
theorem rmParse_c (s : ByteArray) (hs : s.size ≤ 1000000) (w : World) :
    Calls Tryz.prog 33 #[.string s] w fun e w' => RMR w w' (mediaL s.data.toList) e ∧ Below w.heap.size w w' := by
  generalize hX : mediaL s.data.toList = X
  have hB0 : Below w.heap.size w (w.alloc (.cells #[.string ⟨#[]⟩, .string ⟨#[]⟩, .slice none 0 0] 25)) := (Below.refl _ w).alloc (Nat.le_refl _) _
  have hg0 := heap_alloc_new w (.cells #[.string ⟨#[]⟩, .string ⟨#[]⟩, .slice none 0 0] 25)
  have HX := Lib.hid hX
  clear hX
  go_enter Tryz.func33, Tryz.ntmps33
  go_wp2_with fail
  generalize w.alloc (.cells #[.string ⟨#[]⟩, .string ⟨#[]⟩, .slice none 0 0] 25) = w1 at *
  refine (rSkip_c s 0 (Nat.zero_le _) hs _).mono ?_
  rintro e w' ⟨⟨k1, _, i2, i3, rfl⟩, rfl⟩
  have I3 := Lib.hid (show s.data.toList.drop k1 = blankL s.data.toList by rw [i3, List.drop_zero])
  clear i3
  go_wp2_with fail
  refine (rToken_c s k1 i2 hs _).mono ?_
  rintro e w' ⟨hRD, rfl⟩
  have hlt0 := heap_lt hg0
  rw [I3.out] at hRD
  rcases hRD with ⟨hx, rfl⟩ | ⟨nm, r, k2, hx, hk2, hk2', hr, rfl⟩
  · have HE := Lib.hid (show X = none from HX.out.symm.trans (med_none hx))
    obtain ⟨a0, a1, a2, q0, q1, q2⟩ := cells3m hg0
    clear hx
    go_wp2_with fail
    refine bodyPost_ret (v := .tuple #[.agg #[.string ⟨#[]⟩, .string ⟨#[]⟩, .slice none 0 0], .bool false]) (by simp [results, Tryz.results33, go_sem, a0, a1, a2]) rfl ⟨rmr_err HE.out rfl, below3m hB0 _ _ _⟩
  · have HX2 := Lib.hid (HX.out.symm.trans (med_tok hx))
    have htl := tok_len2 hx
    have htl2 := blank_len s.data.toList
    rw [size_toList] at htl2
    subst hr
    clear hx HX I3
    by_cases hend : k2 < s.size
    · have hx2 := HX2.out
      rw [drop_cons s k2 hend] at hx2
      simp only [medK] at hx2
      by_cases h47 : s[k2].toNat = 47
      · rw [if_pos h47] at hx2
        have HX3 := Lib.hid hx2
        have e47 : ((s[k2].toNat : Int) == 47) = true := by rw [h47]; rfl
        have e47' : ((s[k2].toNat : Int) != 47) = false := by rw [h47]; rfl
        have hne : ¬ k2 = s.size := by omega
        clear hx2 HX2 h47
        go_wp2_with fail
        refine (rToken_c s (k2 + 1) (by omega) hs _).mono ?_
        rintro e w' ⟨hRD, rfl⟩
        rcases hRD with ⟨hy, rfl⟩ | ⟨nb, r3, k3, hy, hk3, hk3', hr3, rfl⟩
        · have HE := Lib.hid (show X = none by rw [HX3.out, hy])
          obtain ⟨a0, a1, a2, q0, q1, q2⟩ := cells3m hg0
          clear hy
          go_wp2_with fail
          refine bodyPost_ret (v := .tuple #[.agg #[.string ⟨#[]⟩, .string ⟨#[]⟩, .slice none 0 0], .bool false]) (by simp [results, Tryz.results33, go_sem, a0, a1, a2]) rfl ⟨rmr_err HE.out rfl, below3m hB0 _ _ _⟩
        · obtain ⟨Y, hY⟩ : ∃ Y, mparsF (s.data.toList.length + 1) r3 = Y := ⟨_, rfl⟩
          have HE := Lib.hid (show X = Y.map fun fs => (lowerL nm, lowerL nb, fs) by rw [HX3.out, hy]; simp only; rw [hY])
          have htb := tok_len2 hy
          rw [drop_len] at htb
          subst hr3
          have HY := Lib.hid hY
          have HLa := Lib.hid (rLower_c (S nm) (by rw [S_size]; omega))
          have HLb := Lib.hid (rLower_c (S nb) (by rw [S_size]; omega))
          clear hy hY HX3 e47 e47' hne
          go_wp2_with fail
          refine (HLa.out _).mono ?_
          rintro e w3 ⟨rfl, hb3⟩
          have hB3 := hB0.trans (hb3.mono hB0.size)
          have hg3 := (hb3.block _ hlt0).trans hg0
          have hlt3 := heap_lt hg3
          go_wp2_with fail
          refine (HLb.out _).mono ?_
          rintro e w4 ⟨rfl, hb4⟩
          have hB4 := hB3.trans (hb4.mono hB3.size)
          have hg4 := (hb4.block _ hlt3).trans hg3
          have hlt4 := heap_lt hg4
          rw [S_list, S_list]
          clear hB0 hb3 hB3 hg3 hb4 hg0 HLa HLb
          have hM := (show MH w (w4.alloc (.cells #[.string (S (lowerL nm)), .string (S (lowerL nb)), .slice none 0 0] 25)) w4.heap.size (.string (S (lowerL nm))) (.string (S (lowerL nb))) (.slice none 0 0) [] from
            ⟨heap_alloc_new w4 _, Flds.nil, hB4.alloc hB4.size _, (Below.heap_alloc _ _ _ hlt4).trans hg4⟩)
          have HM := Lib.hid hM
          clear hM hB4 hg4
          go_wp2_with fail
          generalize w4.alloc (.cells #[.string (S (lowerL nm)), .string (S (lowerL nb)), .slice none 0 0] 25) = w5 at *
          generalize hhb : w4.heap.size = hb at *
          clear hhb
          go_loopg [5] (s.size + 1) (fun gf u5 wr => RMP w wr hb s gf (.string (S (lowerL nm))) (.string (S (lowerL nb))) Y u5)
          case atStart => exact ⟨k3, s.data.toList.length + 1, _, [], rfl, hk3', by omega, by simp, by rw [drop_len, size_toList]; omega, HM.out, by rw [preM_nil]; exact HY.out⟩
          case round =>
            clear HM HY
            obtain ⟨k, n, pv, acc, rfl, hk, hgf, hak, hln, hM, hY⟩ := hrel
            obtain ⟨uA, uc, rfl⟩ : ∃ A c, pv = .slice A acc.length c := own_sl hM.2.1
            have HM := Lib.hid hM
            have HY := Lib.hid hY
            have HLN := Lib.hid hln
            have hn0 : 0 < n := by omega
            clear hM hY hln
            go_wp2_with fail
            refine (rSkip_c s k hk hs _).mono ?_
            rintro e w' ⟨⟨j1, j2, j3, j4, rfl⟩, rfl⟩
            have J4 := Lib.hid j4
            clear j4
            obtain ⟨m0, m1, m2, g0, g1, g2⟩ := cells3m HM.out.1
            obtain ⟨r0, r1, r2, y0, y1, y2⟩ := cells3m HM.out.2.2.2
            by_cases hd : j1 < s.size
            · have hdn : ¬ j1 = s.size := by omega
              by_cases h59 : s[j1].toNat = 59
              · have e59 : ((s[j1].toNat : Int) == 59) = true := by rw [h59]; rfl
                have e59' : ((s[j1].toNat : Int) != 59) = false := by rw [h59]; rfl
                have H59 := Lib.hid h59
                clear h59
                go_wp2_with fail
                refine (rSkip_c s (j1 + 1) (by omega) hs _).mono ?_
                rintro e w' ⟨⟨l1, l2, l3, l4, rfl⟩, rfl⟩
                have L4 := Lib.hid l4
                clear l4
                go_wp2_with fail
                refine (rToken_c s l1 l3 hs _).mono ?_
                rintro e w' ⟨hRD, rfl⟩
                rw [L4.out] at hRD
                rcases hRD with ⟨hx, rfl⟩ | ⟨np, r6, k6, hx, hk6, hk6', hr6, rfl⟩
                · have HE2 := Lib.hid (show X = none by rw [HE.out, md_bad hn0 J4.out hd H59.out (mpar_none hx) HY.out]; rfl)
                  clear hx
                  go_wp2_with fail
                  refine bodyPost_ret (v := .tuple #[.agg #[.string ⟨#[]⟩, .string ⟨#[]⟩, .slice none 0 0], .bool false]) (by simp [results, Tryz.results33, go_sem, r0, r1, r2]) rfl ⟨rmr_err HE2.out rfl, below3m HM.out.2.2.1 _ _ _⟩
                · have HP := Lib.hid (mpar_tok hx)
                  have hnl := tok_len2 hx
                  have hnl2 := blank_len (s.data.toList.drop (j1 + 1))
                  rw [drop_len] at hnl2
                  subst hr6
                  clear hx
                  by_cases hd6 : k6 < s.size
                  · have hp := HP.out
                    rw [drop_cons s k6 hd6] at hp
                    simp only [mparK] at hp
                    have hd6n : ¬ k6 = s.size := by omega
                    by_cases h61 : s[k6].toNat = 61
                    · rw [if_pos h61] at hp
                      have HP2 := Lib.hid hp
                      have e61 : ((s[k6].toNat : Int) == 61) = true := by rw [h61]; rfl
                      have e61' : ((s[k6].toNat : Int) != 61) = false := by rw [h61]; rfl
                      clear h61 hp HP
                      go_wp2_with fail
                      refine (rValue_c s (k6 + 1) (by omega) hs _).mono ?_
                      rintro e w7 ⟨hRD, hb7⟩
                      have hMlt := heap_lt HM.out.1
                      have hM7 : MH w w7 hb (.string (S (lowerL nm))) (.string (S (lowerL nb))) (.slice uA acc.length uc) acc :=
                        ⟨(hb7.block _ hMlt).trans HM.out.1, HM.out.2.1.later hb7, HM.out.2.2.1.trans (hb7.mono HM.out.2.2.1.size), (hb7.block _ (heap_lt HM.out.2.2.2)).trans HM.out.2.2.2⟩
                      have HM7 := Lib.hid hM7
                      clear hM7 HM hMlt m0 m1 m2 g0 g1 g2 r0 r1 r2 y0 y1 y2 hb7
                      obtain ⟨m0, m1, m2, g0, g1, g2⟩ := cells3m HM7.out.1
                      obtain ⟨r0, r1, r2, y0, y1, y2⟩ := cells3m HM7.out.2.2.2
                      rcases hRD with ⟨hv, rfl⟩ | ⟨vv, r8, k8, hv, hk8, hk8', hr8, rfl⟩
                      · have HE2 := Lib.hid (show X = none by rw [HE.out, md_bad hn0 J4.out hd H59.out (by rw [HP2.out, hv]; rfl) HY.out]; rfl)
                        clear hv
                        go_wp2_with fail
                        refine bodyPost_ret (v := .tuple #[.agg #[.string ⟨#[]⟩, .string ⟨#[]⟩, .slice none 0 0], .bool false]) (by simp [results, Tryz.results33, go_sem, r0, r1, r2]) rfl ⟨rmr_err HE2.out rfl, below3m HM7.out.2.2.1 _ _ _⟩
                      · have hY2 := md_step (f := (lowerL np, vv)) (r := r8) hn0 J4.out hd H59.out (by rw [HP2.out, hv]; rfl) HY.out
                        subst hr8
                        have HY2 := Lib.hid hY2
                        have HLo := Lib.hid (rLower_c (S np) (by rw [S_size]; omega))
                        clear hv hY2
                        go_wp2_with fail
                        have hh6' := Lib.hid HM7.out.1
                        have hhs := heap_lt HM7.out.1
                        have HFL := Lib.hid HM7.out.2.1
                        have hone : ∀ u ∈ ([.string (S (lowerL np)), .string (S vv)] : List Value), u.oneCell' = true := by intro u hu; simp at hu; rcases hu with rfl | rfl <;> rfl
                        have hq1 : acc.length + 1 ≤ maxLen := by unfold maxLen; omega
                        have hq2 : (acc.length + 1) * 32 ≤ 140737488355328 := by omega
                        obtain ⟨i0, hi, hz0, hz1, hz2⟩ := info_parts infoF
                        rw [S_list] at HLo
                        go_region_law (first | (refine step_append_lies _ (by rfl) _ _ 23 (by rfl) (hb + 1) 52 i0 (.agg #[.string ⟨#[]⟩, .string ⟨#[]⟩]) 2 32 Tryz.underlying23 hi hz0 hz1 hz2 rfl (by decide) (.slice uA acc.length uc) acc.length (fldsV acc) (by rfl) ((m_later hb9 HFL.out).alloc _) ⟨w9.heap.size, 0, none⟩ 1 1 [.string (S (lowerL np)), .string (S vv)] (by rfl) rfl (World.news_of_block (heap_alloc_new w9 _)) hone (by decide) hq1 hq2 (Nat.le_trans (Nat.le_trans hhs hs9) (by simp)) _ rfl ?_; intro g cap wa hown8 hgr8 hwh8 hlt8; have hh8 := m_cell hh9 hgr8 HFL.out; have h8c := (cells3m hh8).2.2.1; have h8f := (cells3m hh8).2.2.2.2.2) | (go_simp; go_at_call 51; (with_reducible refine (HLo.out _).mono ?_); rintro e w9 ⟨rfl, hb9⟩; have hh9 := (hb9.block hb hhs).trans hh6'.out; have h9c := (cells3m hh9).2.2.1; have h9f := (cells3m hh9).2.2.2.2.2; have hs9 := hb9.size; have h9a := fun o => (m_alloc (o := o) ⟨h9c, h9f⟩).1))
                        all_goals
                          have hMz := mh_app (W1 := w7.drew) (f := (lowerL np, vv)) HM7.out (by omega) rfl hb9 ((Below.refl _ w9).alloc (Nat.le_refl _) _) hgr8 hown8 ⟨HM7.out.2.2.1.os, HM7.out.2.2.1.tape, HM7.out.2.2.1.output, HM7.out.2.2.1.size, HM7.out.2.2.1.block⟩
                          have HMz := Lib.hid hMz
                          clear m0 m1 m2 g0 g1 g2 r0 r1 r2 y0 y1 y2 h9c h9f h9a h8c h8f hh8 hh9 hb9 hown8 hgr8 HLo HFL hh6' hMz
                          go_wp2_with fail
                          go_roundg (gk - 1)
                          case measure => omega
                          case rel => exact ⟨k8, n - 1, _, _, rfl, hk8', by omega, by simp; omega, by have := HLN.out; rw [drop_len] at this ⊢; omega, HMz.out, HY2.out⟩
                    · rw [if_neg h61] at hp
                      have HE2 := Lib.hid (show X = none by rw [HE.out, md_bad hn0 J4.out hd H59.out hp HY.out]; rfl)
                      have e61 : ((s[k6].toNat : Int) == 61) = false := by rw [beq_eq_false_iff_ne]; omega
                      have e61' : ((s[k6].toNat : Int) != 61) = true := by rw [bne_iff_ne]; omega
                      clear h61 hp
                      go_wp2_with fail
                      refine bodyPost_ret (v := .tuple #[.agg #[.string ⟨#[]⟩, .string ⟨#[]⟩, .slice none 0 0], .bool false]) (by simp [results, Tryz.results33, go_sem, r0, r1, r2]) rfl ⟨rmr_err HE2.out rfl, below3m HM.out.2.2.1 _ _ _⟩
                  · obtain rfl : k6 = s.size := by omega
                    have HE2 := Lib.hid (show X = none by rw [HE.out, md_bad hn0 J4.out hd H59.out (by rw [HP.out, drop_end s s.size (by omega)]; rfl) HY.out]; rfl)
                    go_wp2_with fail
                    refine bodyPost_ret (v := .tuple #[.agg #[.string ⟨#[]⟩, .string ⟨#[]⟩, .slice none 0 0], .bool false]) (by simp [results, Tryz.results33, go_sem, r0, r1, r2]) rfl ⟨rmr_err HE2.out rfl, below3m HM.out.2.2.1 _ _ _⟩
              · have HE2 := Lib.hid (show X = none by rw [HE.out, md_no hn0 J4.out hd h59 HY.out]; rfl)
                have e59 : ((s[j1].toNat : Int) == 59) = false := by rw [beq_eq_false_iff_ne]; omega
                have e59' : ((s[j1].toNat : Int) != 59) = true := by rw [bne_iff_ne]; omega
                clear h59
                go_wp2_with fail
                refine bodyPost_ret (v := .tuple #[.agg #[.string ⟨#[]⟩, .string ⟨#[]⟩, .slice none 0 0], .bool false]) (by simp [results, Tryz.results33, go_sem, r0, r1, r2]) rfl ⟨rmr_err HE2.out rfl, below3m HM.out.2.2.1 _ _ _⟩
            · have HE2 := Lib.hid (show X = some (lowerL nm, lowerL nb, acc) by rw [HE.out, md_end hn0 J4.out hd HY.out]; rfl)
              obtain rfl : j1 = s.size := by omega
              go_wp2_with fail
              refine bodyPost_ret (v := .tuple #[.agg #[.string (S (lowerL nm)), .string (S (lowerL nb)), .slice uA acc.length uc], .bool true]) (by simp [results, Tryz.results33, go_sem, r0, r1, r2]) rfl ⟨.inr ⟨_, _, acc, _, HE2.out, rfl, ?_⟩, below3m HM.out.2.2.1 _ _ _⟩
              exact ((HM.out.2.1.off (row := some w.heap.size) (((Only.set (b := w.heap.size) _).trans (Only.set _)).trans (Only.set _)) (fun g hg => by cases hg; exact .inl (by omega))).base (by omega))
      · rw [if_neg h47] at hx2
        have HE := Lib.hid hx2
        have e47 : ((s[k2].toNat : Int) == 47) = false := by rw [beq_eq_false_iff_ne]; omega
        have e47' : ((s[k2].toNat : Int) != 47) = true := by rw [bne_iff_ne]; omega
        have hne : ¬ k2 = s.size := by omega
        obtain ⟨a0, a1, a2, q0, q1, q2⟩ := cells3m hg0
        clear h47 hx2
        go_wp2_with fail
        refine bodyPost_ret (v := .tuple #[.agg #[.string ⟨#[]⟩, .string ⟨#[]⟩, .slice none 0 0], .bool false]) (by simp [results, Tryz.results33, go_sem, a0, a1, a2]) rfl ⟨rmr_err HE.out rfl, below3m hB0 _ _ _⟩
    · have HE := Lib.hid (show X = none by have := HX2.out; rw [drop_end s k2 hend] at this; exact this)
      obtain rfl : k2 = s.size := by omega
      obtain ⟨a0, a1, a2, q0, q1, q2⟩ := cells3m hg0
      go_wp2_with fail
      refine bodyPost_ret (v := .tuple #[.agg #[.string ⟨#[]⟩, .string ⟨#[]⟩, .slice none 0 0], .bool false]) (by simp [results, Tryz.results33, go_sem, a0, a1, a2]) rfl ⟨rmr_err HE.out rfl, below3m hB0 _ _ _⟩
end Go.Proofs.YtaopehogpdgkgaaGreat
