/- The walk of media.Parse (chapter 20). -/
import Derived.Test.YtaopehogpdgkgaaGreatMdMem
namespace Go.Proofs.YtaopehogpdgkgaaGreat
open Go.RowKit
abbrev MX := Option (List UInt8 × List UInt8 × List Fld)
/-- what Parse answers -/
def MDR (w w' : World) (X : MX) (e : Ending) : Prop :=
  (X = none ∧ e = .returned (.tuple #[.agg #[.string ⟨#[]⟩, .string ⟨#[]⟩, .slice none 0 0], .int .i64 200])) ∨
  ∃ a b fs v, X = some (a, b, fs) ∧ e = .returned (.tuple #[.agg #[.string (S a), .string (S b), v], .int .i64 0]) ∧ Flds w' w.heap.size v fs
theorem mdr_err {w w' : World} {X : MX} {v : Value} (h : X = none) (hv : v = .tuple #[.agg #[.string ⟨#[]⟩, .string ⟨#[]⟩, .slice none 0 0], .int .i64 200]) : MDR w w' X (.returned v) := .inl ⟨h, by rw [hv]⟩
theorem below3m {w W : World} (h : Below w.heap.size w W) (x y z : Value) : Below w.heap.size w (((W.setCell ⟨w.heap.size, 0, none⟩ x).setCell ⟨w.heap.size, 1, none⟩ y).setCell ⟨w.heap.size, 2, none⟩ z) :=
  ((h.setCell (Nat.le_refl _) _).setCell (Nat.le_refl _) _).setCell (Nat.le_refl _) _
/-- the loop's relation -/
def MP (w wr : World) (s : ByteArray) (gf : Nat) (X : MX) (u7 : Value) : Prop :=
  ∃ (ok : Bool) (k : Nat) (ta tb : ByteArray) (pv : Value) (acc : List Fld), u7 = .bool ok ∧ k ≤ s.size ∧ acc.length ≤ 1000001 ∧ (∀ f ∈ acc, f.1.length ≤ s.size ∧ f.2.length ≤ s.size) ∧ MS w wr s k (.string ta) (.string tb) pv acc ∧
    ((ok = true ∧ s.size ≤ k + gf ∧ acc.length ≤ k ∧ ∃ a b l n Y, ta = S a ∧ tb = S b ∧ l.length < n ∧ s.data.toList.drop k = l ∧ preM acc (mparsF n l) = Y ∧ X = Y.map fun fs => (a, b, fs)) ∨ (ok = false ∧ X = none))
theorem fcells {w : World} {g : Nat} {x y : Value} {T : TypeId} (h : w.heap[g]? = some (.cells #[x, y] T (0, 0))) : w.cell? ⟨g, 0, none⟩ = some x ∧ w.cell? ⟨g, 1, none⟩ = some y ∧ w.frozen? ⟨g, 0, none⟩ = false ∧ w.frozen? ⟨g, 1, none⟩ = false := by
  simp [World.cell?, World.frozen?, h]
theorem fset0 {w : World} {g : Nat} {x y : Value} {T : TypeId} (h : w.heap[g]? = some (.cells #[x, y] T (0, 0))) (u : Value) : (w.setCell ⟨g, 0, none⟩ u).heap[g]? = some (.cells #[u, y] T (0, 0)) := by
  simp [World.setCell, Array.getElem?_modify, h]
theorem fset1 {w : World} {g : Nat} {x y : Value} {T : TypeId} (h : w.heap[g]? = some (.cells #[x, y] T (0, 0))) (u : Value) : (w.setCell ⟨g, 1, none⟩ u).heap[g]? = some (.cells #[x, u] T (0, 0)) := by
  simp [World.setCell, Array.getElem?_modify, h]
theorem own_sl {w : World} {B n size : Nat} {e : TypeId} {v : Value} {xs : List Value} (h : w.ownsRow B e size v n xs) : ∃ A c, v = .slice A n c := by
  rcases h.2 with ⟨rfl, rfl⟩ | ⟨g, cap, cur, rfl, _⟩
  · exact ⟨_, _, rfl⟩
  · exact ⟨_, _, rfl⟩
theorem tok_len (l : List UInt8) : (tokL l).length ≤ l.length := List.Sublist.length_le (List.takeWhile_sublist _)
theorem mpar_no1 {l : List UInt8} (h : (tokL (blankL l)).isEmpty = true) : mpar l = none := by unfold mpar tokO; rw [if_pos h]
theorem mpar_no2 {s : ByteArray} {l : List UInt8} {k : Nat} (hk : s.data.toList.drop k = tokR (blankL l)) (hn : ∀ h : k < s.size, (s[k].toNat : Int) ≠ 61) : mpar l = none := by
  unfold mpar tokO
  split
  · rfl
  · rename_i nm r he
    split at he
    · cases he
    · injection he with he
      injection he with e1 e2
      subst e2
      rw [← hk]
      by_cases h : k < s.size
      · rw [drop_cons s k h]
        have := hn h
        simp only
        rw [if_neg (by omega)]
      · rw [drop_end s k h]
theorem mpar_yes {s : ByteArray} {l : List UInt8} {k : Nat} (ht : (tokL (blankL l)).isEmpty = false) (hk : s.data.toList.drop k = tokR (blankL l)) (h : k < s.size) (hn : (s[k].toNat : Int) = 61) : mpar l = (valueL (s.data.toList.drop (k + 1))).map fun y => ((lowerL (tokL (blankL l)), y.1), y.2) := by
  unfold mpar tokO
  rw [if_neg (by rw [ht]; simp)]
  simp only
  rw [← hk, drop_cons s k h]
  simp only
  rw [if_pos (by omega)]
theorem mt_no1 {l : List UInt8} (h : (tokL (blankL l)).isEmpty = true) : mediaL l = none := by unfold mediaL mtype tokO; rw [if_pos h]
theorem mt_no2 {s : ByteArray} {l : List UInt8} {k : Nat} (hk : s.data.toList.drop k = tokR (blankL l)) (hn : ∀ h : k < s.size, (s[k].toNat : Int) ≠ 47) : mediaL l = none := by
  have : mtype l = none := by
    unfold mtype tokO
    split
    · rfl
    · rename_i nm r he
      split at he
      · cases he
      · injection he with he
        injection he with e1 e2
        subst e2
        rw [← hk]
        by_cases h : k < s.size
        · rw [drop_cons s k h]
          have := hn h
          simp only
          rw [if_neg (by omega)]
        · rw [drop_end s k h]
  unfold mediaL; rw [this]
theorem mt_yes {s : ByteArray} {l : List UInt8} {k : Nat} (ht : (tokL (blankL l)).isEmpty = false) (hk : s.data.toList.drop k = tokR (blankL l)) (h : k < s.size) (hn : (s[k].toNat : Int) = 47) :
    mediaL l = if (tokL (s.data.toList.drop (k + 1))).isEmpty then none else (mparsF (l.length + 1) (tokR (s.data.toList.drop (k + 1)))).map fun fs => (lowerL (tokL (blankL l)), lowerL (tokL (s.data.toList.drop (k + 1))), fs) := by
  have : mtype l = if (tokL (s.data.toList.drop (k + 1))).isEmpty then none else some (lowerL (tokL (blankL l)), lowerL (tokL (s.data.toList.drop (k + 1))), tokR (s.data.toList.drop (k + 1))) := by
    unfold mtype
    unfold tokO
    rw [if_neg (by rw [ht]; simp)]
    simp only
    rw [← hk, drop_cons s k h]
    simp only
    rw [if_pos (by omega)]
    split <;> rfl
  unfold mediaL; rw [this]
  split
  · rename_i h'
    rw [if_pos (by
      split at h'
      · assumption
      · cases h')]
  · rename_i h'
    split at h'
    · cases h'
    · rw [if_neg (by assumption)]
      injection h' with h'
      simp only [Prod.mk.injEq] at h'
      obtain ⟨rfl, rfl, rfl⟩ := h'
      rfl
set_option maxRecDepth 100000 in
set_option maxHeartbeats 8000000 in
theorem mParse_c (s : ByteArray) (hs : s.size ≤ 1000000) (w : World) :
    Calls Tryz.prog 8 #[.string s] w fun e w' => MDR w w' (mediaL s.data.toList) e ∧ Below w.heap.size w w' := by
  generalize hX : mediaL s.data.toList = X
  have h0 : MS w ((((w.alloc (.cells #[.string ⟨#[]⟩, .string ⟨#[]⟩, .slice none 0 0] 25)).alloc (.cells #[.string s, .int .i64 0] 47)).alloc (.cells #[.pointer (some ⟨w.heap.size + 1, 0, none⟩)] 45)).alloc (.cells #[.string ⟨#[]⟩, .string ⟨#[]⟩, .slice none 0 0] 25)) s 0 (.string ⟨#[]⟩) (.string ⟨#[]⟩) (.slice none 0 0) [] := by
    refine ⟨?_, ?_, ?_, ?_, ?_, Flds.nil⟩
    · exact ((((Below.refl _ w).alloc (Nat.le_refl _) _).alloc (by simp) _).alloc (by simp; try omega) _).alloc (by simp; try omega) _
    · exact (Below.heap_alloc _ _ _ (by simp; try omega)).trans ((Below.heap_alloc _ _ _ (by simp; try omega)).trans ((Below.heap_alloc _ _ _ (by simp)).trans (heap_alloc_new w _)))
    · refine (Below.heap_alloc _ _ _ (by simp; try omega)).trans ((Below.heap_alloc _ _ _ (by simp)).trans ?_)
      have := heap_alloc_new (w.alloc (.cells #[.string ⟨#[]⟩, .string ⟨#[]⟩, .slice none 0 0] 25)) (.cells #[.string s, .int .i64 0] 47)
      simpa using this
    · refine (Below.heap_alloc _ _ _ (by simp)).trans ?_
      have := heap_alloc_new ((w.alloc (.cells #[.string ⟨#[]⟩, .string ⟨#[]⟩, .slice none 0 0] 25)).alloc (.cells #[.string s, .int .i64 0] 47)) (.cells #[.pointer (some ⟨w.heap.size + 1, 0, none⟩)] 45)
      simpa using this
    · have := heap_alloc_new (((w.alloc (.cells #[.string ⟨#[]⟩, .string ⟨#[]⟩, .slice none 0 0] 25)).alloc (.cells #[.string s, .int .i64 0] 47)).alloc (.cells #[.pointer (some ⟨w.heap.size + 1, 0, none⟩)] 45)) (.cells #[.string ⟨#[]⟩, .string ⟨#[]⟩, .slice none 0 0] 25)
      simpa using this
  have HMS := Lib.hid h0
  have HX := Lib.hid hX
  clear h0 hX
  have v0 := HMS.out.c2
  go_enter Tryz.func8, Tryz.ntmps8
  go_wp2_with fail
  generalize ((((w.alloc (.cells #[.string ⟨#[]⟩, .string ⟨#[]⟩, .slice none 0 0] 25)).alloc (.cells #[.string s, .int .i64 0] 47)).alloc (.cells #[.pointer (some ⟨w.heap.size + 1, 0, none⟩)] 45)).alloc (.cells #[.string ⟨#[]⟩, .string ⟨#[]⟩, .slice none 0 0] 25)) = W0 at *
  refine (cBlank_c (w.heap.size + 1) s 0 (Nat.zero_le _) hs _ HMS.out.cur).mono ?_
  rintro e w1 ⟨rfl, ⟨k1, _, a2, a3, hc1⟩, ho1⟩
  have HM1 := Lib.hid (HMS.out.only hc1 ho1)
  have A3 := Lib.hid (show s.data.toList.drop k1 = blankL s.data.toList by rw [a3, List.drop_zero])
  clear HMS v0 hc1 ho1 a3
  have HW1 := Lib.hid (word_c (w.heap.size + 1) (w.heap.size + 1 + 1) s k1 a2 hs w1 HM1.out.var HM1.out.cur)
  obtain ⟨m0, m1, m2, g0, g1, g2⟩ := cells3m HM1.out.blk
  go_wp2_with fail
  refine HW1.out.mono ?_
  rintro e w2 ⟨rfl, ⟨k2, b1, b2, b3, hc2⟩, ho2⟩
  rw [A3.out] at b3 ⊢
  have HM2 := Lib.hid (HM1.out.only hc2 ho2)
  have B3 := Lib.hid b3
  clear HM1 HW1 hc2 ho2 b3 m0 m1 m2 g0 g1 g2
  obtain ⟨x1, hx1⟩ : ∃ x, (tokL (blankL s.data.toList)).isEmpty = x := ⟨_, rfl⟩
  rw [hx1]
  obtain ⟨t1, ht1⟩ : ∃ t, tokL (blankL s.data.toList) = t := ⟨_, rfl⟩
  rw [ht1]
  have HX1 := Lib.hid hx1
  have HT1 := Lib.hid ht1
  clear hx1 ht1
  obtain ⟨m0, m1, m2, g0, g1, g2⟩ := cells3m HM2.out.blk
  have HM2s := Lib.hid (HM2.out.store 0 (.string (S (lowerL t1))) (ta' := .string (S (lowerL t1))) (tb' := .string ⟨#[]⟩) (pv' := .slice none 0 0) rfl HM2.out.own)
  have v2 := HM2s.out.c2
  cases x1 with
  | true =>
    have HE := Lib.hid (show X = none from HX.out.symm.trans (mt_no1 HX1.out))
    have HW2 := Lib.hid (word_c (w.heap.size + 1) (w.heap.size + 1 + 1) s k2 b2 hs _ HM2s.out.var HM2s.out.cur)
    obtain ⟨n0, n1, n2, q0, q1, q2⟩ := cells3m HM2s.out.blk
    go_wp2_with fail
    refine HW2.out.mono ?_
    rintro e w4 ⟨rfl, ⟨k4, c1, c2, c3, hc4⟩, ho4⟩
    have HM4 := Lib.hid (HM2s.out.only hc4 ho4)
    have C3 := Lib.hid c3
    clear HW2 hc4 ho4 c3 n0 n1 n2 q0 q1 q2
    obtain ⟨m0, m1, m2, g0, g1, g2⟩ := cells3m HM4.out.blk
    obtain ⟨t2, ht2⟩ : ∃ t, tokL (s.data.toList.drop (k2)) = t := ⟨_, rfl⟩
    rw [ht2]
    have HT2 := Lib.hid ht2
    have HM4s := Lib.hid (HM4.out.store 1 (.string (S (lowerL t2))) (ta' := .string (S (lowerL t1))) (tb' := .string (S (lowerL t2))) (pv' := .slice none 0 0) rfl HM4.out.own)
    clear ht2
    go_wp2_with fail
    go_loopg [7] 5 (fun gf u7 wr => u7 = .bool false ∧ ∃ k ta tb, MS w wr s k ta tb (.slice none 0 0) [])
    case atStart => exact ⟨rfl, _, _, _, HM4s.out⟩
    case round =>
      clear HM4s HM4 C3 m0 m1 m2 g0 g1 g2
      obtain ⟨rfl, kk, ta, tb, hMS⟩ := hrel
      have HMS := Lib.hid hMS
      clear hMS
      obtain ⟨r0, r1, r2, y0, y1, y2⟩ := cells3m HMS.out.res
      go_wp2_with fail
      refine bodyPost_ret (v := .tuple #[.agg #[.string ⟨#[]⟩, .string ⟨#[]⟩, .slice none 0 0], .int .i64 200]) (by simp [results, Tryz.results8, go_sem, r0, r1, r2]) rfl ⟨mdr_err HE.out rfl, below3m HMS.out.bel _ _ _⟩
  | false =>
    go_wp2_with fail
    refine (cTake_c (w.heap.size + 1) s k2 b2 hs 47 (by omega) (by omega) _ HM2s.out.cur).mono ?_
    rintro e w3 ⟨tk, rfl, hT, hF, ho3⟩
    cases tk with
    | false =>
      obtain ⟨hn, hc3⟩ := hF rfl
      have HE := Lib.hid (show X = none from HX.out.symm.trans (mt_no2 B3.out hn))
      have HM3 := Lib.hid (HM2s.out.only hc3 ho3)
      clear hT hF hn hc3 ho3 m0 m1 m2 g0 g1 g2 v2
      have HW2 := Lib.hid (word_c (w.heap.size + 1) (w.heap.size + 1 + 1) s k2 b2 hs _ HM3.out.var HM3.out.cur)
      obtain ⟨n0, n1, n2, q0, q1, q2⟩ := cells3m HM3.out.blk
      go_wp2_with fail
      refine HW2.out.mono ?_
      rintro e w4 ⟨rfl, ⟨k4, c1, c2, c3, hc4⟩, ho4⟩
      have HM4 := Lib.hid (HM3.out.only hc4 ho4)
      have C3 := Lib.hid c3
      clear HW2 hc4 ho4 c3 n0 n1 n2 q0 q1 q2
      obtain ⟨m0, m1, m2, g0, g1, g2⟩ := cells3m HM4.out.blk
      obtain ⟨t2, ht2⟩ : ∃ t, tokL (s.data.toList.drop (k2)) = t := ⟨_, rfl⟩
      rw [ht2]
      have HT2 := Lib.hid ht2
      have HM4s := Lib.hid (HM4.out.store 1 (.string (S (lowerL t2))) (ta' := .string (S (lowerL t1))) (tb' := .string (S (lowerL t2))) (pv' := .slice none 0 0) rfl HM4.out.own)
      clear ht2
      go_wp2_with fail
      go_loopg [7] 5 (fun gf u7 wr => u7 = .bool false ∧ ∃ k ta tb, MS w wr s k ta tb (.slice none 0 0) [])
      case atStart => exact ⟨rfl, _, _, _, HM4s.out⟩
      case round =>
        clear HM4s HM4 C3 m0 m1 m2 g0 g1 g2
        obtain ⟨rfl, kk, ta, tb, hMS⟩ := hrel
        have HMS := Lib.hid hMS
        clear hMS
        obtain ⟨r0, r1, r2, y0, y1, y2⟩ := cells3m HMS.out.res
        go_wp2_with fail
        refine bodyPost_ret (v := .tuple #[.agg #[.string ⟨#[]⟩, .string ⟨#[]⟩, .slice none 0 0], .int .i64 200]) (by simp [results, Tryz.results8, go_sem, r0, r1, r2]) rfl ⟨mdr_err HE.out rfl, below3m HMS.out.bel _ _ _⟩
    | true =>
      obtain ⟨hlt, he, hc3⟩ := hT rfl
      have HY := Lib.hid (mt_yes HX1.out B3.out hlt he)
      have HM3 := Lib.hid (HM2s.out.only hc3 ho3)
      clear hT hF hc3 ho3 m0 m1 m2 g0 g1 g2 v2 he
      have HW2 := Lib.hid (word_c (w.heap.size + 1) (w.heap.size + 1 + 1) s (k2 + 1) (by omega) hs _ HM3.out.var HM3.out.cur)
      obtain ⟨n0, n1, n2, q0, q1, q2⟩ := cells3m HM3.out.blk
      go_wp2_with fail
      refine HW2.out.mono ?_
      rintro e w4 ⟨rfl, ⟨k4, c1, c2, c3, hc4⟩, ho4⟩
      have HM4 := Lib.hid (HM3.out.only hc4 ho4)
      have C3 := Lib.hid c3
      clear HW2 hc4 ho4 c3 n0 n1 n2 q0 q1 q2
      obtain ⟨m0, m1, m2, g0, g1, g2⟩ := cells3m HM4.out.blk
      obtain ⟨t2, ht2⟩ : ∃ t, tokL (s.data.toList.drop (k2 + 1)) = t := ⟨_, rfl⟩
      rw [ht2]
      have HT2 := Lib.hid ht2
      have HM4s := Lib.hid (HM4.out.store 1 (.string (S (lowerL t2))) (ta' := .string (S (lowerL t1))) (tb' := .string (S (lowerL t2))) (pv' := .slice none 0 0) rfl HM4.out.own)
      clear ht2
      go_wp2_with fail
      go_loopg [7] (s.size + 1) (fun gf u7 wr => MP w wr s gf X u7)
      case atStart =>
        refine ⟨!t2.isEmpty, k4, _, _, _, [], rfl, c2, by simp, (fun f hf => by cases hf), HM4s.out, ?_⟩
        have hy := HY.out
        rw [HX.out, HT2.out, HT1.out] at hy
        have hc3 := C3.out
        by_cases ht : t2.isEmpty = true
        · exact .inr ⟨by rw [ht]; rfl, by rw [hy, if_pos ht]⟩
        · refine .inl ⟨by simp at ht; simp [ht], by omega, by simp, lowerL t1, lowerL t2, s.data.toList.drop k4, s.data.toList.length + 1, mparsF (s.data.toList.length + 1) (s.data.toList.drop k4), rfl, rfl, ?_, rfl, preM_nil _, ?_⟩
          · rw [drop_len, size_toList]; omega
          · rw [hy, if_neg ht, hc3]
      case round =>
        clear HM4s HM4 C3 m0 m1 m2 g0 g1 g2 HY HT1 HT2 HX1 HM3 HM2 HM2s
        obtain ⟨ok, k, ta, tb, pv, acc, rfl, hk, hal, hav, hMS, hcase⟩ := hrel
        have HMS := Lib.hid hMS
        have HAV := Lib.hid hav
        clear hMS hav
        rcases hcase with ⟨rfl, hgf, hak, a, b, l, n, Y, rfl, rfl, hln, hl, hY, hXY⟩ | ⟨rfl, hE⟩
        · subst hl
          have HY := Lib.hid hY
          have HXY := Lib.hid hXY
          have HLN := Lib.hid hln
          have hn0 : 0 < n := by omega
          obtain ⟨uA, uc, rfl⟩ : ∃ A c, pv = .slice A acc.length c := own_sl HMS.out.own
          clear hY hXY hln
          have v0 := HMS.out.c2
          go_wp2_with fail
          refine (cBlank_c (w.heap.size + 1) s k hk hs _ HMS.out.cur).mono ?_
          rintro e w1 ⟨rfl, ⟨k1, a1, a2, a3, hc1⟩, ho1⟩
          have HM1 := Lib.hid (HMS.out.only hc1 ho1)
          have A3 := Lib.hid a3
          clear hc1 ho1 a3 v0 HMS
          have v1 := HM1.out.c2
          go_wp2_with fail
          refine (cDone_c (w.heap.size + 1) s k1 _ HM1.out.cur).mono ?_
          rintro e w2' ⟨rfl, m1', rfl⟩
          have HM2 := Lib.hid (HM1.out.drewN m1')
          have v2 := HM2.out.c2
          generalize w1.drewN m1' = w2 at *
          clear v1 HM1
          by_cases hd : s.size ≤ k1
          · have HE := Lib.hid (show X = some (a, b, acc) by rw [HXY.out, md_end hn0 A3.out (by omega) HY.out]; rfl)
            obtain ⟨m0, m1, m2, g0, g1, g2⟩ := cells3m HM2.out.blk
            obtain ⟨r0, r1, r2, y0, y1, y2⟩ := cells3m HM2.out.res
            have hsz := HM2.out.size
            go_wp2_with fail
            refine bodyPost_ret (v := .tuple #[.agg #[.string (S a), .string (S b), .slice uA acc.length uc], .int .i64 0]) (by simp [results, Tryz.results8, go_sem, r0, r1, r2]) rfl ⟨.inr ⟨a, b, acc, _, HE.out, rfl, ?_⟩, below3m HM2.out.bel _ _ _⟩
            exact ((HM2.out.own.off (row := some w.heap.size) (((Only.set (b := w.heap.size) _).trans (Only.set _)).trans (Only.set _)) (fun g hg => by cases hg; exact .inl (by omega))).base (by omega))
          · have hlt1 : k1 < s.size := by omega
            have hsz2 := HM2.out.size
            have HNO := Lib.hid (own_ne HM2.out.own (Nat.le_refl _))
            have HMa := Lib.hid (HM2.out.alloc (.cells #[.string ⟨#[]⟩, .string ⟨#[]⟩] 52))
            have hfa := heap_alloc_new w2 (.cells #[.string ⟨#[]⟩, .string ⟨#[]⟩] 52)
            have va := HMa.out.c2
            go_wp2_with fail
            generalize w2.alloc (.cells #[.string ⟨#[]⟩, .string ⟨#[]⟩] 52) = wa at *
            generalize hfBe : w2.heap.size = fB at *
            clear hfBe v2 HM2 va
            refine (cTake_c (w.heap.size + 1) s k1 a2 hs 59 (by omega) (by omega) _ HMa.out.cur).mono ?_
            rintro e w3 ⟨tk, rfl, hT, hF, ho3⟩
            have hf3 := (ho3.block _ (heap_lt hfa) (by simp; omega)).trans hfa
            clear hfa
            cases tk with
            | false =>
              obtain ⟨hnc, hc3⟩ := hF rfl
              have HE := Lib.hid (show X = none by rw [HXY.out, md_no hn0 A3.out hlt1 (by have := hnc hlt1; omega) HY.out]; rfl)
              have HM3 := Lib.hid (HMa.out.only hc3 ho3)
              clear hT hF hnc hc3 ho3 HMa
              have v3 := HM3.out.c2
              go_wp2_with fail
              refine (cBlank_c (w.heap.size + 1) s k1 (by omega) hs _ HM3.out.cur).mono ?_
              rintro e w4 ⟨rfl, ⟨k4, b1, b2, b3, hc4⟩, ho4⟩
              have HM4 := Lib.hid (HM3.out.only hc4 ho4)
              have hf4 := (ho4.block _ (heap_lt hf3) (by simp; omega)).trans hf3
              have B3 := Lib.hid b3
              clear hc4 ho4 b3 HM3 hf3 v3
              have HW4 := Lib.hid (word_c (w.heap.size + 1) (w.heap.size + 1 + 1) s k4 b2 hs w4 HM4.out.var HM4.out.cur)
              have v4 := HM4.out.c2
              obtain ⟨d0, d1, e0, e1⟩ := fcells hf4
              go_wp2_with fail
              refine HW4.out.mono ?_
              rintro e w5 ⟨rfl, ⟨k5, p1, p2, p3, hc5⟩, ho5⟩
              have hf5 := (ho5.block _ (heap_lt hf4) (by simp; omega)).trans hf4
              have HM5 := Lib.hid (HM4.out.only hc5 ho5)
              have htl := tok_len (s.data.toList.drop k4)
              rw [drop_len] at htl
              obtain ⟨x5, hx5⟩ : ∃ x, (tokL (s.data.toList.drop k4)).isEmpty = x := ⟨_, rfl⟩
              rw [hx5]
              obtain ⟨t5, ht5⟩ : ∃ t, tokL (s.data.toList.drop k4) = t := ⟨_, rfl⟩
              rw [ht5] at htl ⊢
              have HX5 := Lib.hid hx5
              have HT5 := Lib.hid ht5
              have P3 := Lib.hid p3
              clear hx5 ht5 hc5 ho5 p3 HW4 v4 d0 d1 e0 e1 hf4 HM4
              obtain ⟨d0, d1, e0, e1⟩ := fcells hf5
              have HM6 := Lib.hid (HM5.out.far (a := ⟨fB, 0, none⟩) (by simp; omega) HNO.out (.string (S (lowerL t5))))
              have hf6 := fset0 hf5 (.string (S (lowerL t5)))
              clear HM5 hf5
              have v6 := HM6.out.c2
              go_wp2_with fail
              generalize w5.setCell ⟨fB, 0, none⟩ (.string (S (lowerL t5))) = w6 at *
              have hf7 := hf6
              have HM7 := HM6
              clear hf6 HM6
              have v7 := v6
              clear v6
              refine (cValue_c (w.heap.size + 1) s k5 p2 hs _ HM7.out.cur).mono ?_
              rintro e w8 ⟨he8, ⟨k8, q1, q2, hc8, q3⟩, ho8⟩
              have hf8 := (ho8.block _ (heap_lt hf7) (by simp; omega)).trans hf7
              have HM8 := Lib.hid (HM7.out.only hc8 ho8)
              clear HM7 hf7 hc8 ho8 v7
              obtain ⟨d0, d1, e0, e1⟩ := fcells hf8
              have HM9 := fun u : Value => HM8.out.far (a := ⟨fB, 1, none⟩) (by simp; omega) HNO.out u
              have HF9 := fset1 hf8
              obtain ⟨t8, x8, ht8, he8'⟩ : ∃ (t8 : List UInt8) (x8 : Bool), t8.length ≤ s.size ∧ e = .returned (.tuple #[.string (S t8), .bool x8]) := by
                cases hv : valueL (s.data.toList.drop (k5)) with
                | none => rw [hv] at he8; exact ⟨[], false, by simp, he8⟩
                | some y => rw [hv] at he8; have := valueL_le (v := y.1) (r := y.2) hv; rw [drop_len] at this; exact ⟨y.1, true, by omega, he8⟩
              clear he8
              have he8 := he8'
              clear he8' q3
              subst he8
              have hM9 := HM9 (.string (S t8))
              have hf9 := HF9 (.string (S t8))
              have HM9 := Lib.hid hM9
              have HF9 := Lib.hid hf9
              clear hM9 hf9 HM8 hf8
              obtain ⟨m0, m1, m2, g0, g1, g2⟩ := cells3m HM9.out.blk
              obtain ⟨l0, l1, _, _⟩ := fcells HF9.out
              go_wp2_with (at_builtin; refine wpList_append_row infoF rfl (by decide) (by decide) rfl (.tmp 72) (.tmp 74) 23 rfl Tryz.underlying23 (w.heap.size + 1 + 1 + 1 + 1) _ acc.length (fldsV acc) rfl (HM9.out.own.alloc _) ⟨w8.heap.size, 0, none⟩ 1 [.string (S (lowerL t5)), .string (S t8)] rfl rfl ?c1 ?c2 ?c3 ?c4 ?_)
              case c1 =>
                have hsz8 : (w8.setCell ⟨fB, 1, none⟩ (.string (S t8))).heap.size = w8.heap.size := by simp
                rw [← hsz8]; exact news_of _ _ _ _ rfl
              case c2 => intro u hu; simp at hu; rcases hu with rfl | rfl <;> rfl
              case c3 => omega
              case c4 => have := HM9.out.size; simp at this ⊢; omega
              intro g cap wz hownz hgz
              obtain ⟨hMz, hbz⟩ := HM9.out.app hgz (pv' := .slice (some ⟨g, 0, none⟩) (acc.length + 1) cap) (acc' := acc ++ [(lowerL t5, t8)]) (by unfold Flds; rw [List.length_append, fldsV_snoc]; exact hownz)
              clear m0 m1 m2 g0 g1 g2 l0 l1 hownz hgz d0 d1 e0 e1
              obtain ⟨m0, m1, m2, g0, g1, g2⟩ := cells3m hbz
              have HMz := Lib.hid hMz
              clear hMz hbz
              go_wp2_with fail
              go_roundg (gk - 1)
              case measure => omega
              case rel =>
                have hav' : ∀ f ∈ acc ++ [(lowerL t5, t8)], f.1.length ≤ s.size ∧ f.2.length ≤ s.size := by
                  intro f hf
                  rcases List.mem_append.1 hf with h | h
                  · exact HAV.out f h
                  · simp at h; subst h; exact ⟨by rw [lowerL_len]; omega, by omega⟩
                exact ⟨false, k8, _, _, _, _, rfl, q2, by simp; omega, hav', HMz.out, .inr ⟨rfl, HE.out⟩⟩
            | true =>
              obtain ⟨_, he59, hc3⟩ := hT rfl
              have hc59 : s[k1].toNat = 59 := by omega
              have HM3 := Lib.hid (HMa.out.only hc3 ho3)
              clear hT hF hc3 ho3 HMa he59
              have v3 := HM3.out.c2
              go_wp2_with fail
              refine (cBlank_c (w.heap.size + 1) s (k1 + 1) (by omega) hs _ HM3.out.cur).mono ?_
              rintro e w4 ⟨rfl, ⟨k4, b1, b2, b3, hc4⟩, ho4⟩
              have HM4 := Lib.hid (HM3.out.only hc4 ho4)
              have hf4 := (ho4.block _ (heap_lt hf3) (by simp; omega)).trans hf3
              have B3 := Lib.hid b3
              clear hc4 ho4 b3 HM3 hf3 v3
              have HW4 := Lib.hid (word_c (w.heap.size + 1) (w.heap.size + 1 + 1) s k4 b2 hs w4 HM4.out.var HM4.out.cur)
              have v4 := HM4.out.c2
              obtain ⟨d0, d1, e0, e1⟩ := fcells hf4
              go_wp2_with fail
              refine HW4.out.mono ?_
              rintro e w5 ⟨rfl, ⟨k5, p1, p2, p3, hc5⟩, ho5⟩
              have hf5 := (ho5.block _ (heap_lt hf4) (by simp; omega)).trans hf4
              have HM5 := Lib.hid (HM4.out.only hc5 ho5)
              have htl := tok_len (s.data.toList.drop k4)
              rw [drop_len] at htl
              obtain ⟨x5, hx5⟩ : ∃ x, (tokL (s.data.toList.drop k4)).isEmpty = x := ⟨_, rfl⟩
              rw [hx5]
              obtain ⟨t5, ht5⟩ : ∃ t, tokL (s.data.toList.drop k4) = t := ⟨_, rfl⟩
              rw [ht5] at htl ⊢
              have HX5 := Lib.hid hx5
              have HT5 := Lib.hid ht5
              have P3 := Lib.hid p3
              clear hx5 ht5 hc5 ho5 p3 HW4 v4 d0 d1 e0 e1 hf4 HM4
              obtain ⟨d0, d1, e0, e1⟩ := fcells hf5
              have HM6 := Lib.hid (HM5.out.far (a := ⟨fB, 0, none⟩) (by simp; omega) HNO.out (.string (S (lowerL t5))))
              have hf6 := fset0 hf5 (.string (S (lowerL t5)))
              clear HM5 hf5
              have v6 := HM6.out.c2
              cases x5 with
              | true =>
                have HE := Lib.hid (show X = none by rw [HXY.out, md_bad hn0 A3.out hlt1 hc59 (mpar_no1 (by rw [← B3.out]; exact HX5.out)) HY.out]; rfl)
                go_wp2_with fail
                generalize w5.setCell ⟨fB, 0, none⟩ (.string (S (lowerL t5))) = w6 at *
                have hf7 := hf6
                have HM7 := HM6
                clear hf6 HM6
                have v7 := v6
                clear v6
                refine (cValue_c (w.heap.size + 1) s k5 p2 hs _ HM7.out.cur).mono ?_
                rintro e w8 ⟨he8, ⟨k8, q1, q2, hc8, q3⟩, ho8⟩
                have hf8 := (ho8.block _ (heap_lt hf7) (by simp; omega)).trans hf7
                have HM8 := Lib.hid (HM7.out.only hc8 ho8)
                clear HM7 hf7 hc8 ho8 v7
                obtain ⟨d0, d1, e0, e1⟩ := fcells hf8
                have HM9 := fun u : Value => HM8.out.far (a := ⟨fB, 1, none⟩) (by simp; omega) HNO.out u
                have HF9 := fset1 hf8
                obtain ⟨t8, x8, ht8, he8'⟩ : ∃ (t8 : List UInt8) (x8 : Bool), t8.length ≤ s.size ∧ e = .returned (.tuple #[.string (S t8), .bool x8]) := by
                  cases hv : valueL (s.data.toList.drop (k5)) with
                  | none => rw [hv] at he8; exact ⟨[], false, by simp, he8⟩
                  | some y => rw [hv] at he8; have := valueL_le (v := y.1) (r := y.2) hv; rw [drop_len] at this; exact ⟨y.1, true, by omega, he8⟩
                clear he8
                have he8 := he8'
                clear he8' q3
                subst he8
                have hM9 := HM9 (.string (S t8))
                have hf9 := HF9 (.string (S t8))
                have HM9 := Lib.hid hM9
                have HF9 := Lib.hid hf9
                clear hM9 hf9 HM8 hf8
                obtain ⟨m0, m1, m2, g0, g1, g2⟩ := cells3m HM9.out.blk
                obtain ⟨l0, l1, _, _⟩ := fcells HF9.out
                go_wp2_with (at_builtin; refine wpList_append_row infoF rfl (by decide) (by decide) rfl (.tmp 72) (.tmp 74) 23 rfl Tryz.underlying23 (w.heap.size + 1 + 1 + 1 + 1) _ acc.length (fldsV acc) rfl (HM9.out.own.alloc _) ⟨w8.heap.size, 0, none⟩ 1 [.string (S (lowerL t5)), .string (S t8)] rfl rfl ?c1 ?c2 ?c3 ?c4 ?_)
                case c1 =>
                  have hsz8 : (w8.setCell ⟨fB, 1, none⟩ (.string (S t8))).heap.size = w8.heap.size := by simp
                  rw [← hsz8]; exact news_of _ _ _ _ rfl
                case c2 => intro u hu; simp at hu; rcases hu with rfl | rfl <;> rfl
                case c3 => omega
                case c4 => have := HM9.out.size; simp at this ⊢; omega
                intro g cap wz hownz hgz
                obtain ⟨hMz, hbz⟩ := HM9.out.app hgz (pv' := .slice (some ⟨g, 0, none⟩) (acc.length + 1) cap) (acc' := acc ++ [(lowerL t5, t8)]) (by unfold Flds; rw [List.length_append, fldsV_snoc]; exact hownz)
                clear m0 m1 m2 g0 g1 g2 l0 l1 hownz hgz d0 d1 e0 e1
                obtain ⟨m0, m1, m2, g0, g1, g2⟩ := cells3m hbz
                have HMz := Lib.hid hMz
                clear hMz hbz
                go_wp2_with fail
                go_roundg (gk - 1)
                case measure => omega
                case rel =>
                  have hav' : ∀ f ∈ acc ++ [(lowerL t5, t8)], f.1.length ≤ s.size ∧ f.2.length ≤ s.size := by
                    intro f hf
                    rcases List.mem_append.1 hf with h | h
                    · exact HAV.out f h
                    · simp at h; subst h; exact ⟨by rw [lowerL_len]; omega, by omega⟩
                  exact ⟨false, k8, _, _, _, _, rfl, q2, by simp; omega, hav', HMz.out, .inr ⟨rfl, HE.out⟩⟩
              | false =>
                go_wp2_with fail
                generalize w5.setCell ⟨fB, 0, none⟩ (.string (S (lowerL t5))) = w6 at *
                refine (cTake_c (w.heap.size + 1) s k5 p2 hs 61 (by omega) (by omega) _ HM6.out.cur).mono ?_
                rintro e w7 ⟨tk, rfl, hT, hF, ho7⟩
                have hf7 := (ho7.block _ (heap_lt hf6) (by simp; omega)).trans hf6
                clear hf6
                cases tk with
                | false =>
                  obtain ⟨hnc, hc7⟩ := hF rfl
                  have HE := Lib.hid (show X = none by rw [HXY.out, md_bad hn0 A3.out hlt1 hc59 (mpar_no2 (by rw [P3.out, B3.out]) hnc) HY.out]; rfl)
                  have HM7 := Lib.hid (HM6.out.only hc7 ho7)
                  clear hT hF hnc hc7 ho7 HM6 v6
                  have v7 := HM7.out.c2
                  go_wp2_with fail
                  refine (cValue_c (w.heap.size + 1) s k5 p2 hs _ HM7.out.cur).mono ?_
                  rintro e w8 ⟨he8, ⟨k8, q1, q2, hc8, q3⟩, ho8⟩
                  have hf8 := (ho8.block _ (heap_lt hf7) (by simp; omega)).trans hf7
                  have HM8 := Lib.hid (HM7.out.only hc8 ho8)
                  clear HM7 hf7 hc8 ho8 v7
                  obtain ⟨d0, d1, e0, e1⟩ := fcells hf8
                  have HM9 := fun u : Value => HM8.out.far (a := ⟨fB, 1, none⟩) (by simp; omega) HNO.out u
                  have HF9 := fset1 hf8
                  obtain ⟨t8, x8, ht8, he8'⟩ : ∃ (t8 : List UInt8) (x8 : Bool), t8.length ≤ s.size ∧ e = .returned (.tuple #[.string (S t8), .bool x8]) := by
                    cases hv : valueL (s.data.toList.drop (k5)) with
                    | none => rw [hv] at he8; exact ⟨[], false, by simp, he8⟩
                    | some y => rw [hv] at he8; have := valueL_le (v := y.1) (r := y.2) hv; rw [drop_len] at this; exact ⟨y.1, true, by omega, he8⟩
                  clear he8
                  have he8 := he8'
                  clear he8' q3
                  subst he8
                  have hM9 := HM9 (.string (S t8))
                  have hf9 := HF9 (.string (S t8))
                  have HM9 := Lib.hid hM9
                  have HF9 := Lib.hid hf9
                  clear hM9 hf9 HM8 hf8
                  obtain ⟨m0, m1, m2, g0, g1, g2⟩ := cells3m HM9.out.blk
                  obtain ⟨l0, l1, _, _⟩ := fcells HF9.out
                  go_wp2_with (at_builtin; refine wpList_append_row infoF rfl (by decide) (by decide) rfl (.tmp 72) (.tmp 74) 23 rfl Tryz.underlying23 (w.heap.size + 1 + 1 + 1 + 1) _ acc.length (fldsV acc) rfl (HM9.out.own.alloc _) ⟨w8.heap.size, 0, none⟩ 1 [.string (S (lowerL t5)), .string (S t8)] rfl rfl ?c1 ?c2 ?c3 ?c4 ?_)
                  case c1 =>
                    have hsz8 : (w8.setCell ⟨fB, 1, none⟩ (.string (S t8))).heap.size = w8.heap.size := by simp
                    rw [← hsz8]; exact news_of _ _ _ _ rfl
                  case c2 => intro u hu; simp at hu; rcases hu with rfl | rfl <;> rfl
                  case c3 => omega
                  case c4 => have := HM9.out.size; simp at this ⊢; omega
                  intro g cap wz hownz hgz
                  obtain ⟨hMz, hbz⟩ := HM9.out.app hgz (pv' := .slice (some ⟨g, 0, none⟩) (acc.length + 1) cap) (acc' := acc ++ [(lowerL t5, t8)]) (by unfold Flds; rw [List.length_append, fldsV_snoc]; exact hownz)
                  clear m0 m1 m2 g0 g1 g2 l0 l1 hownz hgz d0 d1 e0 e1
                  obtain ⟨m0, m1, m2, g0, g1, g2⟩ := cells3m hbz
                  have HMz := Lib.hid hMz
                  clear hMz hbz
                  go_wp2_with fail
                  go_roundg (gk - 1)
                  case measure => omega
                  case rel =>
                    have hav' : ∀ f ∈ acc ++ [(lowerL t5, t8)], f.1.length ≤ s.size ∧ f.2.length ≤ s.size := by
                      intro f hf
                      rcases List.mem_append.1 hf with h | h
                      · exact HAV.out f h
                      · simp at h; subst h; exact ⟨by rw [lowerL_len]; omega, by omega⟩
                    exact ⟨false, k8, _, _, _, _, rfl, q2, by simp; omega, hav', HMz.out, .inr ⟨rfl, HE.out⟩⟩
                | true =>
                  obtain ⟨hlt5, he61, hc7⟩ := hT rfl
                  have MPY := Lib.hid (show mpar (s.data.toList.drop (k1 + 1)) = (valueL (s.data.toList.drop (k5 + 1))).map fun y => ((lowerL t5, y.1), y.2) by
                    have := mpar_yes (s := s) (l := s.data.toList.drop (k1 + 1)) (k := k5) (by rw [← B3.out]; exact HX5.out) (by rw [P3.out, B3.out]) hlt5 he61
                    rw [this, ← B3.out, HT5.out])
                  have HM7 := Lib.hid (HM6.out.only hc7 ho7)
                  clear hT hF hc7 ho7 HM6 v6 he61
                  have v7 := HM7.out.c2
                  go_wp2_with fail
                  refine (cValue_c (w.heap.size + 1) s (k5 + 1) (by omega) hs _ HM7.out.cur).mono ?_
                  rintro e w8 ⟨he8, ⟨k8, q1, q2, hc8, q3⟩, ho8⟩
                  have hf8 := (ho8.block _ (heap_lt hf7) (by simp; omega)).trans hf7
                  have HM8 := Lib.hid (HM7.out.only hc8 ho8)
                  clear HM7 hf7 hc8 ho8 v7
                  obtain ⟨d0, d1, e0, e1⟩ := fcells hf8
                  have HM9 := fun u : Value => HM8.out.far (a := ⟨fB, 1, none⟩) (by simp; omega) HNO.out u
                  have HF9 := fset1 hf8
                  cases hv : valueL (s.data.toList.drop ((k5 + 1))) with
                  | none =>
                    rw [hv] at he8
                    obtain ⟨t8, ht8, he8'⟩ : ∃ (t8 : List UInt8), t8.length ≤ s.size ∧ e = .returned (.tuple #[.string (S t8), .bool false]) := ⟨[], by simp, he8⟩
                    clear he8
                    have he8 := he8'
                    clear he8' q3
                    have HE := Lib.hid (show X = none by rw [HXY.out, md_bad hn0 A3.out hlt1 hc59 (by rw [MPY.out, hv]; rfl) HY.out]; rfl)
                    subst he8
                    have hM9 := HM9 (.string (S t8))
                    have hf9 := HF9 (.string (S t8))
                    have HM9 := Lib.hid hM9
                    have HF9 := Lib.hid hf9
                    clear hM9 hf9 HM8 hf8
                    obtain ⟨m0, m1, m2, g0, g1, g2⟩ := cells3m HM9.out.blk
                    obtain ⟨l0, l1, _, _⟩ := fcells HF9.out
                    go_wp2_with (at_builtin; refine wpList_append_row infoF rfl (by decide) (by decide) rfl (.tmp 72) (.tmp 74) 23 rfl Tryz.underlying23 (w.heap.size + 1 + 1 + 1 + 1) _ acc.length (fldsV acc) rfl (HM9.out.own.alloc _) ⟨w8.heap.size, 0, none⟩ 1 [.string (S (lowerL t5)), .string (S t8)] rfl rfl ?c1 ?c2 ?c3 ?c4 ?_)
                    case c1 =>
                      have hsz8 : (w8.setCell ⟨fB, 1, none⟩ (.string (S t8))).heap.size = w8.heap.size := by simp
                      rw [← hsz8]; exact news_of _ _ _ _ rfl
                    case c2 => intro u hu; simp at hu; rcases hu with rfl | rfl <;> rfl
                    case c3 => omega
                    case c4 => have := HM9.out.size; simp at this ⊢; omega
                    intro g cap wz hownz hgz
                    obtain ⟨hMz, hbz⟩ := HM9.out.app hgz (pv' := .slice (some ⟨g, 0, none⟩) (acc.length + 1) cap) (acc' := acc ++ [(lowerL t5, t8)]) (by unfold Flds; rw [List.length_append, fldsV_snoc]; exact hownz)
                    clear m0 m1 m2 g0 g1 g2 l0 l1 hownz hgz d0 d1 e0 e1
                    obtain ⟨m0, m1, m2, g0, g1, g2⟩ := cells3m hbz
                    have HMz := Lib.hid hMz
                    clear hMz hbz
                    go_wp2_with fail
                    go_roundg (gk - 1)
                    case measure => omega
                    case rel =>
                      have hav' : ∀ f ∈ acc ++ [(lowerL t5, t8)], f.1.length ≤ s.size ∧ f.2.length ≤ s.size := by
                        intro f hf
                        rcases List.mem_append.1 hf with h | h
                        · exact HAV.out f h
                        · simp at h; subst h; exact ⟨by rw [lowerL_len]; omega, by omega⟩
                      exact ⟨false, k8, _, _, _, _, rfl, q2, by simp; omega, hav', HMz.out, .inr ⟨rfl, HE.out⟩⟩
                  | some y =>
                    obtain ⟨t8, r8⟩ := y
                    have HQ3 := Lib.hid (q3 _ _ hv)
                    have hvl := valueL_le hv
                    rw [drop_len] at hvl
                    have ht8 : t8.length ≤ s.size := by omega
                    rw [hv] at he8
                    have he8' : e = .returned (.tuple #[.string (S t8), .bool true]) := he8
                    clear he8
                    have he8 := he8'
                    clear he8'
                    have HV8 := Lib.hid hv
                    clear q3 hv
                    subst he8
                    have hM9 := HM9 (.string (S t8))
                    have hf9 := HF9 (.string (S t8))
                    have HM9 := Lib.hid hM9
                    have HF9 := Lib.hid hf9
                    clear hM9 hf9 HM8 hf8
                    obtain ⟨m0, m1, m2, g0, g1, g2⟩ := cells3m HM9.out.blk
                    obtain ⟨l0, l1, _, _⟩ := fcells HF9.out
                    go_wp2_with (at_builtin; refine wpList_append_row infoF rfl (by decide) (by decide) rfl (.tmp 72) (.tmp 74) 23 rfl Tryz.underlying23 (w.heap.size + 1 + 1 + 1 + 1) _ acc.length (fldsV acc) rfl (HM9.out.own.alloc _) ⟨w8.heap.size, 0, none⟩ 1 [.string (S (lowerL t5)), .string (S t8)] rfl rfl ?c1 ?c2 ?c3 ?c4 ?_)
                    case c1 =>
                      have hsz8 : (w8.setCell ⟨fB, 1, none⟩ (.string (S t8))).heap.size = w8.heap.size := by simp
                      rw [← hsz8]; exact news_of _ _ _ _ rfl
                    case c2 => intro u hu; simp at hu; rcases hu with rfl | rfl <;> rfl
                    case c3 => omega
                    case c4 => have := HM9.out.size; simp at this ⊢; omega
                    intro g cap wz hownz hgz
                    obtain ⟨hMz, hbz⟩ := HM9.out.app hgz (pv' := .slice (some ⟨g, 0, none⟩) (acc.length + 1) cap) (acc' := acc ++ [(lowerL t5, t8)]) (by unfold Flds; rw [List.length_append, fldsV_snoc]; exact hownz)
                    clear m0 m1 m2 g0 g1 g2 l0 l1 hownz hgz d0 d1 e0 e1
                    obtain ⟨m0, m1, m2, g0, g1, g2⟩ := cells3m hbz
                    have HMz := Lib.hid hMz
                    clear hMz hbz
                    go_wp2_with fail
                    go_roundg (gk - 1)
                    case measure => omega
                    case rel =>
                      have hav' : ∀ f ∈ acc ++ [(lowerL t5, t8)], f.1.length ≤ s.size ∧ f.2.length ≤ s.size := by
                        intro f hf
                        rcases List.mem_append.1 hf with h | h
                        · exact HAV.out f h
                        · simp at h; subst h; exact ⟨by rw [lowerL_len]; omega, by omega⟩
                      refine ⟨true, k8, _, _, _, _, rfl, q2, by simp; omega, hav', HMz.out, .inl ⟨rfl, by omega, by simp; omega, a, b, s.data.toList.drop k8, n - 1, Y, rfl, rfl, ?_, rfl, ?_, HXY.out⟩⟩
                      · rw [drop_len]; have := HLN.out; rw [drop_len] at this; omega
                      · rw [HQ3.out]; exact md_step hn0 A3.out hlt1 hc59 (by rw [MPY.out, HV8.out]; rfl) HY.out
        · have HE := Lib.hid hE
          clear hE
          obtain ⟨r0, r1, r2, y0, y1, y2⟩ := cells3m HMS.out.res
          go_wp2_with fail
          refine bodyPost_ret (v := .tuple #[.agg #[.string ⟨#[]⟩, .string ⟨#[]⟩, .slice none 0 0], .int .i64 200]) (by simp [results, Tryz.results8, go_sem, r0, r1, r2]) rfl ⟨mdr_err HE.out rfl, below3m HMS.out.bel _ _ _⟩
end Go.Proofs.YtaopehogpdgkgaaGreat
