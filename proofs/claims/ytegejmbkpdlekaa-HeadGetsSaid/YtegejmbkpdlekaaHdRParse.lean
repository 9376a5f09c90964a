/- The walk of the reference's Parse (chapter 18). -/
import Derived.Test.YtegejmbkpdlekaaHdParse
import Derived.Test.YtegejmbkpdlekaaHdRPlain
import Derived.IntWalk
namespace Go.Proofs.Ytegejmbkpdlekaa
open Go.RowKit
/-- the loop's relation -/
def RHP (w wr : World) (hb : Nat) (M mi st : Int) (gf : Nat) (X : Except Nat (List Fld)) (u7 : Value) : Prop :=
  ∃ (acc : List Fld) (r : List UInt8) (m : Bool) (fv : Value), 0 < gf ∧ (m = true → r.length + 2 ≤ gf) ∧ r.length ≤ 20000 ∧ acc.length ≤ 64 ∧ preH acc (hdrF gf acc.length r m) = X ∧ u7 = .string (S (rrest r m)) ∧ HH w wr hb M mi st fv acc
theorem take_end {s : List UInt8} {n : Nat} (h : Lib.index s endL = (n : Int)) : s.take (n + 2) = s.take n ++ crlfL := by
  have hr := Lib.index_room s endL (by omega)
  rcases Lib.index_spec s endL with ⟨h1, _⟩ | ⟨i, h1, _, h3, _⟩
  · omega
  · have e : i = n := by omega
    subst e
    rw [Lib.occAt_iff_take _ _ _ (by have : endL.length = 4 := rfl; omega)] at h3
    have h4 : (s.drop i).take 4 = endL := beq_iff_eq.1 h3
    have h5 : (s.drop i).take 2 = crlfL := by
      have : ((s.drop i).take 4).take 2 = endL.take 2 := by rw [h4]
      rw [List.take_take] at this
      simpa [endL, crlfL] using this
    rw [List.take_add, h5]

theorem S_ext0 (l : List UInt8) (k : Nat) : (S l).extract 0 k = S (l.take k) := by
  apply ByteArray.ext; apply Array.toList_inj.1
  rw [ext_take]; rfl
theorem S_extd (l : List UInt8) (k n : Nat) (h : n = l.length) : (S l).extract k n = S (l.drop k) := by
  apply ByteArray.ext; apply Array.toList_inj.1
  rw [ext_tk]; subst h
  show _ = l.drop k
  rw [S_list, List.take_of_length_le (by rw [List.length_drop]; omega)]
theorem line_lenR (r : List UInt8) : (lineL r).length + (restL r).length + (if moreL r = true then 2 else 0) ≤ r.length := by
  unfold lineL restL moreL Lib.cut
  split
  · rename_i hi
    have hr := Lib.index_room r crlfL hi
    have : crlfL.length = 2 := rfl
    simp only [List.length_take, List.length_drop, if_true]
    omega
  · simp
set_option maxRecDepth 100000 in
set_option maxHeartbeats 4000000 in
theorem rHParse_c (s : ByteArray) (hs : s.size ≤ 9223372036854775807) (M : Int) (w : World) (hm : MaxAt M w) :
    Calls Try.prog 24 #[.string s] w fun e w' => HR w w' (headL s.data.toList) e ∧ Below w.heap.size w w' := by
  generalize hX : headL s.data.toList = X
  have hB0 : Below w.heap.size w (w.alloc (.cells #[.int .i64 0, .int .i64 0, .slice none 0 0] 29)) := (Below.refl _ w).alloc (Nat.le_refl _) _
  have hg0 := heap_alloc_new w (.cells #[.int .i64 0, .int .i64 0, .slice none 0 0] 29)
  have hm0 : MaxAt M (w.alloc (.cells #[.int .i64 0, .int .i64 0, .slice none 0 0] 29)) := hm.below hm.lt hB0
  have hglt := hm.lt
  obtain ⟨a0, a1, a2, q0, q1, q2⟩ := cells3f hg0
  obtain ⟨t, ht⟩ : ∃ t : ByteArray, t = s.extract 0 (min s.size 16384) := ⟨_, rfl⟩
  have htl : t.data.toList = s.data.toList.take 16384 := by
    rw [ht, ext_take]
    by_cases h : s.size ≤ 16384
    · rw [Nat.min_eq_left h, List.take_of_length_le (by rw [size_toList]; omega), List.take_of_length_le (by rw [size_toList]; omega)]
    · rw [Nat.min_eq_right (by omega)]
  have hts : t.size ≤ 16384 ∧ t.size ≤ s.size := by
    rw [← size_toList, htl, List.length_take, size_toList]; omega
  obtain ⟨N, hN⟩ : ∃ N, Lib.index (s.data.toList.take 16384) endL = N := ⟨_, rfl⟩
  have hI := fun W => rFind_c t ⟨#[13, 10, 13, 10]⟩ (by omega) (by decide) (by decide) W
  rw [htl, show (⟨#[13, 10, 13, 10]⟩ : ByteArray).data.toList = endL from rfl, hN] at hI
  have hroom : 0 ≤ N → N + 4 ≤ t.size := by
    intro h
    rw [← hN] at h ⊢
    have := Lib.index_room _ _ h
    rw [← htl, size_toList, htl] at this
    exact this
  have hge : -1 ≤ N := by rw [← hN]; exact Lib.index_ge _ _
  have HI := Lib.hid hI
  have HN := Lib.hid hN
  have HX := Lib.hid hX
  have HM := Lib.hid hm0
  have HTL := Lib.hid htl
  clear hI hN hX hm0 hm htl
  have hmin : min (s.size : Int) 16384 = ((min s.size 16384 : Nat) : Int) := by omega
  go_enter Try.func24, Try.ntmps24
  go_wp2_with fail
  generalize w.alloc (.cells #[.int .i64 0, .int .i64 0, .slice none 0 0] 29) = W at *
  rw [← ht]
  refine (HI.out _).mono ?_
  rintro e w' ⟨rfl, rfl⟩
  by_cases hn : N < 0
  · by_cases hbig : 16384 < s.size
    · have HE := Lib.hid (show X = .error 142 by rw [hl_none HN.out hn HX.out, if_pos hbig])
      have hbi : 16384 < (s.size : Int) := by omega
      go_wp2_with fail
      refine bodyPost_ret (v := .tuple #[.agg #[.int .i64 0, .int .i64 0, .slice none 0 0], .int .i64 0, .int .i64 142]) (by simp [results, Try.results24, go_sem, a0, a1, a2]) rfl ⟨hr_err (c := 142) HE.out rfl, below3 hB0 _ _ _⟩
    · have HE := Lib.hid (show X = .error 191 by rw [hl_none HN.out hn HX.out, if_neg hbig])
      have hbi : ¬ 16384 < (s.size : Int) := by omega
      go_wp2_with fail
      refine bodyPost_ret (v := .tuple #[.agg #[.int .i64 0, .int .i64 0, .slice none 0 0], .int .i64 0, .int .i64 191]) (by simp [results, Try.results24, go_sem, a0, a1, a2]) rfl ⟨hr_err (c := 191) HE.out rfl, below3 hB0 _ _ _⟩
  · obtain ⟨n, rfl⟩ : ∃ n : Nat, N = n := ⟨N.toNat, by omega⟩
    have hr4 := hroom (by omega)
    clear hroom hge HI hmin
    have hrs : t.extract 0 (n + 2) = S (s.data.toList.take n ++ crlfL) := by
      apply ByteArray.ext; apply Array.toList_inj.1
      rw [ext_take, HTL.out, take_end HN.out, List.take_take, Nat.min_eq_left (by omega)]; rfl
    rw [ht] at hrs
    obtain ⟨k, hk, hkl, hkt, hkd⟩ := rr_index (r := s.data.toList.take n)
    have hrl : (s.data.toList.take n).length ≤ 16384 := by rw [List.length_take, size_toList]; omega
    obtain ⟨R, hR⟩ : ∃ R, S (s.data.toList.take n ++ crlfL) = R := ⟨_, rfl⟩
    have hc2 : R.size = (s.data.toList.take n).length + 2 := by rw [← hR, S_size, List.length_append]; rfl
    have hF := fun W => rFind_c R ⟨#[13, 10]⟩ (by omega) (by decide) (by decide) W
    rw [← hR, S_list, show (⟨#[13, 10]⟩ : ByteArray).data.toList = crlfL from rfl, hk, hR] at hF
    have e1 : R.extract 0 k = S (lineL (s.data.toList.take n)) := by rw [← hR, S_ext0, hkt]
    have e2 : R.extract (k + 2) R.size = S (rrest (restL (s.data.toList.take n)) (moreL (s.data.toList.take n))) := by
      rw [← hR, S_extd _ _ _ (by rw [S_size]), hkd]
    have hkR : k + 2 ≤ R.size := by omega
    rw [hR] at hrs
    have HF := Lib.hid hF
    clear hF hk hkt hkd hc2 hR
    have hll := (cut_len (s.data.toList.take n) crlfL).1
    have hlr := (cut_len (s.data.toList.take n) crlfL).2
    have hSTc := rStatus_c (S (lineL (s.data.toList.take n))) (by rw [S_size]; unfold lineL; omega)
    rw [S_list] at hSTc
    obtain ⟨Y, hY⟩ : ∃ Y, statusL (lineL (s.data.toList.take n)) = Y := ⟨_, rfl⟩
    rw [hY] at hSTc
    have HSTc := Lib.hid hSTc
    have HY := Lib.hid hY
    have E1 := Lib.hid e1
    have E2 := Lib.hid e2
    have HRS := Lib.hid hrs
    clear hSTc hY hll e1 e2 hrs
    go_wp2_with fail
    rw [HRS.out]
    refine (HF.out _).mono ?_
    rintro e w1 ⟨rfl, rfl⟩
    go_wp2_with fail
    rw [E1.out]
    refine (HSTc.out _).mono ?_
    rintro e w3 ⟨hrs', hb3⟩
    have hB3 : Below w.heap.size w w3 := hB0.trans (hb3.mono hB0.size)
    have hg3 := (hb3.block _ (heap_lt hg0)).trans hg0
    have hm3 := HM.out.below HM.out.lt hb3
    have hsz3 := hb3.size
    have hlt0 := heap_lt hg0
    have HM3 := Lib.hid hm3
    clear hm3 HM hB0 hg0 hb3 HSTc HF E1 a0 a1 a2 q0 q1 q2
    cases Y with
    | none =>
      obtain ⟨xa, xb, rfl⟩ := hrs'
      have HE := Lib.hid (hl_stat HN.out HY.out HX.out)
      have hg4 : (w3.alloc (.cells #[.int .i64 xa, .int .i64 xb, .slice none 0 0] 29)).heap[w.heap.size]? = some (.cells #[.int .i64 0, .int .i64 0, .slice none 0 0] 29 (0, 0)) := (Below.heap_alloc _ _ _ (heap_lt hg3)).trans hg3
      have hB4 : Below w.heap.size w (w3.alloc (.cells #[.int .i64 xa, .int .i64 xb, .slice none 0 0] 29)) := hB3.alloc hB3.size _
      obtain ⟨a0, a1, a2, q0, q1, q2⟩ := cells3f hg4
      go_wp2_with fail
      refine bodyPost_ret (v := .tuple #[.agg #[.int .i64 0, .int .i64 0, .slice none 0 0], .int .i64 0, .int .i64 180]) (by simp [results, Try.results24, go_sem, a0, a1, a2]) rfl ⟨hr_err (c := 180) HE.out rfl, below3 hB4 _ _ _⟩
    | some y =>
      obtain ⟨mi, st⟩ := y
      obtain rfl := hrs'
      have HG := Lib.hid (hl_go HN.out HY.out HX.out)
      obtain ⟨Z, hZ⟩ : ∃ Z, hdrF (s.size + 3) 0 (restL (s.data.toList.take n)) (moreL (s.data.toList.take n)) = Z := ⟨_, rfl⟩
      rw [hZ] at HG
      have HZ := Lib.hid hZ
      have HS1 := Lib.hid (show (restL (s.data.toList.take n)).length + 2 ≤ s.size + 3 by unfold restL; rw [List.length_take, size_toList] at hlr; omega)
      have HS2 := Lib.hid (show (restL (s.data.toList.take n)).length ≤ 20000 by unfold restL; omega)
      clear hZ HX HY HN hlr
      have hm4 := HM3.out.below HM3.out.lt ((Below.refl _ w3).alloc (Nat.le_refl _) (.cells #[.int .i64 (mi : Int), .int .i64 (st : Int), .slice none 0 0] 29))
      have hg4 : (w3.alloc (.cells #[.int .i64 (mi : Int), .int .i64 (st : Int), .slice none 0 0] 29)).heap[w.heap.size]? = some (.cells #[.int .i64 0, .int .i64 0, .slice none 0 0] 29 (0, 0)) := (Below.heap_alloc _ _ _ (heap_lt hg3)).trans hg3
      have hh4 := heap_alloc_new w3 (.cells #[.int .i64 (mi : Int), .int .i64 (st : Int), .slice none 0 0] 29)
      have hB4 : Below w.heap.size w (w3.alloc (.cells #[.int .i64 (mi : Int), .int .i64 (st : Int), .slice none 0 0] 29)) := hB3.alloc hB3.size _
      have hbs : w.heap.size < w3.heap.size := heap_lt hg3
      clear HM3 hg3 hB3
      go_wp2_with fail
      rw [E2.out]
      generalize w3.alloc (.cells #[.int .i64 (mi : Int), .int .i64 (st : Int), .slice none 0 0] 29) = w4 at *
      generalize hhb : w3.heap.size = hb at *
      clear hhb
      go_loopg [7] (s.size + 3) (fun gf u7 wr => RHP w wr hb M mi st gf Z u7)
      case atStart => exact ⟨[], _, _, _, by omega, fun _ => HS1.out, HS2.out, by simp, by rw [preH_nil]; exact HZ.out, rfl, hh4, Flds.nil, hm4, hB4, hg4⟩
      case round =>
        clear HS1 HS2 HZ hm4 hg4 hh4 hB4 E2 HRS hkl hrl hkR hn
        obtain ⟨acc, r, m, fv, hgf, hrg, hr6, hal, hX, rfl, hhh, hfl, hmx, hB, hg⟩ := hrel
        obtain ⟨uA, uc, rfl⟩ : ∃ A c, fv = .slice A acc.length c := own_slice_n hfl
        have HX := Lib.hid hX
        obtain ⟨h0, h1, h2, f0, f1, f2⟩ := cells3f hhh
        have HFL := Lib.hid hfl
        have HMX := Lib.hid hmx
        clear hX hfl hmx
        cases m with
        | false =>
          have HE := Lib.hid (hl_ok (hd_end hgf rfl HX.out) HG.out)
          obtain ⟨a0, a1, a2, q0, q1, q2⟩ := cells3f hg
          have hlt := heap_lt hg
          rw [show S (rrest r false) = ⟨#[]⟩ from rfl]
          go_wp2_with fail
          refine bodyPost_ret (v := .tuple #[.agg #[.int .i64 (mi : Int), .int .i64 (st : Int), .slice uA acc.length uc], .int .i64 ((n : Int) + 4), .int .i64 0]) (by simp [results, Try.results24, go_sem, a0, a1, a2]) rfl ⟨.inr ⟨mi, st, acc, n + 4, _, HE.out, rfl, ?_⟩, below3 hB _ _ _⟩
          exact ((HFL.out.off (row := some w.heap.size) (((Only.set (b := w.heap.size) _).trans (Only.set _)).trans (Only.set _)) (fun g hg => by cases hg; exact .inl (by omega))).base (by omega))
        | true =>
          have hrg := hrg rfl
          obtain ⟨k, hk, hkl, hkt, hkd⟩ := rr_index (r := r)
          obtain ⟨R, hR⟩ : ∃ R, S (rrest r true) = R := ⟨_, rfl⟩
          have hRe : S (r ++ crlfL) = R := hR
          have hc2 : R.size = r.length + 2 := by rw [← hRe, S_size, List.length_append]; rfl
          have hF := fun W => rFind_c R ⟨#[13, 10]⟩ (by omega) (by decide) (by decide) W
          rw [← hRe, S_list, show (⟨#[13, 10]⟩ : ByteArray).data.toList = crlfL from rfl, hk, hRe] at hF
          have e1 : R.extract 0 k = S (lineL r) := by rw [← hRe, S_ext0, hkt]
          have e2 : R.extract (k + 2) R.size = S (rrest (restL r) (moreL r)) := by
            rw [← hRe, S_extd _ _ _ (by rw [S_size]), hkd]
          have hne : R.toList.isEmpty = false := by
            rw [ByteArray.toList_eq, List.isEmpty_eq_false_iff]
            intro e
            have := size_toList R
            rw [e] at this; simp at this; omega
          have hne2 : R.toList ≠ [] := by intro e; rw [e] at hne; simp at hne
          have hkR : k + 2 ≤ R.size := by omega
          have hRs : R.size ≤ 1000000 := by omega
          have HF := Lib.hid hF
          have E1 := Lib.hid e1
          have E2 := Lib.hid e2
          have HC2 := Lib.hid hc2
          clear hF hk hkt hkd hc2 hRe e1 e2
          rw [hR]
          clear hR
          by_cases h64 : 64 ≤ acc.length
          · have HE := Lib.hid (hd_many hgf rfl h64 HX.out)
            obtain ⟨a0, a1, a2, q0, q1, q2⟩ := cells3f hg
            have h64' : 64 ≤ (acc.length : Int) := by omega
            go_wp2_with fail
            refine bodyPost_ret (v := .tuple #[.agg #[.int .i64 0, .int .i64 0, .slice none 0 0], .int .i64 0, .int .i64 161]) (by simp [results, Try.results24, go_sem, a0, a1, a2]) rfl ⟨hr_err (c := 161) (hl_err HE.out HG.out) rfl, below3 hB _ _ _⟩
          · have h64' : ¬ 64 ≤ (acc.length : Int) := by omega
            go_wp2_with fail
            refine (HF.out _).mono ?_
            rintro e w5 ⟨rfl, rfl⟩
            have hkk : (lineL r).length ≤ 20000 := by have := (cut_len r crlfL).1; unfold lineL; omega
            have hIx := rIndex_c (S (lineL r)) (by rw [S_size]; omega)
            obtain ⟨c, hc⟩ : ∃ c, twN notColon (lineL r) = c := ⟨_, rfl⟩
            obtain ⟨cc1, cc2⟩ := col_cut (lineL r)
            have hcl := tw_len (lineL r)
            rw [S_list, hc] at hIx
            rw [hc] at cc1 cc2 hcl
            have hl1 := line_no (l := lineL r)
            have hl2 := line_name (l := lineL r)
            have hl3 := line_value (l := lineL r)
            have hl4 := line_ok (l := lineL r)
            have hb1 : (Lib.cut (lineL r) [58]).2.2 = decide (c ≠ (lineL r).length) := by rw [Bool.eq_iff_iff, decide_eq_true_eq]; exact cc1
            rw [hb1] at hl1 hl4
            obtain ⟨L, hL⟩ : ∃ L, S (lineL r) = L := ⟨_, rfl⟩
            have hLs : L.size = (lineL r).length := by rw [← hL, S_size]
            have hcs : c ≤ L.size := by omega
            have hLb : L.size ≤ 20000 := by omega
            rw [hL] at hIx
            have HIx := Lib.hid hIx
            have HL1 := Lib.hid hl1
            have HL2 := Lib.hid hl2
            have HL3 := Lib.hid hl3
            have HL4 := Lib.hid hl4
            have HLs := Lib.hid hLs
            have HC2' := Lib.hid cc2
            clear hIx hl1 hl2 hl3 hl4 hLs cc1 cc2 hc hb1
            go_wp2_with fail
            rw [E1.out, hL]
            have HLL := Lib.hid hL
            clear hL E1
            refine (HIx.out _).mono ?_
            rintro e w5 ⟨rfl, rfl⟩
            by_cases hce : c = L.size
            · have HE := Lib.hid (hd_bad hgf rfl h64 (HL1.out (by rw [← HLs.out]; simpa using hce)) HX.out)
              subst hce
              obtain ⟨a0, a1, a2, q0, q1, q2⟩ := cells3f hg
              go_wp2_with fail
              refine bodyPost_ret (v := .tuple #[.agg #[.int .i64 0, .int .i64 0, .slice none 0 0], .int .i64 0, .int .i64 180]) (by simp [results, Try.results24, go_sem, a0, a1, a2]) rfl ⟨hr_err (c := 180) (hl_err HE.out HG.out) rfl, below3 hB _ _ _⟩
            · have hcl2 : c < L.size := by omega
              obtain ⟨ck1, cv1⟩ := HC2'.out (by rw [← HLs.out]; exact hce)
              obtain ⟨ck, hck⟩ : ∃ ck, (Lib.cut (lineL r) [58]).1 = ck := ⟨_, rfl⟩
              obtain ⟨cv, hcv⟩ : ∃ cv, (Lib.cut (lineL r) [58]).2.1 = cv := ⟨_, rfl⟩
              have hl2 := HL2.out
              have hl3 := HL3.out
              have hl4 := HL4.out (by rw [← HLs.out]; simpa using hce)
              rw [hck] at ck1 hl2 hl4
              rw [hcv] at cv1 hl3 hl4
              have hke : L.extract 0 c = S ck := by rw [← HLL.out, S_ext0, ← ck1]
              have hve : L.extract (c + 1) L.size = S cv := by rw [← HLL.out, S_extd _ _ _ (by rw [S_size]), ← cv1]
              have hkS : ck.length ≤ 1000000 := by rw [ck1, List.length_take]; omega
              have hvS : cv.length ≤ 1000000 := by rw [cv1, List.length_drop, ← HLs.out]; omega
              have hK1 := rTokens_c (S ck) (by rw [S_size]; omega)
              have hK2 := rPrintables_c (S cv) (by rw [S_size]; omega)
              have hLo := rLower_c (S ck) (by rw [S_size]; omega)
              have hTr := rTrim_c (S cv) (by rw [S_size]; omega)
              rw [S_list] at hK1 hK2 hLo hTr
              rw [← hke] at hK1 hLo
              rw [← hve] at hK2 hTr
              obtain ⟨nb, hnb⟩ : ∃ nb, nameB ck = nb := ⟨_, rfl⟩
              obtain ⟨vb, hvb⟩ : ∃ vb, valueB cv = vb := ⟨_, rfl⟩
              rw [hnb] at hK1 hl2 hl4
              rw [hvb] at hK2 hl3 hl4
              have HK1 := Lib.hid hK1
              have HK2 := Lib.hid hK2
              have HM2 := Lib.hid hl2
              have HM3 := Lib.hid hl3
              have HM4 := Lib.hid hl4
              have HLo := Lib.hid hLo
              have HTr := Lib.hid hTr
              have hcI : (c : Int) < (L.size : Int) := by omega
              have hcJ : (c : Int) + 1 ≤ (L.size : Int) := by omega
              have hc1 : c + 1 ≤ L.size := by omega
              clear hK1 hK2 hl2 hl3 hl4 hLo hTr hnb hvb hck hcv ck1 cv1 hke hve hkS hvS HL1 HL2 HL3 HL4 HIx HC2' HLL HLs
              cases nb with
              | false =>
                have HE := Lib.hid (hd_bad hgf rfl h64 (HM2.out rfl) HX.out)
                obtain ⟨a0, a1, a2, q0, q1, q2⟩ := cells3f hg
                go_wp2_with (first | (go_at_call 58; refine (HK1.out _).mono ?_; rintro e w' ⟨rfl, rfl⟩) | (go_at_call 59; refine (HK2.out _).mono ?_; rintro e w' ⟨rfl, rfl⟩))
                refine bodyPost_ret (v := .tuple #[.agg #[.int .i64 0, .int .i64 0, .slice none 0 0], .int .i64 0, .int .i64 180]) (by simp [results, Try.results24, go_sem, a0, a1, a2]) rfl ⟨hr_err (c := 180) (hl_err HE.out HG.out) rfl, below3 hB _ _ _⟩
              | true =>
                cases vb with
                | false =>
                  have HE := Lib.hid (hd_bad hgf rfl h64 (HM3.out rfl) HX.out)
                  obtain ⟨a0, a1, a2, q0, q1, q2⟩ := cells3f hg
                  go_wp2_with (first | (go_at_call 58; refine (HK1.out _).mono ?_; rintro e w' ⟨rfl, rfl⟩) | (go_at_call 59; refine (HK2.out _).mono ?_; rintro e w' ⟨rfl, rfl⟩))
                  refine bodyPost_ret (v := .tuple #[.agg #[.int .i64 0, .int .i64 0, .slice none 0 0], .int .i64 0, .int .i64 180]) (by simp [results, Try.results24, go_sem, a0, a1, a2]) rfl ⟨hr_err (c := 180) (hl_err HE.out HG.out) rfl, below3 hB _ _ _⟩
                | true =>
                  have HY := Lib.hid (hd_next hgf rfl h64 (HM4.out rfl rfl) HX.out)
                  go_wp2_with (first | (go_at_call 58; refine (HK1.out _).mono ?_; rintro e w' ⟨rfl, rfl⟩) | (go_at_call 59; refine (HK2.out _).mono ?_; rintro e w' ⟨rfl, rfl⟩))
                  have hhs := heap_lt hhh
                  have HH6 := Lib.hid (show HH w wr hb M mi st (.slice uA acc.length uc) acc from ⟨hhh, HFL.out, HMX.out, hB, hg⟩)
                  have hh6' := Lib.hid hhh
                  have hB6' := Lib.hid hB
                  have hone : ∀ u ∈ ([.string (S (lowerL ck)), .string (S (trimL cv))] : List Value), u.oneCell' = true := by intro u hu; simp at hu; rcases hu with rfl | rfl <;> rfl
                  have hq1 : acc.length + 1 ≤ maxLen := by unfold maxLen; omega
                  have hq2 : (acc.length + 1) * 32 ≤ 140737488355328 := by omega
                  obtain ⟨i0, hi, hz0, hz1, hz2⟩ := info_parts infoF
                  clear hhh hB hg HK1 HK2 HM2 HM3 HM4
                  have r2 : 0 ≤ (c : Int) + 1 := by omega
                  have r3 : ((c : Int) + 1).toNat = c + 1 := by omega
                  have r1 : IntKind.i64.wrap ((c : Int) + 1) = (c : Int) + 1 := IntWalk.i64_in _ (by omega)
                  go_region_law (first | (refine step_append_lies _ (by rfl) _ _ 23 (by rfl) (hb + 1) 61 i0 (.agg #[.string ⟨#[]⟩, .string ⟨#[]⟩]) 2 32 Try.underlying23 hi hz0 hz1 hz2 rfl (by decide) (.slice uA acc.length uc) acc.length (fldsV acc) (by rfl) ((flds_later hb7 HFL.out).alloc _) ⟨w7.heap.size, 0, none⟩ 1 1 [.string (S (lowerL ck)), .string (S (trimL cv))] (by rfl) rfl (World.news_of_block (heap_alloc_new w7 _)) hone (by decide) hq1 hq2 (Nat.le_trans (Nat.le_trans hhs hs7) (by simp)) _ rfl ?_; intro g cap w8 hown8 hgr8 hwh8 hlt8; have hh8 := hh_cell hh7 hgr8 HFL.out; have h8c := (cells3f hh8).2.2.1; have h8f := (cells3f hh8).2.2.2.2.2) | (go_simp; go_at_call 41; (with_reducible refine (HLo.out _).mono ?_); rintro e w7 ⟨rfl, hb7⟩; have hh7 := (hb7.block hb hhs).trans hh6'.out; have h7c := (cells3f hh7).2.2.1; have h7f := (cells3f hh7).2.2.2.2.2; have hs7 := hb7.size; have h7a := fun o => (alloc_cell (o := o) ⟨h7c, h7f⟩).1) | (go_simp; go_at_call 60; (with_reducible refine (HTr.out _).mono ?_); rintro e w7' ⟨rfl, rfl⟩))
                  all_goals
                    clear r1 r2 r3
                    obtain ⟨z1, z2, z3, z4, z5⟩ := hh_app (W1 := wr.drew) (f := (lowerL ck, trimL cv)) HH6.out (by omega) hglt rfl hb7 ((Below.refl _ w7).alloc (Nat.le_refl _) _) hgr8 hown8 ⟨hB6'.out.os, hB6'.out.tape, hB6'.out.output, hB6'.out.size, hB6'.out.block⟩
                    clear h0 h1 h2 f0 f1 f2 h7c h7f h7a h8c h8f hh7 hh8 hb7 hown8 hgr8 HLo HTr HH6 HFL HMX
                    go_wp2_with fail
                    rw [E2.out]
                    go_roundg (gk - 1)
                    case measure => omega
                    case rel =>
                      have hll := line_lenR r
                      exact ⟨acc ++ [(lowerL ck, trimL cv)], restL r, moreL r, .slice (some ⟨g, 0, none⟩) (acc.length + 1) cap, by omega, fun h => by rw [h] at hll; simp at hll; omega, by omega, by simp; omega, HY.out, rfl, z1, z2, z3, z4, z5⟩
end Go.Proofs.Ytegejmbkpdlekaa
