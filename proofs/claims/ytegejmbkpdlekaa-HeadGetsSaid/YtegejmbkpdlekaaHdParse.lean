/- The walk of head.Parse (chapter 18). -/
import Derived.Test.YtegejmbkpdlekaaHdApp
import Derived.Test.YtegejmbkpdlekaaStrs
namespace Go.Proofs.Ytegejmbkpdlekaa
open Go.RowKit
theorem below3 {w W : World} (h : Below w.heap.size w W) (x y z : Value) : Below w.heap.size w (((W.setCell ⟨w.heap.size, 0, none⟩ x).setCell ⟨w.heap.size, 1, none⟩ y).setCell ⟨w.heap.size, 2, none⟩ z) :=
  ((h.setCell (Nat.le_refl _) _).setCell (Nat.le_refl _) _).setCell (Nat.le_refl _) _
/-- the loop's relation -/
def HP (w wr : World) (hb : Nat) (M mi st : Int) (gf : Nat) (X : Except Nat (List Fld)) : Prop :=
  ∃ (acc : List Fld) (r : ByteArray) (m : Bool) (fv : Value), 0 < gf ∧ (m = true → r.size + 2 ≤ gf) ∧ r.size ≤ 1000000 ∧ acc.length ≤ 64 ∧ preH acc (hdrF gf acc.length r.data.toList m) = X ∧
    Ln wr (w.heap.size + 1) r m ∧ wr.heap[hb]? = some (.cells #[.int .i64 mi, .int .i64 st, fv] 29 (0, 0)) ∧ Flds wr (hb + 1) fv acc ∧ MaxAt M wr ∧ Below w.heap.size w wr ∧ wr.heap[w.heap.size]? = some (.cells #[.int .i64 0, .int .i64 0, .slice none 0 0] 29 (0, 0))
theorem ext_take (s : ByteArray) (n : Nat) : (s.extract 0 n).data.toList = s.data.toList.take n := by
  rw [ext_tk, List.drop_zero, Nat.sub_zero]
theorem hr_err {w w' : World} {X : Except Nat (Nat × Nat × List Fld × Nat)} {c : Nat} {v : Value} (h : X = .error c) (hv : v = .tuple #[.agg #[.int .i64 0, .int .i64 0, .slice none 0 0], .int .i64 0, .int .i64 (c : Int)]) : HR w w' X (.returned v) := .inl ⟨c, h, by rw [hv]⟩
section
variable {s : ByteArray} {X : Except Nat (Nat × Nat × List Fld × Nat)}
theorem hl_none {N : Int} (hN : Lib.index (s.data.toList.take 16384) endL = N) (h : N < 0) (H : headL s.data.toList = X) : X = .error (if 16384 < s.size then 142 else 191) := by
  rw [← H]; unfold headL; rw [hN, if_pos h, size_toList]
theorem hl_stat {n : Nat} (hN : Lib.index (s.data.toList.take 16384) endL = (n : Int)) (hs : statusL (lineL (s.data.toList.take n)) = none) (H : headL s.data.toList = X) : X = .error 180 := by
  rw [← H]; unfold headL; rw [hN, if_neg (by omega), Int.toNat_natCast, hs]
theorem hl_go {n mi st : Nat} (hN : Lib.index (s.data.toList.take 16384) endL = (n : Int)) (hs : statusL (lineL (s.data.toList.take n)) = some (mi, st)) (H : headL s.data.toList = X) :
    X = finH mi st n (hdrF (s.size + 3) 0 (restL (s.data.toList.take n)) (moreL (s.data.toList.take n))) := by
  rw [← H]; unfold headL; rw [hN, if_neg (by omega), Int.toNat_natCast, hs, size_toList]
theorem hl_err {mi st n c : Nat} {Y : Except Nat (List Fld)} (hY : Y = .error c) (H : X = finH mi st n Y) : X = .error c := by rw [H, hY]; rfl
theorem hl_ok {mi st n : Nat} {fs : List Fld} {Y : Except Nat (List Fld)} (hY : Y = .ok fs) (H : X = finH mi st n Y) : X = .ok (mi, st, fs, n + 4) := by rw [H, hY]; rfl
end
theorem size_S (l : List UInt8) : (S l).size = l.length := S_size l
set_option maxRecDepth 100000 in
set_option maxHeartbeats 4000000 in
theorem hParse_c (s : ByteArray) (hs : s.size ≤ 9223372036854775807) (M : Int) (w : World) (hm : MaxAt M w) :
    Calls Try.prog 23 #[.string s] w fun e w' => HR w w' (headL s.data.toList) e ∧ Below w.heap.size w w' := by
  generalize hX : headL s.data.toList = X
  have hB0 : Below w.heap.size w (w.alloc (.cells #[.int .i64 0, .int .i64 0, .slice none 0 0] 29)) := (Below.refl _ w).alloc (Nat.le_refl _) _
  have hg0 := heap_alloc_new w (.cells #[.int .i64 0, .int .i64 0, .slice none 0 0] 29)
  have hm0 : MaxAt M (w.alloc (.cells #[.int .i64 0, .int .i64 0, .slice none 0 0] 29)) := hm.below hm.lt hB0
  have hsz0 : (w.alloc (.cells #[.int .i64 0, .int .i64 0, .slice none 0 0] 29)).heap.size = w.heap.size + 1 := by simp
  have hglt := hm.lt
  obtain ⟨a0, a1, a2, q0, q1, q2⟩ := cells3f hg0
  obtain ⟨t, ht⟩ : ∃ t : ByteArray, t = s.extract 0 (min s.size 16384) := ⟨_, rfl⟩
  have htl : t.data.toList = s.data.toList.take 16384 := by
    rw [ht, ext_take]
    by_cases h : s.size ≤ 16384
    · rw [Nat.min_eq_left h, List.take_of_length_le (by rw [size_toList]; omega), List.take_of_length_le (by rw [size_toList]; omega)]
    · rw [Nat.min_eq_right (by omega)]
  have hts : t.size ≤ 16384 ∧ t.size ≤ s.size := by
    rw [← size_toList, htl, List.length_take, size_toList]; omega
  obtain ⟨N, hN⟩ : ∃ N, Lib.index (s.data.toList.take 16384) endL = N := ⟨_, rfl⟩
  have hI := fun W h => index_c t ⟨#[13, 10, 13, 10]⟩ M W (by omega) h
  rw [htl, show (⟨#[13, 10, 13, 10]⟩ : ByteArray).data.toList = endL from rfl, hN] at hI
  have hroom : 0 ≤ N → N + 4 ≤ t.size := by
    intro h
    rw [← hN] at h ⊢
    have := Lib.index_room _ _ h
    rw [← htl, size_toList, htl] at this
    exact this
  have hge : -1 ≤ N := by rw [← hN]; exact Lib.index_ge _ _
  have HI := Lib.hid hI
  have HN := Lib.hid hN
  have HX := Lib.hid hX
  have HM := Lib.hid hm0
  clear hI hN hX hm0 hm htl
  have hmin : min (s.size : Int) 16384 = ((min s.size 16384 : Nat) : Int) := by omega
  go_enter Try.func23, Try.ntmps23
  go_wp2_with fail
  generalize w.alloc (.cells #[.int .i64 0, .int .i64 0, .slice none 0 0] 29) = W at *
  rw [← ht]
  refine (HI.out _ HM.out).mono ?_
  rintro e w' ⟨rfl, rfl⟩
  by_cases hn : N < 0
  · by_cases hbig : 16384 < s.size
    · have HE := Lib.hid (show X = .error 142 by rw [hl_none HN.out hn HX.out, if_pos hbig])
      have hbi : 16384 < (s.size : Int) := by omega
      go_wp2_with fail
      refine bodyPost_ret (v := .tuple #[.agg #[.int .i64 0, .int .i64 0, .slice none 0 0], .int .i64 0, .int .i64 142]) (by simp [results, Try.results23, go_sem, a0, a1, a2]) rfl ⟨hr_err (c := 142) HE.out rfl, below3 hB0 _ _ _⟩
    · have HE := Lib.hid (show X = .error 191 by rw [hl_none HN.out hn HX.out, if_neg hbig])
      have hbi : ¬ 16384 < (s.size : Int) := by omega
      go_wp2_with fail
      refine bodyPost_ret (v := .tuple #[.agg #[.int .i64 0, .int .i64 0, .slice none 0 0], .int .i64 0, .int .i64 191]) (by simp [results, Try.results23, go_sem, a0, a1, a2]) rfl ⟨hr_err (c := 191) HE.out rfl, below3 hB0 _ _ _⟩
  · obtain ⟨n, rfl⟩ : ∃ n : Nat, N = n := ⟨N.toNat, by omega⟩
    have hr4 := hroom (by omega)
    clear hroom hge HI hmin
    have hr := ext_take s n
    have hrn : (s.extract 0 n).size = n := by rw [← size_toList, hr, List.length_take, size_toList]; omega
    have hL0 := fun W : World => heap_alloc_new W (.cells #[.string (s.extract 0 n), .bool false] 73)
    have hB1 : Below w.heap.size w (w'.alloc (.cells #[.string (s.extract 0 n), .bool false] 73)) := hB0.alloc hB0.size _
    have hl1 : Ln (w'.alloc (.cells #[.string (s.extract 0 n), .bool false] 73)) (w.heap.size + 1) (s.extract 0 n) false := by have := hL0 w'; rw [hsz0] at this; exact this
    have hg1 : (w'.alloc (.cells #[.string (s.extract 0 n), .bool false] 73)).heap[w.heap.size]? = some (.cells #[.int .i64 0, .int .i64 0, .slice none 0 0] 29 (0, 0)) := (Below.heap_alloc _ _ _ (by omega)).trans hg0
    have hm1 : MaxAt M (w'.alloc (.cells #[.string (s.extract 0 n), .bool false] 73)) := HM.out.below HM.out.lt ((Below.refl _ w').alloc (Nat.le_refl _) _)
    clear hL0 hB0 hg0 HM a0 a1 a2 q0 q1 q2
    go_wp2_with fail
    generalize w'.alloc (.cells #[.string (s.extract 0 n), .bool false] 73) = w1 at *
    have HNX := Lib.hid (hNext_c (w.heap.size + 1) (s.extract 0 n) false (by omega) M w1 hl1 hm1)
    clear hl1
    refine HNX.out.mono ?_
    rintro e w2 ⟨rfl, hl2, ho2⟩
    rw [hr] at hl2 ⊢
    have hB2 : Below w.heap.size w w2 := hB1.trans (ho2.below (by omega) hB1.size)
    have hg2 := (ho2.block _ (heap_lt hg1) (by simp)).trans hg1
    have hm2 := hm1.only ho2 (by omega)
    have hll := (cut_len (s.data.toList.take n) crlfL).1
    have hlr := (cut_len (s.data.toList.take n) crlfL).2
    have hst : (s.data.toList.take n).length ≤ 16384 := by rw [List.length_take, size_toList]; omega
    have hSTc := hStatus_c (S (lineL (s.data.toList.take n))) (by rw [S_size]; unfold lineL; omega)
    rw [S_list] at hSTc
    obtain ⟨Y, hY⟩ : ∃ Y, statusL (lineL (s.data.toList.take n)) = Y := ⟨_, rfl⟩
    rw [hY] at hSTc
    have HSTc := Lib.hid hSTc
    have HY := Lib.hid hY
    have HL2 := Lib.hid hl2
    have HM2 := Lib.hid hm2
    clear hSTc hY hl2 hm2 hm1 hB1 hg1 HNX ho2 hll
    go_wp2_with fail
    refine (HSTc.out _).mono ?_
    rintro e w3 ⟨rfl, hb3⟩
    have hl3 := HL2.out.below hb3 HL2.out.lt
    have hlt2 := HL2.out.lt
    have hB3 : Below w.heap.size w w3 := hB2.trans (hb3.mono hB2.size)
    have hg3 := (hb3.block _ (heap_lt hg2)).trans hg2
    have hm3 := HM2.out.below HM2.out.lt hb3
    have hsz3 := hb3.size
    have HL3 := Lib.hid hl3
    have HM3 := Lib.hid hm3
    clear hl3 hm3 HL2 HM2 hB2 hg2 hb3 HSTc
    cases Y with
    | none =>
      have HE := Lib.hid (hl_stat HN.out HY.out HX.out)
      have hg4 : (w3.alloc (.cells #[.int .i64 0, .int .i64 0, .slice none 0 0] 29)).heap[w.heap.size]? = some (.cells #[.int .i64 0, .int .i64 0, .slice none 0 0] 29 (0, 0)) := (Below.heap_alloc _ _ _ (heap_lt hg3)).trans hg3
      have hB4 : Below w.heap.size w (w3.alloc (.cells #[.int .i64 0, .int .i64 0, .slice none 0 0] 29)) := hB3.alloc hB3.size _
      obtain ⟨a0, a1, a2, q0, q1, q2⟩ := cells3f hg4
      simp only [statV]
      go_wp2_with fail
      refine bodyPost_ret (v := .tuple #[.agg #[.int .i64 0, .int .i64 0, .slice none 0 0], .int .i64 0, .int .i64 180]) (by simp [results, Try.results23, go_sem, a0, a1, a2]) rfl ⟨hr_err (c := 180) HE.out rfl, below3 hB4 _ _ _⟩
    | some y =>
      obtain ⟨mi, st⟩ := y
      have HG := Lib.hid (hl_go HN.out HY.out HX.out)
      obtain ⟨Z, hZ⟩ : ∃ Z, hdrF (s.size + 3) 0 (restL (s.data.toList.take n)) (moreL (s.data.toList.take n)) = Z := ⟨_, rfl⟩
      rw [hZ] at HG
      have HZ := Lib.hid hZ
      have HS1 := Lib.hid (show (restL (s.data.toList.take n)).length + 2 ≤ s.size + 3 by unfold restL; rw [List.length_take, size_toList] at hlr; omega)
      have HS2 := Lib.hid (show (restL (s.data.toList.take n)).length ≤ 1000000 by unfold restL; omega)
      clear hZ HX HY HN hlr hst
      simp only [statV]
      go_wp2_with fail
      have hl4 := HL3.out.below ((Below.refl _ w3).alloc (Nat.le_refl _) (.cells #[.int .i64 (mi : Int), .int .i64 (st : Int), .slice none 0 0] 29)) HL3.out.lt
      have hm4 := HM3.out.below HM3.out.lt ((Below.refl _ w3).alloc (Nat.le_refl _) (.cells #[.int .i64 (mi : Int), .int .i64 (st : Int), .slice none 0 0] 29))
      have hg4 : (w3.alloc (.cells #[.int .i64 (mi : Int), .int .i64 (st : Int), .slice none 0 0] 29)).heap[w.heap.size]? = some (.cells #[.int .i64 0, .int .i64 0, .slice none 0 0] 29 (0, 0)) := (Below.heap_alloc _ _ _ (heap_lt hg3)).trans hg3
      have hh4 := heap_alloc_new w3 (.cells #[.int .i64 (mi : Int), .int .i64 (st : Int), .slice none 0 0] 29)
      have hB4 : Below w.heap.size w (w3.alloc (.cells #[.int .i64 (mi : Int), .int .i64 (st : Int), .slice none 0 0] 29)) := hB3.alloc hB3.size _
      have hbs := HL3.out.lt
      clear HL3 HM3 hg3 hB3
      generalize w3.alloc (.cells #[.int .i64 (mi : Int), .int .i64 (st : Int), .slice none 0 0] 29) = w4 at *
      generalize hhb : w3.heap.size = hb at *
      clear hhb
      go_loopg [9] (s.size + 3) (fun gf u9 wr => HP w wr hb M mi st gf Z)
      case atStart => exact ⟨[], _, _, _, by omega, fun _ => by rw [S_size]; exact HS1.out, by rw [S_size]; exact HS2.out, by simp, by rw [preH_nil, S_list]; exact HZ.out, hl4, hh4, Flds.nil, hm4, hB4, hg4⟩
      case round =>
        clear HS1 HS2 HZ hl4 hm4 hg4 hh4 hB4
        obtain ⟨acc, r, m, fv, hgf, hrg, hr6, hal, hX, hln, hhh, hfl, hmx, hB, hg⟩ := hrel
        obtain ⟨uA, uc, rfl⟩ : ∃ A c, fv = .slice A acc.length c := own_slice_n hfl
        have HX := Lib.hid hX
        have c1 := hln.c1
        obtain ⟨h0, h1, h2, f0, f1, f2⟩ := cells3f hhh
        have HLN := Lib.hid hln
        have HFL := Lib.hid hfl
        have HMX := Lib.hid hmx
        clear hX hln hfl hmx
        cases m with
        | false =>
          have HE := Lib.hid (hl_ok (hd_end hgf rfl HX.out) HG.out)
          obtain ⟨a0, a1, a2, q0, q1, q2⟩ := cells3f hg
          have hlt := heap_lt hg
          go_wp2_with fail
          refine bodyPost_ret (v := .tuple #[.agg #[.int .i64 (mi : Int), .int .i64 (st : Int), .slice uA acc.length uc], .int .i64 ((n : Int) + 4), .int .i64 0]) (by simp [results, Try.results23, go_sem, a0, a1, a2]) rfl ⟨.inr ⟨mi, st, acc, n + 4, _, HE.out, rfl, ?_⟩, below3 hB _ _ _⟩
          exact ((HFL.out.off (row := some w.heap.size) (((Only.set (b := w.heap.size) _).trans (Only.set _)).trans (Only.set _)) (fun g hg => by cases hg; exact .inl (by omega))).base (by omega))
        | true =>
          have hrg := hrg rfl
          by_cases h64 : 64 ≤ acc.length
          · have HE := Lib.hid (hd_many hgf rfl h64 HX.out)
            obtain ⟨a0, a1, a2, q0, q1, q2⟩ := cells3f hg
            have h64' : 64 ≤ (acc.length : Int) := by omega
            go_wp2_with fail
            refine bodyPost_ret (v := .tuple #[.agg #[.int .i64 0, .int .i64 0, .slice none 0 0], .int .i64 0, .int .i64 161]) (by simp [results, Try.results23, go_sem, a0, a1, a2]) rfl ⟨hr_err (c := 161) (hl_err HE.out HG.out) rfl, below3 hB _ _ _⟩
          · have h64' : ¬ 64 ≤ (acc.length : Int) := by omega
            have HNX := Lib.hid (hNext_c (w.heap.size + 1) r true hr6 M wr HLN.out HMX.out)
            go_wp2_with fail
            refine HNX.out.mono ?_
            rintro e w5 ⟨rfl, hl5, ho5⟩
            have hln := HLN.out.lt
            have hB5 : Below w.heap.size w w5 := hB.trans (ho5.below (by omega) hB.size)
            have hg5 := (ho5.block _ (heap_lt hg) (by simp)).trans hg
            have hh5 := (ho5.block _ (heap_lt hhh) (by simp; omega)).trans hhh
            have hm5 := HMX.out.only ho5 (by omega)
            have hf5 := HFL.out.off ho5 (fun g hg => by cases hg; exact .inl (by omega))
            clear h0 h1 h2 f0 f1 f2 c1 hg hhh HLN HFL HMX HNX ho5 hB
            obtain ⟨h0, h1, h2, f0, f1, f2⟩ := cells3f hh5
            have hcl := (cut_len r.data.toList crlfL).1
            have hcr := (cut_len r.data.toList crlfL).2
            have hmr := fun h => cut_rest (l := r.data.toList) (p := crlfL) (by decide) h
            rw [size_toList] at hcl hcr hmr
            have HCU := Lib.hid (cut_c (S (lineL r.data.toList)) ⟨#[58]⟩ M w5 (by rw [S_size]; unfold lineL; omega) hm5)
            go_wp2_with fail
            refine HCU.out.mono ?_
            rintro e w6 ⟨rfl, nd, rfl⟩
            have hB6 : Below w.heap.size w (w5.drewN nd) := ⟨hB5.os, hB5.tape, hB5.output, hB5.size, hB5.block⟩
            have hl6 : Ln (w5.drewN nd) (w.heap.size + 1) (S (restL r.data.toList)) (moreL r.data.toList) := hl5
            have hg6 : (w5.drewN nd).heap[w.heap.size]? = _ := hg5
            have hh6 : (w5.drewN nd).heap[hb]? = _ := hh5
            have hf6 : Flds (w5.drewN nd) (hb + 1) (.slice uA acc.length uc) acc := hf5
            have hm6 : MaxAt M (w5.drewN nd) := hm5
            have HCX := Lib.hid (show ∃ a b c, Lib.cut (lineL r.data.toList) [58] = (a, b, c) from ⟨_, _, _, rfl⟩)
            have hkl := (cut_len (lineL r.data.toList) [58]).1
            have hvl := (cut_len (lineL r.data.toList) [58]).2
            obtain ⟨ck, cv, co, hcx⟩ := HCX.out
            rw [hcx] at hkl hvl
            have hl1 := line_no (l := lineL r.data.toList)
            have hl2 := line_name (l := lineL r.data.toList)
            have hl3 := line_value (l := lineL r.data.toList)
            have hl4 := line_ok (l := lineL r.data.toList)
            rw [hcx] at hl1 hl2 hl3 hl4
            rw [S_list, hcx]
            have hll : (lineL r.data.toList).length ≤ 1000000 := by unfold lineL; omega
            simp only at hkl hvl hl1 hl2 hl3 hl4 ⊢
            have hK1 := hName_c (S ck) (by rw [S_size]; omega)
            have hK2 := hValue_c (S cv) (by rw [S_size]; omega)
            rw [S_list] at hK1 hK2
            obtain ⟨nb, hnb⟩ : ∃ nb, nameB ck = nb := ⟨_, rfl⟩
            obtain ⟨vb, hvb⟩ : ∃ vb, valueB cv = vb := ⟨_, rfl⟩
            have hLo := lower_c (S ck) (by rw [S_size]; omega)
            have hTr := trim_c (S cv) (by rw [S_size]; omega)
            rw [S_list] at hLo hTr
            rw [hnb] at hK1 hl2 hl4
            rw [hvb] at hK2 hl3 hl4
            have HK1 := Lib.hid hK1
            have HK2 := Lib.hid hK2
            have HL1 := Lib.hid hl1
            have HL2 := Lib.hid hl2
            have HL3 := Lib.hid hl3
            have HL4 := Lib.hid hl4
            have HMR := Lib.hid hmr
            have hkk := S_size ck
            have hvv := S_size cv
            obtain ⟨h0, h1, h2, f0, f1, f2⟩ := cells3f hh6
            obtain ⟨a0, a1, a2, q0, q1, q2⟩ := cells3f hg6
            have HM6 := Lib.hid hm6
            have HF6 := Lib.hid hf6
            have HLN6 := Lib.hid hl6
            have hhs := heap_lt hh6
            clear hK1 hK2 hl1 hl2 hl3 hl4 hmr hnb hvb HCX hcx hB5 hl5 hg5 hh5 hf5 hm5 HCU hm6 hf6 hl6
            generalize w5.drewN nd = w6 at *
            rw [show (⟨ck.toArray⟩ : ByteArray) = S ck from rfl, show (⟨cv.toArray⟩ : ByteArray) = S cv from rfl]
            generalize S ck = kb at *
            generalize S cv = vv at *
            cases co with
            | false =>
              have HE := Lib.hid (hd_bad hgf rfl h64 (HL1.out rfl) HX.out)
              go_wp2_with fail
              refine bodyPost_ret (v := .tuple #[.agg #[.int .i64 0, .int .i64 0, .slice none 0 0], .int .i64 0, .int .i64 180]) (by simp [results, Try.results23, go_sem, a0, a1, a2]) rfl ⟨hr_err (c := 180) (hl_err HE.out HG.out) rfl, below3 hB6 _ _ _⟩
            | true =>
              cases nb with
              | false =>
                have HE := Lib.hid (hd_bad hgf rfl h64 (HL2.out rfl) HX.out)
                go_wp2_with (first | (go_at_call 52; refine (HK1.out _).mono ?_; rintro e w' ⟨rfl, rfl⟩) | (go_at_call 53; refine (HK2.out _).mono ?_; rintro e w' ⟨rfl, rfl⟩))
                refine bodyPost_ret (v := .tuple #[.agg #[.int .i64 0, .int .i64 0, .slice none 0 0], .int .i64 0, .int .i64 180]) (by simp [results, Try.results23, go_sem, a0, a1, a2]) rfl ⟨hr_err (c := 180) (hl_err HE.out HG.out) rfl, below3 hB6 _ _ _⟩
              | true =>
                cases vb with
                | false =>
                  have HE := Lib.hid (hd_bad hgf rfl h64 (HL3.out rfl) HX.out)
                  go_wp2_with (first | (go_at_call 52; refine (HK1.out _).mono ?_; rintro e w' ⟨rfl, rfl⟩) | (go_at_call 53; refine (HK2.out _).mono ?_; rintro e w' ⟨rfl, rfl⟩))
                  refine bodyPost_ret (v := .tuple #[.agg #[.int .i64 0, .int .i64 0, .slice none 0 0], .int .i64 0, .int .i64 180]) (by simp [results, Try.results23, go_sem, a0, a1, a2]) rfl ⟨hr_err (c := 180) (hl_err HE.out HG.out) rfl, below3 hB6 _ _ _⟩
                | true =>
                  have HY := Lib.hid (hd_next hgf rfl h64 (HL4.out rfl rfl rfl) HX.out)
                  go_wp2_with (first | (go_at_call 52; refine (HK1.out _).mono ?_; rintro e w' ⟨rfl, rfl⟩) | (go_at_call 53; refine (HK2.out _).mono ?_; rintro e w' ⟨rfl, rfl⟩))
                  have HLo := Lib.hid (hLo)
                  have HTr := Lib.hid (hTr)
                  have HH6 := Lib.hid (show HH w w6 hb M mi st (.slice uA acc.length uc) acc from ⟨hh6, HF6.out, HM6.out, hB6, hg6⟩)
                  have hh6' := Lib.hid hh6
                  have hB6' := Lib.hid hB6
                  have hone : ∀ u ∈ ([.string (S (lowerL ck)), .string (S (trimL cv))] : List Value), u.oneCell' = true := by intro u hu; simp at hu; rcases hu with rfl | rfl <;> rfl
                  have hq1 : acc.length + 1 ≤ maxLen := by unfold maxLen; omega
                  have hq2 : (acc.length + 1) * 32 ≤ 140737488355328 := by omega
                  obtain ⟨i0, hi, hz0, hz1, hz2⟩ := info_parts infoF
                  clear hLo hTr hh6 hB6 hg6 a0 a1 a2 q0 q1 q2 HK1 HK2 HL1 HL2 HL3 HL4 hkl hvl hll hkk hvv
                  go_region_law (first | (refine step_append_lies _ (by rfl) _ _ 23 (by rfl) (hb + 1) 61 i0 (.agg #[.string ⟨#[]⟩, .string ⟨#[]⟩]) 2 32 Try.underlying23 hi hz0 hz1 hz2 rfl (by decide) (.slice uA acc.length uc) acc.length (fldsV acc) (by rfl) ((flds_later hb7 HF6.out).alloc _) ⟨w7.heap.size, 0, none⟩ 1 1 [.string (S (lowerL ck)), .string (S (trimL cv))] (by rfl) rfl (World.news_of_block (heap_alloc_new w7 _)) hone (by decide) hq1 hq2 (Nat.le_trans (Nat.le_trans hhs hs7) (by simp)) _ rfl ?_; intro g cap w8 hown8 hgr8 hwh8 hlt8; have hh8 := hh_cell hh7 hgr8 HF6.out; have h8c := (cells3f hh8).2.2.1; have h8f := (cells3f hh8).2.2.2.2.2) | (go_simp; go_at_call 37; (with_reducible refine (HLo.out _).mono ?_); rintro e w7 ⟨rfl, hb7⟩; have hh7 := (hb7.block hb hhs).trans hh6'.out; have h7c := (cells3f hh7).2.2.1; have h7f := (cells3f hh7).2.2.2.2.2; have hs7 := hb7.size; have h7a := fun o => (alloc_cell (o := o) ⟨h7c, h7f⟩).1) | (go_simp; go_at_call 54; (with_reducible refine (HTr.out _).mono ?_); rintro e w7' ⟨rfl, rfl⟩))
                  all_goals
                    obtain ⟨z1, z2, z3, z4, z5⟩ := hh_app (W1 := w6.drew) (f := (lowerL ck, trimL cv)) HH6.out (by omega) hglt rfl hb7 ((Below.refl _ w7).alloc (Nat.le_refl _) _) hgr8 hown8 ⟨hB6'.out.os, hB6'.out.tape, hB6'.out.output, hB6'.out.size, hB6'.out.block⟩
                    have z6 := ln_app (W1 := w6.drew) (u := .slice (some ⟨g, 0, none⟩) (acc.length + 1) cap) HLN6.out HF6.out (by omega) rfl hb7 ((Below.refl _ w7).alloc (Nat.le_refl _) _) hgr8
                    clear h0 h1 h2 f0 f1 f2 h7c h7f h7a h8c h8f hh7 hh8 hb7 hown8 hgr8 HLo HTr HH6 HF6 HLN6 HM6
                    go_wp2_with fail
                    go_roundg (gk - 1)
                    case measure => omega
                    case rel => exact ⟨acc ++ [(lowerL ck, trimL cv)], S (restL r.data.toList), moreL r.data.toList, .slice (some ⟨g, 0, none⟩) (acc.length + 1) cap, by omega, fun h => by have := HMR.out h; rw [S_size]; unfold restL; omega, by rw [S_size]; unfold restL; omega, by simp; omega, HY.out, z6, z1, z2, z3, z4, z5⟩
end Go.Proofs.Ytegejmbkpdlekaa
