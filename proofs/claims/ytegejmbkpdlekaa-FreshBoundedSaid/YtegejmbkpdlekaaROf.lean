/- Contract of webfingerref21.Of. -/
import Derived.Test.YtegejmbkpdlekaaOf
import Derived.Test.YtegejmbkpdlekaaRDir
namespace Go.Proofs.Ytegejmbkpdlekaa
open Go.RowKit
theorem of_no {fs : List Fld} (h : ¬ 0 < (valuesL fs ccW).length) : ofL fs = 0 := by unfold ofL ctlP; rw [if_neg h]
theorem of_nodir {fs : List Fld} (h : dirF ((joinG fs ccW).length + 1) (joinG fs ccW) = none) : ofL fs = 0 := by
  unfold ofL ctlP
  by_cases h0 : 0 < (valuesL fs ccW).length
  · rw [if_pos h0, h]
  · rw [if_neg h0]
theorem of_noleast {fs ds : List Fld} (h : dirF ((joinG fs ccW).length + 1) (joinG fs ccW) = some ds) (hl : leastF ds maxU false = none) : ofL fs = 0 := by
  unfold ofL ctlP
  by_cases h0 : 0 < (valuesL fs ccW).length
  · rw [if_pos h0, h]; simp only; rw [hl]
  · rw [if_neg h0]
theorem of_some {fs ds : List Fld} {a : Nat} {b : Bool} (h0 : 0 < (valuesL fs ccW).length) (h : dirF ((joinG fs ccW).length + 1) (joinG fs ccW) = some ds) (hl : leastF ds maxU false = some (a, b)) : ofL fs = if b && (ageP fs).2 then min (a - (ageP fs).1) 86400 else 0 := by
  unfold ofL ctlP
  rw [if_pos h0, h]; simp only; rw [hl]
set_option maxRecDepth 100000 in
set_option maxHeartbeats 4000000 in
theorem rof_c (w : World) (mi st : Int) (fv : Value) (fs : List Fld) (hn : fs.length ≤ 1000) (hl : ∀ f ∈ fs, f.1.length ≤ 1000000) (hv : Lib.lens (fs.map (·.2)) ≤ 500000) (h : Rd w 2 fv fs.length (fldsV fs)) :
    Calls Try.prog 17 #[.agg #[.int .i64 mi, .int .i64 st, fv]] w fun e w' => e = .returned (freshV (ofL fs)) ∧ Below w.heap.size w w' := by
  obtain ⟨A, c, rfl⟩ := h.slice
  have hbc := joinG_len fs ccW
  have hba := joinG_len fs agW
  have hB0 : Below w.heap.size w ((w.alloc (.cells #[.int .i64 mi, .int .i64 st, .slice A fs.length c] 29)).alloc (.cells #[.bool false, .int .u64 0] 33)) := ((Below.refl _ w).alloc (Nat.le_refl _) _).alloc (by simp) _
  have hg0 : ((w.alloc (.cells #[.int .i64 mi, .int .i64 st, .slice A fs.length c] 29)).alloc (.cells #[.bool false, .int .u64 0] 33)).heap[w.heap.size]? = some (.cells #[.int .i64 mi, .int .i64 st, .slice A fs.length c] 29 (0, 0)) :=
    (Below.heap_alloc _ _ _ (by simp)).trans (heap_alloc_new w _)
  have hr0 : ((w.alloc (.cells #[.int .i64 mi, .int .i64 st, .slice A fs.length c] 29)).alloc (.cells #[.bool false, .int .u64 0] 33)).heap[w.heap.size + 1]? = some (.cells #[.bool false, .int .u64 0] 33 (0, 0)) := by
    have := heap_alloc_new (w.alloc (.cells #[.int .i64 mi, .int .i64 st, .slice A fs.length c] 29)) (.cells #[.bool false, .int .u64 0] 33)
    simpa using this
  have hR0 := h.later hB0
  have HL := Lib.hid hl
  clear h hl
  go_enter Try.func17, Try.ntmps17
  obtain ⟨h0, h1, h2⟩ := cells3' hg0
  go_wp2_with fail
  generalize (w.alloc (.cells #[.int .i64 mi, .int .i64 st, .slice A fs.length c] 29)).alloc (.cells #[.bool false, .int .u64 0] 33) = w0 at *
  refine (rget_c _ mi st _ fs ⟨#[99, 97, 99, 104, 101, 45, 99, 111, 110, 116, 114, 111, 108]⟩ (by decide) hn HL.out hv hR0).mono ?_
  rintro e w1 ⟨rfl, hb1⟩
  have hB1 := hB0.trans (hb1.mono hB0.size)
  have hg1 := (hb1.block _ (heap_lt hg0)).trans hg0
  have hr1 := (hb1.block _ (heap_lt hr0)).trans hr0
  have hR1 := hR0.later hb1
  clear h0 h1 h2 hB0 hg0 hr0 hR0 hb1
  generalize hT : decide (0 < (valuesL fs (⟨#[99, 97, 99, 104, 101, 45, 99, 111, 110, 116, 114, 111, 108]⟩ : ByteArray).data.toList).length) = T at *
  have hT : decide (0 < (valuesL fs ccW).length) = T := hT
  have HT := Lib.hid hT
  clear hT
  have hcs : (S (joinG fs (⟨#[99, 97, 99, 104, 101, 45, 99, 111, 110, 116, 114, 111, 108]⟩ : ByteArray).data.toList)).size ≤ 900000 := by rw [S_size]; show (joinG fs ccW).length ≤ _; omega
  have HCS := Lib.hid hcs
  clear hcs
  go_wp2_with fail
  refine (rdir_c _ HCS.out _).mono ?_
  rintro e w2 ⟨hD, hb2⟩
  have hB2 := hB1.trans (hb2.mono hB1.size)
  have hg2 := (hb2.block _ (heap_lt hg1)).trans hg1
  have hr2 := (hb2.block _ (heap_lt hr1)).trans hr1
  have hR2 := hR1.later hb2
  obtain ⟨r0, r1, r2, r3⟩ := cells2 hr2
  have hsz : (S (joinG fs ccW)).size = (joinG fs ccW).length := S_size _
  rcases hD with ⟨hx, rfl⟩ | ⟨ds, dv, hx, rfl, hF⟩
  · have hx' : dirF ((joinG fs ccW).length + 1) (joinG fs ccW) = none := by rw [← hsz]; exact hx
    have HOF := Lib.hid (of_nodir hx')
    clear hsz hx hx'
    cases T with
    | false =>
      go_wp2_with fail
      refine bodyPost_ret (v := .agg #[.bool false, .int .u64 0]) (by simp [results, Try.results17, go_sem, r0, r1]) rfl ⟨by rw [HOF.out]; rfl, ((hB2).setCell (by simp) _).setCell (by simp) _⟩
    | true =>
      go_wp2_with fail
      refine bodyPost_ret (v := .agg #[.bool false, .int .u64 0]) (by simp [results, Try.results17, go_sem, r0, r1]) rfl ⟨by rw [HOF.out]; rfl, ((hB2).setCell (by simp) _).setCell (by simp) _⟩
  · have hx' : dirF ((joinG fs ccW).length + 1) (joinG fs ccW) = some ds := by rw [← hsz]; exact hx
    have HX := Lib.hid hx'
    have hdR := Rd.of_own hF
    have hdn := own_big hF
    have hdl : ∀ f ∈ ds, f.2.length ≤ 1000000 := fun f hf => by have := dirF_le _ _ _ hx' f hf; omega
    have HDL := Lib.hid hdl
    obtain ⟨dA, dc, rfl⟩ := hdR.slice
    clear hsz hx hx' hdl hF hB1 hg1 hr1 hR1 hb2 HCS
    cases T with
    | false =>
      have HOF := Lib.hid (of_no (of_decide_eq_false HT.out))
      go_wp2_with fail
      refine bodyPost_ret (v := .agg #[.bool false, .int .u64 0]) (by simp [results, Try.results17, go_sem, r0, r1]) rfl ⟨by rw [HOF.out]; rfl, ((hB2).setCell (by simp) _).setCell (by simp) _⟩
    | true =>
      have HV := Lib.hid (of_decide_eq_true HT.out)
      clear HT
      have HREST := Lib.hid (fun (a : Nat) (b : Bool) hx => of_some (a := a) (b := b) HV.out HX.out hx)
      have HNL := Lib.hid (fun hx => of_noleast HX.out hx)
      clear HX HV
      generalize hR : leastF ds maxU false = R at *
      have HR := Lib.hid hR
      clear hR
      have HDR := Lib.hid hdR
      clear hdR
      go_wp2_with fail
      go_loopw [7, 8, 36] (fun u4 u5 u12 wr => LP w2 wr ds R u4 u5 u12) (fun _ _ i _ => ds.length - (intOf i).toNat)
      case atStart => exact ⟨0, maxU, false, Nat.zero_le _, Nat.le_refl _, rfl, rfl, rfl, by simpa using HR.out, Below.refl _ _⟩
      case round =>
        obtain ⟨k, a, b, hk, ha, rfl, rfl, rfl, hX, hB⟩ := hrel
        have HXX := Lib.hid hX
        have HA := Lib.hid ha
        clear hX HR ha r0 r1 r2 r3
        have hrr := (hB.block _ (heap_lt hr2)).trans hr2
        have hBw := hB2.trans (hB.mono hB2.size)
        have hsz2 := hB.size
        by_cases hlt : k < ds.length
        · obtain ⟨ad, c1, he, hb1, hc1⟩ := (HDR.out.later hB).at_ (by omega)
          injection he with he _ he2
          subst he
          subst he2
          obtain ⟨x0, x1⟩ := fld_at hc1 hlt
          clear hc1 hb1
          have hszf : (S ds[k].2).size ≤ 1000000 := by rw [S_size]; exact HDL.out _ (List.getElem_mem hlt)
          have HSZ := Lib.hid hszf
          have hB1 := hB.alloc hB.size (.cells #[.string (S ds[k].1), .string (S ds[k].2)] 61)
          have hBw1 := hBw.alloc hBw.size (.cells #[.string (S ds[k].1), .string (S ds[k].2)] 61)
          have hr1 := (Below.heap_alloc wr (.cells #[.string (S ds[k].1), .string (S ds[k].2)] 61) _ (heap_lt hrr)).trans hrr
          obtain ⟨r0, r1, r2, r3⟩ := cells2 hr1
          clear hszf
          by_cases w1 : ds[k].1 = noStoreW
          · have e1 : ((S ds[k].1).toList == [110, 111, 45, 115, 116, 111, 114, 101]) = true := by rw [S_beq]; exact decide_eq_true w1
            have HOF := Lib.hid (HNL.out ((least_stop hlt (.inl w1)).symm.trans HXX.out).symm)
            clear w1
            go_wp2_with fail
            refine bodyPost_ret (v := .agg #[.bool false, .int .u64 0]) (by simp [results, Try.results17, go_sem, r0, r1]) rfl ⟨by rw [HOF.out]; rfl, ((hBw1).setCell (by simp) _).setCell (by simp) _⟩
          · have e1 : ((S ds[k].1).toList == [110, 111, 45, 115, 116, 111, 114, 101]) = false := by rw [S_beq]; exact decide_eq_false w1
            by_cases w2 : ds[k].1 = noCacheW
            · have e2 : ((S ds[k].1).toList == [110, 111, 45, 99, 97, 99, 104, 101]) = true := by rw [S_beq]; exact decide_eq_true w2
              have HOF := Lib.hid (HNL.out ((least_stop hlt (.inr w2)).symm.trans HXX.out).symm)
              clear w1 w2
              go_wp2_with fail
              refine bodyPost_ret (v := .agg #[.bool false, .int .u64 0]) (by simp [results, Try.results17, go_sem, r0, r1]) rfl ⟨by rw [HOF.out]; rfl, ((hBw1).setCell (by simp) _).setCell (by simp) _⟩
            · have e2 : ((S ds[k].1).toList == [110, 111, 45, 99, 97, 99, 104, 101]) = false := by rw [S_beq]; exact decide_eq_false w2
              have hw : ¬ (ds[k].1 = noStoreW ∨ ds[k].1 = noCacheW) := fun h => h.elim w1 w2
              by_cases w3 : ds[k].1 = maxAgeW
              · have e3 : ((S ds[k].1).toList == [109, 97, 120, 45, 97, 103, 101]) = true := by rw [S_beq]; exact decide_eq_true w3
                have HBAD := Lib.hid (least_bad (a := a) (b := b) hlt hw w3)
                have HAGE := Lib.hid (least_age (a := a) (b := b) hlt hw w3)
                have HSL := Lib.hid (sec_le ds[k].2)
                clear w1 w2 w3 hw
                go_wp2_with fail
                refine (rseconds_c (S ds[k].2) HSZ.out _).mono ?_
                rintro e w2 ⟨he, rfl⟩
                rw [S_list] at he
                generalize hsec : secP ds[k].2 = sc at *
                obtain ⟨n, c⟩ := sc
                subst he
                cases c with
                | false =>
                  have HOF := Lib.hid (HNL.out ((HBAD.out rfl).symm.trans HXX.out).symm)
                  clear hsec
                  go_wp2_with fail
                  refine bodyPost_ret (v := .agg #[.bool false, .int .u64 0]) (by simp [results, Try.results17, go_sem, r0, r1]) rfl ⟨by rw [HOF.out]; rfl, ((hBw1).setCell (by simp) _).setCell (by simp) _⟩
                | true =>
                  have HY := Lib.hid ((HAGE.out rfl).symm.trans HXX.out)
                  clear hsec
                  go_wp2_with fail
                  go_roundw
                  case rel => exact ⟨k + 1, min a n, true, by omega, by have := HA.out; omega, by go_num, by go_num, rfl, HY.out, hB1⟩
                  case measure => simp [intOf]; omega
              · have e3 : ((S ds[k].1).toList == [109, 97, 120, 45, 97, 103, 101]) = false := by rw [S_beq]; exact decide_eq_false w3
                have HY := Lib.hid ((least_skip hlt hw w3).symm.trans HXX.out)
                clear w1 w2 w3 hw
                go_wp2_with fail
                go_roundw
                case rel => exact ⟨k + 1, a, b, by omega, HA.out, by go_num, rfl, rfl, HY.out, hB1⟩
                case measure => simp [intOf]; omega
        · have HOF := Lib.hid (HREST.out a b ((least_end hlt).symm.trans HXX.out).symm)
          have hg3 := (hB.block _ (heap_lt hg2)).trans hg2
          have hR3 := hR2.later hB
          have hm := HA.out
          have hr3 := hrr
          have hB3 := hBw
          clear hg2 hR2 hr2 hB hrr hBw hB2
          generalize wr = w3 at *
          obtain ⟨h0, h1, h2⟩ := cells3' hg3
          go_wp2_with fail
          refine (rget_c _ mi st _ fs ⟨#[97, 103, 101]⟩ (by decide) hn HL.out hv hR3).mono ?_
          rintro e w4 ⟨rfl, hb4⟩
          have hB4 := hB3.trans (hb4.mono hB3.size)
          have hr4 := (hb4.block _ (heap_lt hr3)).trans hr3
          obtain ⟨r0, r1, r2, r3⟩ := cells2 hr4
          have hB6 := hB4
          clear hB3 hg3 hr3 hR3 hb4 h0 h1 h2
          by_cases hag : 0 < (valuesL fs agW).length
          · have hd : decide (0 < (valuesL fs (⟨#[97, 103, 101]⟩ : ByteArray).data.toList).length) = true := decide_eq_true hag
            rw [hd]
            have hA : ageP fs = secP (joinG fs agW) := by unfold ageP; rw [if_pos hag]
            rw [hA] at HOF
            have HAS := Lib.hid (show (S (joinG fs (⟨#[97, 103, 101]⟩ : ByteArray).data.toList)).size ≤ 1000000 from by rw [S_size]; show (joinG fs agW).length ≤ _; omega)
            have HSL := Lib.hid (sec_le (joinG fs agW))
            clear hag hd hA
            go_wp2_with fail
            refine (rseconds_c _ HAS.out _).mono ?_
            rintro e w5 ⟨he, rfl⟩
            have he : e = .returned (.tuple #[.int .u64 ((secP (joinG fs agW)).1 : Nat), .bool (secP (joinG fs agW)).2]) := he
            generalize secP (joinG fs agW) = sc at *
            obtain ⟨SP, is⟩ := sc
            subst he
            have hsp : SP ≤ maxU := HSL.out
            replace HOF : Hid (ofL fs = if b && is then min (a - SP) 86400 else 0) := HOF
            cases is with
            | false =>
              have HOF : Hid (ofL fs = 0) := Lib.hid (HOF.out.trans (by rw [Bool.and_false]; rfl))
              go_wp2_with fail
              refine bodyPost_ret (v := .agg #[.bool false, .int .u64 0]) (by simp [results, Try.results17, go_sem, r0, r1]) rfl ⟨by rw [HOF.out]; rfl, ((hB6).setCell (by simp) _).setCell (by simp) _⟩
            | true =>
              have HSUB := fun W => rSub_c (a : Int) (SP : Int) (U_nat hm) (U_nat hsp) W
              rw [satS_nat] at HSUB
              have HSUB := Lib.hid HSUB
              generalize a - SP = d at *
              go_wp2_with fail
              refine (HSUB.out _).mono ?_
              rintro e w6 ⟨rfl, rfl⟩
              cases b with
              | false =>
                go_wp2_with fail
                refine bodyPost_ret (v := .agg #[.bool false, .int .u64 0]) (by simp [results, Try.results17, go_sem, r0, r1]) rfl ⟨by rw [HOF.out]; rfl, ((hB6).setCell (by simp) _).setCell (by simp) _⟩
              | true =>
                have HOF : Hid (ofL fs = min d 86400) := HOF
                by_cases hz : d = 0
                · subst hz
                  have ez : (min ((0 : Nat) : Int) 86400 == 0) = true := by decide
                  go_wp2_with fail
                  refine bodyPost_ret (v := .agg #[.bool false, .int .u64 0]) (by simp [results, Try.results17, go_sem, r0, r1]) rfl ⟨by rw [HOF.out]; rfl, (hB6.setCell (by simp) _).setCell (by simp) _⟩
                · have ez : (min (d : Int) 86400 == 0) = false := by simp; omega
                  have hd : decide (0 < min d 86400) = true := by simp; omega
                  have hmin : ((min d 86400 : Nat) : Int) = min (d : Int) 86400 := by omega
                  go_wp2_with fail
                  refine bodyPost_ret (v := .agg #[.bool true, .int .u64 (min (d : Int) 86400)]) (by simp [results, Try.results17, go_sem, r0, r1]) rfl ⟨by rw [HOF.out]; unfold freshV; rw [hd, hmin], (hB6.setCell (by simp) _).setCell (by simp) _⟩
          · have hd : decide (0 < (valuesL fs (⟨#[97, 103, 101]⟩ : ByteArray).data.toList).length) = false := decide_eq_false hag
            rw [hd]
            have hA : ageP fs = (0, true) := by unfold ageP; rw [if_neg hag]
            rw [hA] at HOF
            clear hag hd hA
            obtain ⟨SP, hSP⟩ : ∃ SP : Nat, SP = 0 := ⟨0, rfl⟩
            have hsp : SP ≤ maxU := by rw [hSP]; exact Nat.zero_le _
            replace HOF : Hid (ofL fs = if b && true then min (a - SP) 86400 else 0) := by rw [hSP]; exact HOF
            have HSPZ : Hid ((SP : Int) = 0) := Lib.hid (by omega)
            clear hSP
            have HSUB := fun W => rSub_c (a : Int) (SP : Int) (U_nat hm) (U_nat hsp) W
            rw [satS_nat, HSPZ.out] at HSUB
            have HSUB := Lib.hid HSUB
            generalize a - SP = d at *
            clear HSPZ hsp
            go_wp2_with fail
            refine (HSUB.out _).mono ?_
            rintro e w6 ⟨rfl, rfl⟩
            cases b with
            | false =>
              go_wp2_with fail
              refine bodyPost_ret (v := .agg #[.bool false, .int .u64 0]) (by simp [results, Try.results17, go_sem, r0, r1]) rfl ⟨by rw [HOF.out]; rfl, ((hB6).setCell (by simp) _).setCell (by simp) _⟩
            | true =>
              have HOF : Hid (ofL fs = min d 86400) := HOF
              by_cases hz : d = 0
              · subst hz
                have ez : (min ((0 : Nat) : Int) 86400 == 0) = true := by decide
                go_wp2_with fail
                refine bodyPost_ret (v := .agg #[.bool false, .int .u64 0]) (by simp [results, Try.results17, go_sem, r0, r1]) rfl ⟨by rw [HOF.out]; rfl, (hB6.setCell (by simp) _).setCell (by simp) _⟩
              · have ez : (min (d : Int) 86400 == 0) = false := by simp; omega
                have hd : decide (0 < min d 86400) = true := by simp; omega
                have hmin : ((min d 86400 : Nat) : Int) = min (d : Int) 86400 := by omega
                go_wp2_with fail
                refine bodyPost_ret (v := .agg #[.bool true, .int .u64 (min (d : Int) 86400)]) (by simp [results, Try.results17, go_sem, r0, r1]) rfl ⟨by rw [HOF.out]; unfold freshV; rw [hd, hmin], (hB6.setCell (by simp) _).setCell (by simp) _⟩
end Go.Proofs.Ytegejmbkpdlekaa
