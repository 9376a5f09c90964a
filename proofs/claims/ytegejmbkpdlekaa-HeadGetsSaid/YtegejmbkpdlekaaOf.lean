/- Contract of fresh.Of. -/
import Derived.Test.YtegejmbkpdlekaaLeast
import Derived.Test.YtegejmbkpdlekaaDir
namespace Go.Proofs.Ytegejmbkpdlekaa
open Go.RowKit
def ccW : List UInt8 := [99, 97, 99, 104, 101, 45, 99, 111, 110, 116, 114, 111, 108]
def agW : List UInt8 := [97, 103, 101]
def ageP (fs : List Fld) : Nat × Bool := if 0 < (valuesL fs agW).length then secP (joinG fs agW) else (0, true)
def ctlP (fs : List Fld) : Option (Nat × Bool) :=
  if 0 < (valuesL fs ccW).length then (match dirF ((joinG fs ccW).length + 1) (joinG fs ccW) with | none => none | some ds => leastF ds maxU false) else none
/-- the seconds for which a response with these fields may be cached -/
def ofL (fs : List Fld) : Nat :=
  match ctlP fs with
  | none => 0
  | some x => if x.2 && (ageP fs).2 then min (x.1 - (ageP fs).1) 86400 else 0
def freshV (n : Nat) : Value := .agg #[.bool (decide (0 < n)), .int .u64 (n : Int)]
theorem dirL_le {l r : List UInt8} {f : Fld} (h : dirL l = some (f, r)) : f.2.length ≤ l.length ∧ r.length ≤ l.length := by
  unfold dirL at h
  by_cases h0 : (tokL l).isEmpty = true
  · rw [if_pos h0] at h; cases h
  · rw [if_neg h0] at h
    have h2 := tokR_le l
    cases hb : tokR l with
    | nil => rw [hb] at h; injection h with h; injection h with h1 h3; subst h1; subst h3; simp
    | cons c t =>
      rw [hb] at h h2
      simp only [List.length_cons] at h2
      simp only at h
      by_cases h1 : c.toNat = 61
      · rw [if_pos h1] at h
        cases hv : valueL t with
        | none => rw [hv] at h; cases h
        | some y =>
          rw [hv] at h
          have h3 := valueL_le (v := y.1) (r := y.2) hv
          have h4 := valueL_rest (v := y.1) (r := y.2) hv
          simp only [Option.map_some] at h; injection h with h; injection h with h5 h6; subst h5; subst h6
          exact ⟨by simp only; omega, by omega⟩
      · rw [if_neg h1] at h; injection h with h; injection h with h5 h6; subst h5; subst h6
        exact ⟨by simp, by simp; omega⟩
theorem dirF_le : ∀ (n : Nat) (l : List UInt8) (ds : List Fld), dirF n l = some ds → ∀ f ∈ ds, f.2.length ≤ l.length
  | 0, _, _, h => by cases h
  | n + 1, l, ds, h => by
    have hb := blank_len l
    rw [dirF] at h
    cases hl : blankL l with
    | nil => rw [hl] at h; injection h with h; subst h; intro f hf; cases hf
    | cons c t =>
      rw [hl] at h hb
      simp only [List.length_cons] at hb
      simp only at h
      by_cases hc : c.toNat = 44
      · rw [if_pos hc] at h
        intro f hf
        have := dirF_le n t ds h f hf
        omega
      · rw [if_neg hc] at h
        cases hx : dirL (c :: t) with
        | none => rw [hx] at h; cases h
        | some y =>
          rw [hx] at h
          obtain ⟨g, r⟩ := y
          obtain ⟨h1, h2⟩ := dirL_le hx
          have h3 := blank_len r
          simp only [List.length_cons] at h1 h2
          simp only at h
          cases hr : blankL r with
          | nil =>
            rw [hr] at h; injection h with h; subst h
            intro f hf; simp at hf; subst hf; omega
          | cons d u =>
            rw [hr] at h h3
            simp only [List.length_cons] at h3
            simp only at h
            by_cases hd : d.toNat = 44
            · rw [if_pos hd] at h
              cases hq : dirF n u with
              | none => rw [hq] at h; cases h
              | some es =>
                rw [hq] at h
                simp only [Option.map_some] at h; injection h with h; subst h
                intro f hf
                rcases List.mem_cons.1 hf with rfl | hf
                · omega
                · have := dirF_le n u es hq f hf; omega
            · rw [if_neg hd] at h; cases h
theorem of_eq {fs : List Fld} {T O M : Bool} {m : Nat} (hT : T = decide (0 < (valuesL fs ccW).length))
    (h : (dirF ((joinG fs ccW).length + 1) (joinG fs ccW) = none ∧ O = false) ∨ ∃ ds, dirF ((joinG fs ccW).length + 1) (joinG fs ccW) = some ds ∧ O = true ∧ leastV (leastF ds maxU false) = .tuple #[.int .u64 (m : Int), .bool M]) :
    ofL fs = if T && (O && (ageP fs).2) && M then min (m - (ageP fs).1) 86400 else 0 := by
  unfold ofL ctlP
  subst hT
  by_cases hv : 0 < (valuesL fs ccW).length
  · rw [if_pos hv, decide_eq_true hv]
    rcases h with ⟨hd, rfl⟩ | ⟨ds, hd, rfl, hl⟩
    · rw [hd]; rfl
    · rw [hd]
      simp only
      cases hx : leastF ds maxU false with
      | none =>
        rw [hx] at hl
        have : M = false := by unfold leastV at hl; injection hl with hl; simp at hl; exact hl.2
        subst this
        simp
      | some y =>
        rw [hx] at hl
        obtain ⟨rfl, rfl⟩ : y.1 = m ∧ y.2 = M := by unfold leastV at hl; injection hl with hl; simp at hl; exact ⟨by omega, hl.2⟩
        simp only [Bool.true_and]
        cases y.2 <;> cases (ageP fs).2 <;> rfl
  · rw [if_neg hv, decide_eq_false hv]; rfl
theorem U_nat {n : Nat} (h : n ≤ maxU) : U (n : Int) := by unfold U; unfold maxU at h; omega
theorem satS_nat (m n : Nat) : satS (m : Int) (n : Int) = ((m - n : Nat) : Int) := by unfold satS; split <;> omega
theorem leastV_parts (x : Option (Nat × Bool)) (h : ∀ y, x = some y → y.1 ≤ maxU) : ∃ (m : Nat) (M : Bool), leastV x = .tuple #[.int .u64 (m : Int), .bool M] ∧ m ≤ maxU := by
  cases x with
  | none => exact ⟨0, false, rfl, by simp⟩
  | some y => exact ⟨y.1, y.2, rfl, h y rfl⟩
theorem Rd.nil (w : World) (size : Nat) : Rd w size (.slice none 0 0) 0 [] := ⟨none, 0, rfl, by simp, fun h => absurd h (by simp)⟩
theorem own_big {w : World} {B n size : Nat} {e : TypeId} {v : Value} {xs : List Value} (h : w.ownsRow B e size v n xs) : n ≤ 9223372036854775807 := by
  rcases h.2 with ⟨_, rfl⟩ | ⟨g, cap, cur, rfl, _, _, hn, hc, _⟩
  · omega
  · unfold maxLen at hc; omega
theorem cells2 {w : World} {g : Nat} {x y : Value} {T : TypeId} (h : w.heap[g]? = some (.cells #[x, y] T (0, 0))) : w.cell? ⟨g, 0, none⟩ = some x ∧ w.cell? ⟨g, 1, none⟩ = some y ∧ w.frozen? ⟨g, 0, none⟩ = false ∧ w.frozen? ⟨g, 1, none⟩ = false := by
  simp [World.cell?, World.frozen?, h]
theorem cells3' {w : World} {g : Nat} {x y z : Value} {T : TypeId} (h : w.heap[g]? = some (.cells #[x, y, z] T (0, 0))) : w.cell? ⟨g, 0, none⟩ = some x ∧ w.cell? ⟨g, 1, none⟩ = some y ∧ w.cell? ⟨g, 2, none⟩ = some z := by
  simp [World.cell?, h]
set_option maxRecDepth 100000 in
set_option maxHeartbeats 4000000 in
theorem of_c (w : World) (mi st : Int) (fv : Value) (fs : List Fld) (hn : fs.length ≤ 1000) (hl : ∀ f ∈ fs, f.1.length ≤ 1000000) (hv : Lib.lens (fs.map (·.2)) ≤ 500000) (h : Rd w 2 fv fs.length (fldsV fs)) :
    Calls Try.prog 16 #[.agg #[.int .i64 mi, .int .i64 st, fv]] w fun e w' => e = .returned (freshV (ofL fs)) ∧ Below w.heap.size w w' := by
  obtain ⟨A, c, rfl⟩ := h.slice
  have hbc := joinG_len fs ccW
  have hba := joinG_len fs agW
  have hB0 : Below w.heap.size w ((w.alloc (.cells #[.int .i64 mi, .int .i64 st, .slice A fs.length c] 29)).alloc (.cells #[.bool false, .int .u64 0] 33)) := ((Below.refl _ w).alloc (Nat.le_refl _) _).alloc (by simp) _
  have hg0 : ((w.alloc (.cells #[.int .i64 mi, .int .i64 st, .slice A fs.length c] 29)).alloc (.cells #[.bool false, .int .u64 0] 33)).heap[w.heap.size]? = some (.cells #[.int .i64 mi, .int .i64 st, .slice A fs.length c] 29 (0, 0)) :=
    (Below.heap_alloc _ _ _ (by simp)).trans (heap_alloc_new w _)
  have hr0 : ((w.alloc (.cells #[.int .i64 mi, .int .i64 st, .slice A fs.length c] 29)).alloc (.cells #[.bool false, .int .u64 0] 33)).heap[w.heap.size + 1]? = some (.cells #[.bool false, .int .u64 0] 33 (0, 0)) := by
    have := heap_alloc_new (w.alloc (.cells #[.int .i64 mi, .int .i64 st, .slice A fs.length c] 29)) (.cells #[.bool false, .int .u64 0] 33)
    simpa using this
  have hR0 := h.later hB0
  have HL := Lib.hid hl
  clear h hl
  go_enter Try.func16, Try.ntmps16
  obtain ⟨h0, h1, h2⟩ := cells3' hg0
  go_wp2_with fail
  generalize (w.alloc (.cells #[.int .i64 mi, .int .i64 st, .slice A fs.length c] 29)).alloc (.cells #[.bool false, .int .u64 0] 33) = w0 at *
  refine (get_c _ mi st _ fs ⟨#[99, 97, 99, 104, 101, 45, 99, 111, 110, 116, 114, 111, 108]⟩ (by decide) hn HL.out hv hR0).mono ?_
  rintro e w1 ⟨rfl, hb1⟩
  have hB1 := hB0.trans (hb1.mono hB0.size)
  have hg1 := (hb1.block _ (heap_lt hg0)).trans hg0
  have hr1 := (hb1.block _ (heap_lt hr0)).trans hr0
  have hR1 := hR0.later hb1
  clear h0 h1 h2 hB0 hg0 hr0 hR0 hb1
  generalize hT : decide (0 < (valuesL fs (⟨#[99, 97, 99, 104, 101, 45, 99, 111, 110, 116, 114, 111, 108]⟩ : ByteArray).data.toList).length) = T at *
  have hT : T = decide (0 < (valuesL fs ccW).length) := hT.symm
  have HT := Lib.hid hT
  clear hT
  have hcs : (S (joinG fs (⟨#[99, 97, 99, 104, 101, 45, 99, 111, 110, 116, 114, 111, 108]⟩ : ByteArray).data.toList)).size ≤ 900000 := by rw [S_size]; show (joinG fs ccW).length ≤ _; omega
  have HCS := Lib.hid hcs
  clear hcs
  go_wp2_with fail
  refine (dir_c _ HCS.out _).mono ?_
  rintro e w2 ⟨hD, hb2⟩
  have hB2 := hB1.trans (hb2.mono hB1.size)
  have hg2 := (hb2.block _ (heap_lt hg1)).trans hg1
  have hr2 := (hb2.block _ (heap_lt hr1)).trans hr1
  have hR2 := hR1.later hb2
  obtain ⟨dv, ds, O, he, hdR, hdl, hdn, hdE⟩ : ∃ (dv : Value) (ds : List Fld) (O : Bool), e = .returned (.tuple #[dv, .bool O]) ∧ Rd w2 2 dv ds.length (fldsV ds) ∧ (∀ f ∈ ds, f.2.length ≤ 1000000) ∧ ds.length ≤ 9223372036854775807 ∧
      ((dirF ((joinG fs ccW).length + 1) (joinG fs ccW) = none ∧ O = false) ∨ (dirF ((joinG fs ccW).length + 1) (joinG fs ccW) = some ds ∧ O = true)) := by
    have hsz : (S (joinG fs ccW)).size = (joinG fs ccW).length := S_size _
    rcases hD with ⟨hx, he⟩ | ⟨ds, dv, hx, he, hF⟩
    · exact ⟨_, [], false, he, Rd.nil _ _, (fun f hf => by cases hf), by simp, .inl ⟨by rw [← hsz]; exact hx, rfl⟩⟩
    · have hx' : dirF ((joinG fs ccW).length + 1) (joinG fs ccW) = some ds := by rw [← hsz]; exact hx
      exact ⟨dv, ds, true, he, Rd.of_own hF, (fun f hf => by have := dirF_le _ _ _ hx' f hf; omega), own_big hF, .inr ⟨hx', rfl⟩⟩
  subst he
  obtain ⟨dA, dc, rfl⟩ := hdR.slice
  have HDE := Lib.hid hdE
  have HDR := Lib.hid hdR
  have HDL := Lib.hid hdl
  clear hB1 hg1 hr1 hR1 hb2 hD hdE hdR hdl HCS
  go_wp2_with fail
  refine (least_c _ _ ds HDR.out hdn HDL.out).mono ?_
  rintro e w3 ⟨he, hb3⟩
  have hB3 := hB2.trans (hb3.mono hB2.size)
  have hg3 := (hb3.block _ (heap_lt hg2)).trans hg2
  have hr3 := (hb3.block _ (heap_lt hr2)).trans hr2
  have hR3 := hR2.later hb3
  obtain ⟨m, M, hLV, hm⟩ := leastV_parts (leastF ds maxU false) (fun y hy => least_le _ _ _ _ (Nat.le_refl _) hy)
  rw [hLV] at he
  subst he
  have HOF := Lib.hid (of_eq (M := M) (m := m) HT.out (HDE.out.elim .inl fun h => .inr ⟨ds, h.1, h.2, hLV⟩))
  have HM := Lib.hid hm
  clear hB2 hg2 hr2 hR2 hb3 hLV HDR HDE HDL HT
  obtain ⟨h0, h1, h2⟩ := cells3' hg3
  go_wp2_with fail
  refine (get_c _ mi st _ fs ⟨#[97, 103, 101]⟩ (by decide) hn HL.out hv hR3).mono ?_
  rintro e w4 ⟨rfl, hb4⟩
  have hB4 := hB3.trans (hb4.mono hB3.size)
  have hr4 := (hb4.block _ (heap_lt hr3)).trans hr3
  clear hB3 hg3 hr3 hR3 hb4 h0 h1 h2
  by_cases hag : 0 < (valuesL fs agW).length
  · have hd : decide (0 < (valuesL fs (⟨#[97, 103, 101]⟩ : ByteArray).data.toList).length) = true := decide_eq_true hag
    rw [hd]
    have hA : ageP fs = secP (joinG fs agW) := by unfold ageP; rw [if_pos hag]
    rw [hA] at HOF
    have HAS := Lib.hid (show (S (joinG fs (⟨#[97, 103, 101]⟩ : ByteArray).data.toList)).size ≤ 1000000 from by rw [S_size]; show (joinG fs agW).length ≤ _; omega)
    have HSL := Lib.hid (sec_le (joinG fs agW))
    clear hag hd hA
    go_wp2_with fail
    refine (seconds_c _ HAS.out _).mono ?_
    rintro e w5 ⟨he, rfl⟩
    have he : e = .returned (.tuple #[.int .u64 ((secP (joinG fs agW)).1 : Nat), .bool (secP (joinG fs agW)).2]) := he
    generalize secP (joinG fs agW) = sc at *
    obtain ⟨SP, is⟩ := sc
    subst he
    have hm := HM.out
    have hsp : SP ≤ maxU := HSL.out
    replace HOF : Hid (ofL fs = if T && (O && is) && M then min (m - SP) 86400 else 0) := HOF
    cases O with
    | false =>
      have HSUB := fun W => sub_c (m : Int) (SP : Int) (U_nat hm) (U_nat hsp) W
      rw [satS_nat] at HSUB
      have HSUB := Lib.hid HSUB
      generalize m - SP = d at *
      go_wp2_with fail
      refine (HSUB.out _).mono ?_
      rintro e w6 ⟨rfl, rfl⟩
      obtain ⟨r0, r1, r2, r3⟩ := cells2 hr4
      have hB6 := hB4
      cases T with
      | false =>
        go_wp2_with fail
        refine bodyPost_ret (v := .agg #[.bool false, .int .u64 0]) (by simp [results, Try.results16, go_sem, r0, r1]) rfl ⟨by rw [HOF.out]; rfl, (hB6.setCell (by simp) _).setCell (by simp) _⟩
      | true =>
        go_wp2_with fail
        refine bodyPost_ret (v := .agg #[.bool false, .int .u64 0]) (by simp [results, Try.results16, go_sem, r0, r1]) rfl ⟨by rw [HOF.out]; rfl, (hB6.setCell (by simp) _).setCell (by simp) _⟩
    | true =>
      have HSUB := fun W => sub_c (m : Int) (SP : Int) (U_nat hm) (U_nat hsp) W
      rw [satS_nat] at HSUB
      have HSUB := Lib.hid HSUB
      generalize m - SP = d at *
      go_wp2_with fail
      refine (HSUB.out _).mono ?_
      rintro e w6 ⟨rfl, rfl⟩
      obtain ⟨r0, r1, r2, r3⟩ := cells2 hr4
      have hB6 := hB4
      cases is with
      | false =>
        cases T with
        | false =>
          go_wp2_with fail
          refine bodyPost_ret (v := .agg #[.bool false, .int .u64 0]) (by simp [results, Try.results16, go_sem, r0, r1]) rfl ⟨by rw [HOF.out]; rfl, (hB6.setCell (by simp) _).setCell (by simp) _⟩
        | true =>
          go_wp2_with fail
          refine bodyPost_ret (v := .agg #[.bool false, .int .u64 0]) (by simp [results, Try.results16, go_sem, r0, r1]) rfl ⟨by rw [HOF.out]; rfl, (hB6.setCell (by simp) _).setCell (by simp) _⟩
      | true =>
        cases T with
        | false =>
          go_wp2_with fail
          refine bodyPost_ret (v := .agg #[.bool false, .int .u64 0]) (by simp [results, Try.results16, go_sem, r0, r1]) rfl ⟨by rw [HOF.out]; rfl, (hB6.setCell (by simp) _).setCell (by simp) _⟩
        | true =>
          cases M with
          | false =>
            go_wp2_with fail
            refine bodyPost_ret (v := .agg #[.bool false, .int .u64 0]) (by simp [results, Try.results16, go_sem, r0, r1]) rfl ⟨by rw [HOF.out]; rfl, (hB6.setCell (by simp) _).setCell (by simp) _⟩
          | true =>
            have HOF : Hid (ofL fs = min d 86400) := HOF
            by_cases hz : d = 0
            · subst hz
              have ez : (min ((0 : Nat) : Int) 86400 == 0) = true := by decide
              go_wp2_with fail
              refine bodyPost_ret (v := .agg #[.bool false, .int .u64 0]) (by simp [results, Try.results16, go_sem, r0, r1]) rfl ⟨by rw [HOF.out]; rfl, (hB6.setCell (by simp) _).setCell (by simp) _⟩
            · have ez : (min (d : Int) 86400 == 0) = false := by simp; omega
              have hd : decide (0 < min d 86400) = true := by simp; omega
              have hmin : ((min d 86400 : Nat) : Int) = min (d : Int) 86400 := by omega
              go_wp2_with fail
              refine bodyPost_ret (v := .agg #[.bool true, .int .u64 (min (d : Int) 86400)]) (by simp [results, Try.results16, go_sem, r0, r1]) rfl ⟨by rw [HOF.out]; unfold freshV; rw [hd, hmin], (hB6.setCell (by simp) _).setCell (by simp) _⟩
  · have hd : decide (0 < (valuesL fs (⟨#[97, 103, 101]⟩ : ByteArray).data.toList).length) = false := decide_eq_false hag
    rw [hd]
    have hA : ageP fs = (0, true) := by unfold ageP; rw [if_neg hag]
    rw [hA] at HOF
    clear hag hd hA
    obtain ⟨SP, hSP⟩ : ∃ SP : Nat, SP = 0 := ⟨0, rfl⟩
    have hm := HM.out
    have hsp : SP ≤ maxU := by rw [hSP]; exact Nat.zero_le _
    replace HOF : Hid (ofL fs = if T && (O && true) && M then min (m - SP) 86400 else 0) := by rw [hSP]; exact HOF
    have HSPZ : Hid ((SP : Int) = 0) := Lib.hid (by omega)
    clear hSP
    have HSUB := fun W => sub_c (m : Int) (SP : Int) (U_nat hm) (U_nat hsp) W
    rw [satS_nat, HSPZ.out] at HSUB
    have HSUB := Lib.hid HSUB
    generalize m - SP = d at *
    clear HSPZ hsp
    go_wp2_with fail
    refine (HSUB.out _).mono ?_
    rintro e w6 ⟨rfl, rfl⟩
    obtain ⟨r0, r1, r2, r3⟩ := cells2 hr4
    have hB6 := hB4
    cases O with
    | false =>
      cases T with
      | false =>
        go_wp2_with fail
        refine bodyPost_ret (v := .agg #[.bool false, .int .u64 0]) (by simp [results, Try.results16, go_sem, r0, r1]) rfl ⟨by rw [HOF.out]; rfl, (hB6.setCell (by simp) _).setCell (by simp) _⟩
      | true =>
        go_wp2_with fail
        refine bodyPost_ret (v := .agg #[.bool false, .int .u64 0]) (by simp [results, Try.results16, go_sem, r0, r1]) rfl ⟨by rw [HOF.out]; rfl, (hB6.setCell (by simp) _).setCell (by simp) _⟩
    | true =>
      cases T with
      | false =>
        go_wp2_with fail
        refine bodyPost_ret (v := .agg #[.bool false, .int .u64 0]) (by simp [results, Try.results16, go_sem, r0, r1]) rfl ⟨by rw [HOF.out]; rfl, (hB6.setCell (by simp) _).setCell (by simp) _⟩
      | true =>
        cases M with
        | false =>
          go_wp2_with fail
          refine bodyPost_ret (v := .agg #[.bool false, .int .u64 0]) (by simp [results, Try.results16, go_sem, r0, r1]) rfl ⟨by rw [HOF.out]; rfl, (hB6.setCell (by simp) _).setCell (by simp) _⟩
        | true =>
          have HOF : Hid (ofL fs = min d 86400) := HOF
          by_cases hz : d = 0
          · subst hz
            have ez : (min ((0 : Nat) : Int) 86400 == 0) = true := by decide
            go_wp2_with fail
            refine bodyPost_ret (v := .agg #[.bool false, .int .u64 0]) (by simp [results, Try.results16, go_sem, r0, r1]) rfl ⟨by rw [HOF.out]; rfl, (hB6.setCell (by simp) _).setCell (by simp) _⟩
          · have ez : (min (d : Int) 86400 == 0) = false := by simp; omega
            have hd : decide (0 < min d 86400) = true := by simp; omega
            have hmin : ((min d 86400 : Nat) : Int) = min (d : Int) 86400 := by omega
            go_wp2_with fail
            refine bodyPost_ret (v := .agg #[.bool true, .int .u64 (min (d : Int) 86400)]) (by simp [results, Try.results16, go_sem, r0, r1]) rfl ⟨by rw [HOF.out]; unfold freshV; rw [hd, hmin], (hB6.setCell (by simp) _).setCell (by simp) _⟩
end Go.Proofs.Ytegejmbkpdlekaa
