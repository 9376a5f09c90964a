/- Contract of fresh.least. -/
import Derived.Test.YtegejmbkpdlekaaFresh
namespace Go.Proofs.Ytegejmbkpdlekaa
open Go.RowKit
def leastV (x : Option (Nat × Bool)) : Value := match x with | none => .tuple #[.int .u64 0, .bool false] | some y => .tuple #[.int .u64 (y.1 : Nat), .bool y.2]
theorem least_stop {ps : List Fld} {k a : Nat} {b : Bool} (h : k < ps.length) (hw : ps[k].1 = noStoreW ∨ ps[k].1 = noCacheW) : leastF (ps.drop k) a b = none := by
  rw [List.drop_eq_getElem_cons h, leastF, if_pos hw]
theorem least_bad {ps : List Fld} {k a : Nat} {b : Bool} (h : k < ps.length) (hw : ¬ (ps[k].1 = noStoreW ∨ ps[k].1 = noCacheW)) (hm : ps[k].1 = maxAgeW) (hs : (secP ps[k].2).2 = false) : leastF (ps.drop k) a b = none := by
  rw [List.drop_eq_getElem_cons h, leastF, if_neg hw, if_pos hm, if_neg (by simp [hs])]
theorem least_age {ps : List Fld} {k a : Nat} {b : Bool} (h : k < ps.length) (hw : ¬ (ps[k].1 = noStoreW ∨ ps[k].1 = noCacheW)) (hm : ps[k].1 = maxAgeW) (hs : (secP ps[k].2).2 = true) : leastF (ps.drop k) a b = leastF (ps.drop (k + 1)) (min a (secP ps[k].2).1) true := by
  rw [List.drop_eq_getElem_cons h, leastF, if_neg hw, if_pos hm, if_pos hs]
theorem least_skip {ps : List Fld} {k a : Nat} {b : Bool} (h : k < ps.length) (hw : ¬ (ps[k].1 = noStoreW ∨ ps[k].1 = noCacheW)) (hm : ¬ ps[k].1 = maxAgeW) : leastF (ps.drop k) a b = leastF (ps.drop (k + 1)) a b := by
  rw [List.drop_eq_getElem_cons h, leastF, if_neg hw, if_neg hm]
theorem least_end {ps : List Fld} {k a : Nat} {b : Bool} (h : ¬ k < ps.length) : leastF (ps.drop k) a b = some (a, b) := by
  rw [List.drop_of_length_le (by omega)]; rfl
def LP (w wr : World) (ps : List Fld) (R : Option (Nat × Bool)) (u4 u5 u12 : Value) : Prop :=
  ∃ (k a : Nat) (b : Bool), k ≤ ps.length ∧ a ≤ maxU ∧ u12 = .int .i64 (k : Int) ∧ u4 = .int .u64 (a : Int) ∧ u5 = .bool b ∧ leastF (ps.drop k) a b = R ∧ Below w.heap.size w wr
set_option maxRecDepth 100000 in
set_option maxHeartbeats 2000000 in
theorem least_c (w : World) (pv : Value) (ps : List Fld) (h : Rd w 2 pv ps.length (fldsV ps)) (hn : ps.length ≤ 9223372036854775807) (hl : ∀ f ∈ ps, f.2.length ≤ 1000000) :
    Calls Try.prog 43 #[pv] w fun e w' => e = .returned (leastV (leastF ps maxU false)) ∧ Below w.heap.size w w' := by
  generalize hR : leastF ps maxU false = R
  have HR := Lib.hid hR
  clear hR
  by_cases h0 : 0 < ps.length
  · obtain ⟨ad, c1, rfl, hb1, hc1⟩ := h.at_ h0
    have HK := Lib.hid (show ∀ W, Below w.heap.size w W → ∀ j u, (fldsV ps)[j]? = some u → W.cell? (ad.add j) = some u from
      fun W hW j u hu => (hW.cell (p := ad.add j) (by rw [add_block]; exact hb1)).trans (hc1 j u hu))
    have HL := Lib.hid hl
    clear h hc1 hl
    go_enter Try.func43, Try.ntmps43
    go_wp2_with fail
    go_loopw [4, 5, 12] (fun u4 u5 u12 wr => LP w wr ps R u4 u5 u12) (fun _ _ i _ => ps.length - (intOf i).toNat)
    case atStart => exact ⟨0, maxU, false, Nat.zero_le _, Nat.le_refl _, rfl, rfl, rfl, by simpa using HR.out, Below.refl _ _⟩
    case round =>
      obtain ⟨k, a, b, hk, ha, rfl, rfl, rfl, hX, hB⟩ := hrel
      have HX := Lib.hid hX
      have HA := Lib.hid ha
      clear hX HR ha
      by_cases hlt : k < ps.length
      · obtain ⟨x0, x1⟩ := fld_at (HK.out wr hB) hlt
        have hsz : (S ps[k].2).size ≤ 1000000 := by rw [S_size]; exact HL.out _ (List.getElem_mem hlt)
        have HSZ := Lib.hid hsz
        have hB1 := hB.alloc hB.size (.cells #[.string (S ps[k].1), .string (S ps[k].2)] 61)
        clear hsz
        by_cases w1 : ps[k].1 = noStoreW
        · have e1 : ((S ps[k].1).toList == [110, 111, 45, 115, 116, 111, 114, 101]) = true := by rw [S_beq]; exact decide_eq_true w1
          have HY := Lib.hid ((least_stop hlt (.inl w1)).symm.trans HX.out)
          clear w1
          go_wp2_with fail
          go_ret2
          exact ⟨by rw [← HY.out]; rfl, hB1⟩
        · have e1 : ((S ps[k].1).toList == [110, 111, 45, 115, 116, 111, 114, 101]) = false := by rw [S_beq]; exact decide_eq_false w1
          by_cases w2 : ps[k].1 = noCacheW
          · have e2 : ((S ps[k].1).toList == [110, 111, 45, 99, 97, 99, 104, 101]) = true := by rw [S_beq]; exact decide_eq_true w2
            have HY := Lib.hid ((least_stop hlt (.inr w2)).symm.trans HX.out)
            clear w1 w2
            go_wp2_with fail
            go_ret2
            exact ⟨by rw [← HY.out]; rfl, hB1⟩
          · have e2 : ((S ps[k].1).toList == [110, 111, 45, 99, 97, 99, 104, 101]) = false := by rw [S_beq]; exact decide_eq_false w2
            have hw : ¬ (ps[k].1 = noStoreW ∨ ps[k].1 = noCacheW) := fun h => h.elim w1 w2
            by_cases w3 : ps[k].1 = maxAgeW
            · have e3 : ((S ps[k].1).toList == [109, 97, 120, 45, 97, 103, 101]) = true := by rw [S_beq]; exact decide_eq_true w3
              have HBAD := Lib.hid (least_bad (a := a) (b := b) hlt hw w3)
              have HAGE := Lib.hid (least_age (a := a) (b := b) hlt hw w3)
              have HSL := Lib.hid (sec_le ps[k].2)
              clear w1 w2 w3 hw
              go_wp2_with fail
              refine (seconds_c (S ps[k].2) HSZ.out _).mono ?_
              rintro e w2 ⟨he, rfl⟩
              rw [S_list] at he
              generalize hsec : secP ps[k].2 = sc at *
              obtain ⟨n, c⟩ := sc
              subst he
              cases c with
              | false =>
                have HY := Lib.hid ((HBAD.out rfl).symm.trans HX.out)
                clear hsec
                go_wp2_with fail
                go_ret2
                exact ⟨by rw [← HY.out]; rfl, hB1⟩
              | true =>
                have HY := Lib.hid ((HAGE.out rfl).symm.trans HX.out)
                clear hsec
                go_wp2_with fail
                go_roundw
                case rel => exact ⟨k + 1, min a n, true, by omega, by have := HA.out; omega, by go_num, by go_num, rfl, HY.out, hB1⟩
                case measure => simp [intOf]; omega
            · have e3 : ((S ps[k].1).toList == [109, 97, 120, 45, 97, 103, 101]) = false := by rw [S_beq]; exact decide_eq_false w3
              have HY := Lib.hid ((least_skip hlt hw w3).symm.trans HX.out)
              clear w1 w2 w3 hw
              go_wp2_with fail
              go_roundw
              case rel => exact ⟨k + 1, a, b, by omega, HA.out, by go_num, rfl, rfl, HY.out, hB1⟩
              case measure => simp [intOf]; omega
      · have HY := Lib.hid ((least_end hlt).symm.trans HX.out)
        go_wp2_with fail
        go_ret2
        exact ⟨by rw [← HY.out]; rfl, hB⟩
  · obtain ⟨A1, c1, rfl⟩ := h.slice
    have hz : ps = [] := List.eq_nil_of_length_eq_zero (by omega)
    subst hz
    have HY := Lib.hid HR.out.symm
    clear h hn hl HR
    go_enter Try.func43, Try.ntmps43
    go_wp2_with fail
    refine wp_loop_rounds 1 ?_
    rw [rounds_succ]
    go_wp2_with fail
    go_ret2
    exact ⟨by rw [HY.out]; rfl, Below.refl _ _⟩
end Go.Proofs.Ytegejmbkpdlekaa
