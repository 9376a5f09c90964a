/- Contract of weblink.rels. -/
import Derived.Test.YtaopehogpdgkgaaGreatShelfFF
namespace Go.Proofs.YtaopehogpdgkgaaGreat
open Go.RowKit
theorem rels_hit {ps : List Fld} {k : Nat} (hk : k < ps.length) (h : ps[k].1 = relW) : relsL (ps.drop k) = wordsL (lowerL ps[k].2) := by
  rw [List.drop_eq_getElem_cons hk, relsL, if_pos h]
theorem rels_miss {ps : List Fld} {k : Nat} (hk : k < ps.length) (h : ¬ ps[k].1 = relW) : relsL (ps.drop k) = relsL (ps.drop (k + 1)) := by
  rw [List.drop_eq_getElem_cons hk, relsL, if_neg h]
theorem rels_end {ps : List Fld} {k : Nat} (hk : ¬ k < ps.length) : relsL (ps.drop k) = [] := by
  rw [List.drop_of_length_le (by omega)]; rfl
set_option maxRecDepth 100000 in
set_option maxHeartbeats 1000000 in
theorem rels_c (w : World) (B : Nat) (pv : Value) (ps : List Fld) (hF : Flds w B pv ps) (hn : ps.length ≤ 1000000) (hl : ∀ f ∈ ps, f.2.length ≤ 1000000) :
    Calls Tryz.prog 62 #[pv] w fun e w' => (∃ rv, e = .returned rv ∧ Strs w' w.heap.size rv (relsL ps)) ∧ Below w.heap.size w w' := by
  have HN : ∀ W : World, (∃ rv, Ending.returned (.slice none 0 0) = .returned rv ∧ Strs W w.heap.size rv []) := fun W => ⟨_, rfl, Strs.nil⟩
  rcases own_form hF with ⟨rfl, h0⟩ | ⟨g, cap, rfl, hBg, hgw⟩
  · have : ps = [] := List.eq_nil_of_length_eq_zero h0
    subst this
    clear hF hl h0
    go_enter Tryz.func62, Tryz.ntmps62
    go_wp2_with fail
    refine wp_loop_rounds 1 ?_
    rw [rounds_succ]
    go_wp2_with fail
    go_ret
    exact ⟨HN _, Below.refl _ _⟩
  · have HR := Lib.hid (rfl : relsL ps = relsL ps)
    generalize hR : relsL ps = R at *
    go_enter Tryz.func62, Tryz.ntmps62
    go_wp2_with fail
    go_loopw [7] (fun i wr => ∃ k : Nat, k ≤ ps.length ∧ i = .int .i64 (k : Int) ∧ relsL (ps.drop k) = R ∧ Below w.heap.size w wr) (fun i _ => ps.length - (intOf i).toNat)
    case atStart => exact ⟨0, Nat.zero_le _, rfl, by simpa using hR, Below.refl _ _⟩
    case round =>
      obtain ⟨k, hk, rfl, hD, hB⟩ := hrel
      have HD := Lib.hid hD
      have HRR := Lib.hid hR
      clear hD hR
      by_cases hlt : k < ps.length
      · have hFr : Flds wr B (.slice (some ⟨g, 0, none⟩) ps.length cap) ps := World.ownsRow.kept hF (row := none) ⟨hB.os, hB.tape, hB.output, hB.size, fun j hj _ => hB.block j hj⟩ (.inr (by simp [Value.ownBlock]))
        have c0 : wr.cell? ⟨g, k * 2, none⟩ = some (.string (S ps[k].1)) := (World.ownsRow.cellAt hFr (k * 2) (by omega)).trans (fldsV_at ps k hlt).1
        have c1 : wr.cell? ⟨g, k * 2 + 1, none⟩ = some (.string (S ps[k].2)) := (World.ownsRow.cellAt hFr (k * 2 + 1) (by omega)).trans (fldsV_at ps k hlt).2
        have hlk : (S ps[k].2).size ≤ 1000000 := by rw [S_size]; exact hl _ (List.getElem_mem hlt)
        have HLK := Lib.hid hlk
        have hlow : (S (lowerL (S ps[k].2).data.toList)).size ≤ 1000000 := by rw [S_size, lowerL_len]; rw [S_size] at hlk; exact hlk
        have HLOW := Lib.hid hlow
        clear hlk hlow hFr
        by_cases hc : ps[k].1 = relW
        · have hE : ((S ps[k].1).toList == [114, 101, 108]) = true := by rw [S_beq]; exact decide_eq_true hc
          have HX := Lib.hid ((rels_hit hlt hc).symm.trans HD.out)
          clear hc
          go_wp2_with fail
          refine (lower_c (S ps[k].2) (Nat.le_trans HLK.out (by decide)) _).mono ?_
          rintro e w1 ⟨rfl, hb1⟩
          go_wp2_with fail
          refine (fieldsFunc_c _ HLOW.out _).mono ?_
          rintro e w2 ⟨⟨rv, rfl, hs⟩, hb2⟩
          go_wp2_with fail
          go_ret
          have hB1 := (hB.alloc hB.size (.cells #[.string (S ps[k].1), .string (S ps[k].2)] 52)).trans (hb1.mono (by simp; have := hB.size; omega))
          exact ⟨⟨_, rfl, by rw [← HX.out]; exact hs.base hB1.size⟩, hB1.trans (hb2.mono hB1.size)⟩
        · have hE : ((S ps[k].1).toList == [114, 101, 108]) = false := by rw [S_beq]; exact decide_eq_false hc
          have HX := Lib.hid ((rels_miss hlt hc).symm.trans HD.out)
          clear hc
          go_wp2_with fail
          go_roundw
          case rel => exact ⟨k + 1, by omega, by go_num, HX.out, hB.alloc hB.size _⟩
          case measure => simp [intOf]; omega
      · have HX := Lib.hid ((rels_end hlt).symm.trans HD.out)
        go_wp2_with fail
        go_ret
        exact ⟨by rw [← HX.out]; exact HN _, hB⟩
end Go.Proofs.YtaopehogpdgkgaaGreat
