/- Contract of the sanity check of chapter 22: it returns true. -/
import Derived.Test.YtaopehogpdgkgaaGreatWlFind
namespace Go.Proofs.YtaopehogpdgkgaaGreat
open Go.RowKit
def sane22L : List Lnk := [([104, 116, 116, 112, 115, 58, 47, 47, 97, 46, 101, 120, 97, 109, 112, 108, 101, 47, 120], [[108, 114, 100, 100], [111, 116, 104, 101, 114]], [([114, 101, 108], [108, 114, 100, 100, 32, 79, 116, 104, 101, 114]), ([116, 121, 112, 101], [116])]), ([121], [], [])]
theorem sane22_parse : wlF ((S [60, 104, 116, 116, 112, 115, 58, 47, 47, 97, 46, 101, 120, 97, 109, 112, 108, 101, 47, 120, 62, 59, 32, 114, 101, 108, 61, 34, 108, 114, 100, 100, 32, 79, 116, 104, 101, 114, 34, 59, 32, 116, 121, 112, 101, 61, 116, 44, 32, 60, 121, 62]).size + 1) 0 (S [60, 104, 116, 116, 112, 115, 58, 47, 47, 97, 46, 101, 120, 97, 109, 112, 108, 101, 47, 120, 62, 59, 32, 114, 101, 108, 61, 34, 108, 114, 100, 100, 32, 79, 116, 104, 101, 114, 34, 59, 32, 116, 121, 112, 101, 61, 116, 44, 32, 60, 121, 62]).data.toList = .ok sane22L := by kernel_rfl
theorem sane22_find : findV (findW sane22L (S [79, 84, 72, 69, 82]).data.toList) = .tuple #[.string (S [104, 116, 116, 112, 115, 58, 47, 47, 97, 46, 101, 120, 97, 109, 112, 108, 101, 47, 120]), .bool true] := by kernel_rfl
theorem own_cells {w : World} {B n size : Nat} {e : TypeId} {v : Value} {xs : List Value} (h : w.ownsRow B e size v n xs) (hn : 0 < n) : ∃ g cap, v = .slice (some ⟨g, 0, none⟩) n cap ∧ g < w.heap.size ∧ ∀ j u, j < n * size → xs[j]? = some u → w.cell? ⟨g, j, none⟩ = some u := by
  rcases own_form h with ⟨_, h0⟩ | ⟨g, cap, rfl, _, hg⟩
  · omega
  · exact ⟨g, cap, rfl, hg, fun j u hj hu => (World.ownsRow.cellAt h j hj).trans hu⟩
set_option maxRecDepth 100000 in
set_option maxHeartbeats 1000000 in
theorem sane22_c (w : World) : Calls Tryz.prog 18 #[] w fun e w' => e = .returned (.bool true) ∧ Below w.heap.size w w' := by
  go_enter Tryz.func18, Tryz.ntmps18
  go_wp2_with fail
  refine (wlParse_c (S [60, 104, 116, 116, 112, 115, 58, 47, 47, 97, 46, 101, 120, 97, 109, 112, 108, 101, 47, 120, 62, 59, 32, 114, 101, 108, 61, 34, 108, 114, 100, 100, 32, 79, 116, 104, 101, 114, 34, 59, 32, 116, 121, 112, 101, 61, 116, 44, 32, 60, 121, 62]) (by decide) _).mono ?_
  rintro e w1 ⟨hWR, hb1⟩
  rw [sane22_parse] at hWR
  obtain ⟨v, he, hL⟩ : ∃ v, e = .returned (.tuple #[v, .int .i64 0]) ∧ Links w1 w.heap.size v sane22L := by
    rcases hWR with ⟨c, hc, _⟩ | ⟨l, v, hl, he, hL⟩
    · cases hc
    · injection hl with hl; subst hl; exact ⟨v, he, hL⟩
  have hR := RdLinks.of_links hL
  obtain ⟨cs, hO, hr⟩ := hL
  obtain ⟨g, cap, rfl, hg, hc⟩ := own_cells hO (by decide)
  obtain ⟨rv0, pv0, x0, x1, x2, x3, x4⟩ := hr.at_ 0 (by decide)
  obtain ⟨rv1, pv1, y0, y1, y2, y3, y4⟩ := hr.at_ 1 (by decide)
  obtain ⟨g0, cap0, rfl, hg0, hc0⟩ := own_cells x3 (by decide)
  obtain ⟨A1, c1, rfl⟩ := own_slice_n y3
  have e1 := hc _ _ (by decide) x1
  have e4 := hc _ _ (by decide) y1
  have f1 := hc0 1 _ (by decide) rfl
  have HR := Lib.hid hR
  subst he
  clear hR hO hr hc hc0 x0 x1 x2 x3 x4 y0 y1 y2 y3 y4 hWR
  go_wp2_with fail
  refine (wlFind_c _ _ sane22L (S [79, 84, 72, 69, 82]) (by decide) (by unfold fewR; decide +kernel) HR.out).mono ?_
  rintro e w2 ⟨he, hb2⟩
  rw [sane22_find] at he
  subst he
  have e1 := (hb2.cell (p := ⟨g, 0 * 3 + 1, none⟩) hg).trans e1
  have e4 := (hb2.cell (p := ⟨g, 1 * 3 + 1, none⟩) hg).trans e4
  have f1 := (hb2.cell (p := ⟨g0, 1, none⟩) hg0).trans f1
  have s1 : ((S [111, 116, 104, 101, 114]).toList == [111, 116, 104, 101, 114]) = true := by rw [S_beq]; exact decide_eq_true rfl
  have s2 : ((S [104, 116, 116, 112, 115, 58, 47, 47, 97, 46, 101, 120, 97, 109, 112, 108, 101, 47, 120]).toList == [104, 116, 116, 112, 115, 58, 47, 47, 97, 46, 101, 120, 97, 109, 112, 108, 101, 47, 120]) = true := by rw [S_beq]; exact decide_eq_true rfl
  go_wp2_with fail
  go_ret
  exact ⟨rfl, hb1.trans (hb2.mono hb1.size)⟩
end Go.Proofs.YtaopehogpdgkgaaGreat
