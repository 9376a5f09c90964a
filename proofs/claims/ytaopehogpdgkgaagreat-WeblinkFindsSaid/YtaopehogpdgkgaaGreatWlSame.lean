/- Contracts of webfingerref22.Same and weblink.Find. -/
import Derived.Test.YtaopehogpdgkgaaGreatRd
import Derived.Test.YtaopehogpdgkgaaGreatWlRParse
namespace Go.Proofs.YtaopehogpdgkgaaGreat
open Go.RowKit
def RdRel (w : World) : List Lnk → List Value → Prop
  | [], cs => cs = []
  | x :: xs, cs => ∃ rv pv ds, cs = .string (S x.1) :: rv :: pv :: ds ∧ Rd w 1 rv x.2.1.length (strsV x.2.1) ∧ Rd w 2 pv x.2.2.length (fldsV x.2.2) ∧ RdRel w xs ds
/-- v reads as a list of links -/
def RdLinks (w : World) (v : Value) (l : List Lnk) : Prop := ∃ cs, Rd w 3 v l.length cs ∧ RdRel w l cs
section
variable {w w' : World} {B : Nat} {v : Value}
theorem RdRel.of_links : ∀ {l : List Lnk} {cs : List Value}, LinksRel w B l cs → RdRel w l cs
  | [], _, h => h
  | _ :: _, _, ⟨rv, pv, ds, h1, h2, h3, h4⟩ => ⟨rv, pv, ds, h1, Rd.of_own h2, Rd.of_own h3, RdRel.of_links h4⟩
theorem RdLinks.of_links {l : List Lnk} (h : Links w B v l) : RdLinks w v l := by
  obtain ⟨cs, h1, h2⟩ := h
  exact ⟨cs, Rd.of_own h1, RdRel.of_links h2⟩
theorem RdRel.later (hb : Below w.heap.size w w') : ∀ {l : List Lnk} {cs : List Value}, RdRel w l cs → RdRel w' l cs
  | [], _, h => h
  | _ :: _, _, ⟨rv, pv, ds, h1, h2, h3, h4⟩ => ⟨rv, pv, ds, h1, h2.later hb, h3.later hb, RdRel.later hb h4⟩
theorem RdLinks.later {l : List Lnk} (h : RdLinks w v l) (hb : Below w.heap.size w w') : RdLinks w' v l := by
  obtain ⟨cs, h1, h2⟩ := h
  exact ⟨cs, h1.later hb, RdRel.later hb h2⟩
theorem RdRel.at_ : ∀ {l : List Lnk} {cs : List Value} (i : Nat) (hi : i < l.length), RdRel w l cs →
    ∃ rv pv, cs[i * 3]? = some (.string (S l[i].1)) ∧ cs[i * 3 + 1]? = some rv ∧ cs[i * 3 + 2]? = some pv ∧ Rd w 1 rv l[i].2.1.length (strsV l[i].2.1) ∧ Rd w 2 pv l[i].2.2.length (fldsV l[i].2.2)
  | [], _, i, hi, _ => absurd hi (by simp)
  | _ :: _, _, 0, _, ⟨rv, pv, ds, h1, h2, h3, _⟩ => by subst h1; exact ⟨rv, pv, rfl, rfl, rfl, h2, h3⟩
  | _ :: _, _, i + 1, hi, ⟨rv', pv', ds, h1, _, _, h4⟩ => by
    subst h1
    obtain ⟨rv, pv, a, b, c, d, f⟩ := RdRel.at_ i (by simpa using hi) h4
    refine ⟨rv, pv, ?_, ?_, ?_, d, f⟩
    · rw [show (i + 1) * 3 = i * 3 + 1 + 1 + 1 by omega]; simpa using a
    · rw [show (i + 1) * 3 + 1 = i * 3 + 1 + 1 + 1 + 1 by omega]; simpa using b
    · rw [show (i + 1) * 3 + 2 = i * 3 + 2 + 1 + 1 + 1 by omega]; simpa using c
theorem lnk_at {l : List Lnk} {cs : List Value} {ad : Addr} {k : Nat} (hc : ∀ j u, cs[j]? = some u → w.cell? (ad.add j) = some u) (hr : RdRel w l cs) (hk : k < l.length) :
    ∃ A n c A' n' c', w.cell? (ad.add (k * 3)) = some (.string (S l[k].1)) ∧ w.cell? ⟨(ad.add (k * 3)).block, (ad.add (k * 3)).off + 1, none⟩ = some (.slice A n c) ∧ w.cell? ⟨(ad.add (k * 3)).block, (ad.add (k * 3)).off + 2, none⟩ = some (.slice A' n' c') ∧
      Rd w 1 (.slice A n c) l[k].2.1.length (strsV l[k].2.1) ∧ Rd w 2 (.slice A' n' c') l[k].2.2.length (fldsV l[k].2.2) := by
  obtain ⟨rv, pv, h0, h1, h2, h3, h4⟩ := hr.at_ k hk
  obtain ⟨A, c, rfl⟩ := h3.slice
  obtain ⟨A', c', rfl⟩ := h4.slice
  exact ⟨_, _, _, _, _, _, hc _ _ h0, by rw [add_lit _ _ _ (by decide)]; exact hc _ _ h1, by rw [add_lit _ _ _ (by decide)]; exact hc _ _ h2, h3, h4⟩
end
def few (l : List Lnk) : Prop := l.length ≤ 9223372036854775807 ∧ ∀ x ∈ l, x.2.1.length ≤ 9223372036854775807 ∧ x.2.2.length ≤ 9223372036854775807
theorem own_few {w : World} {B n size : Nat} {e : TypeId} {v : Value} {xs : List Value} (h : w.ownsRow B e size v n xs) : n ≤ 9223372036854775807 := by
  rcases h.2 with ⟨_, rfl⟩ | ⟨g, cap, cur, rfl, _, _, hn, hc, _⟩
  · omega
  · unfold maxLen at hc; omega
theorem few_rel {w : World} {B : Nat} : ∀ {l : List Lnk} {cs : List Value}, LinksRel w B l cs → ∀ x ∈ l, x.2.1.length ≤ 9223372036854775807 ∧ x.2.2.length ≤ 9223372036854775807
  | [], _, _, x, hx => by cases hx
  | y :: _, _, ⟨_, _, _, _, h2, h3, h4⟩, x, hx => by
    rcases List.mem_cons.1 hx with rfl | hx
    · exact ⟨own_few h2, own_few h3⟩
    · exact few_rel h4 x hx
theorem few_links {w : World} {B : Nat} {v : Value} {l : List Lnk} (h : Links w B v l) : few l := by
  obtain ⟨cs, h1, h2⟩ := h
  exact ⟨own_few h1, few_rel h2⟩
theorem RdLinks.nil (w : World) : RdLinks w (.slice none 0 0) [] := ⟨[], ⟨none, 0, rfl, rfl, fun h => absurd h (by simp)⟩, rfl⟩
theorem RdLinks.slice {w : World} {v : Value} {l : List Lnk} (h : RdLinks w v l) : ∃ A c, v = .slice A l.length c := by obtain ⟨cs, h, _⟩ := h; exact h.slice
set_option maxRecDepth 100000 in
set_option maxHeartbeats 2000000 in
theorem rWlSame_c (w : World) (v1 v2 : Value) (l : List Lnk) (hn : few l) (h1 : RdLinks w v1 l) (h2 : RdLinks w v2 l) :
    Calls Tryz.prog 25 #[v1, v2] w fun e w' => e = .returned (.bool true) ∧ ∃ m, w' = w.drewN m := by
  obtain ⟨cs1, h1, g1⟩ := h1
  obtain ⟨cs2, h2, g2⟩ := h2
  obtain ⟨hn, hf⟩ := hn
  by_cases h0 : 0 < l.length
  · obtain ⟨a1, c1, rfl, hb1, hc1⟩ := h1.at_ h0
    obtain ⟨a2, c2, rfl, hb2, hc2⟩ := h2.at_ h0
    have HK := Lib.hid (show ∀ k (hk : k < l.length) W, (∃ m, W = w.drewN m) → (∀ j u, cs1[j]? = some u → W.cell? (a1.add j) = some u) ∧ (∀ j u, cs2[j]? = some u → W.cell? (a2.add j) = some u) ∧ RdRel W l cs1 ∧ RdRel W l cs2 from
      fun k hk W ⟨m, hW⟩ => by subst hW; exact ⟨hc1, hc2, g1.later (below_drewN' (Below.refl _ _) m), g2.later (below_drewN' (Below.refl _ _) m)⟩)
    have HF := Lib.hid hf
    clear h1 h2 hc1 hc2 g1 g2 hf
    go_enter Tryz.func25, Tryz.ntmps25
    go_wp2_with fail
    go_loopw [13] (fun i wr => ∃ k : Nat, k ≤ l.length ∧ i = .int .i64 (k : Int) ∧ ∃ m, wr = w.drewN m) (fun i _ => l.length - (intOf i).toNat)
    case atStart => exact ⟨0, Nat.zero_le _, rfl, 0, rfl⟩
    case round =>
      obtain ⟨k, hk, rfl, hw⟩ := hrel
      have HW := Lib.hid hw
      clear hw
      by_cases hlt : k < l.length
      · obtain ⟨hc1, hc2, g1, g2⟩ := HK.out k hlt wr HW.out
        obtain ⟨A1, n1, d1, A1', n1', d1', x0, x1, x2, x3, x4⟩ := lnk_at hc1 g1 hlt
        obtain ⟨A2, n2, d2, A2', n2', d2', y0, y1, y2, y3, y4⟩ := lnk_at hc2 g2 hlt
        obtain ⟨hl1, hl2⟩ := HF.out _ (List.getElem_mem hlt)
        have HS := Lib.hid (fun n => rSame_c (wr.drewN n) (.slice A1 n1 d1) (.slice A2 n2 d2) l[k].2.1 hl1 (x3.drewN n) (y3.drewN n))
        have HT := Lib.hid (fun n => rSameFields_c (wr.drewN n) (.slice A1' n1' d1') (.slice A2' n2' d2') l[k].2.2 hl2 (x4.drewN n) (y4.drewN n))
        clear hc1 hc2 g1 g2 x3 x4 y3 y4 hl1 hl2
        go_wp2_with fail
        go_quiet (first | (go_at_call 44; exact q_done (HS.out _)) | (go_at_call 34; exact q_done (HT.out _)))
        go_wp2_with fail
        go_roundw
        case rel => exact ⟨k + 1, by omega, by go_num, by obtain ⟨m, rfl⟩ := HW.out; exact ⟨_, World.drewN_drewN _ _ _⟩⟩
        case measure => simp [intOf]; omega
      · go_wp2_with fail
        go_ret
        exact ⟨rfl, HW.out⟩
  · obtain ⟨A1, c1, rfl⟩ := h1.slice
    obtain ⟨A2, c2, rfl⟩ := h2.slice
    have hz : l = [] := List.eq_nil_of_length_eq_zero (by omega)
    subst hz
    clear h1 h2 hn hf g1 g2
    go_enter Tryz.func25, Tryz.ntmps25
    go_wp2_with fail
    refine wp_loop_rounds 1 ?_
    rw [rounds_succ]
    go_wp2_with fail
    go_ret
    exact ⟨rfl, 0, rfl⟩
end Go.Proofs.YtaopehogpdgkgaaGreat
