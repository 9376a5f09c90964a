/- Contract of weblink.Parse. -/
import Derived.Test.YtaopehogpdgkgaaGreatWlLinkW
namespace Go.Proofs.YtaopehogpdgkgaaGreat
open Go.RowKit
section
variable {w w' : World} {B n size : Nat} {e : TypeId} {v : Value} {row : Option Nat} {xs : List Value}
theorem own_slice_n (h : w.ownsRow B e size v n xs) : ∃ A c, v = .slice A n c := by
  rcases h.2 with ⟨rfl, rfl⟩ | ⟨g, cap, cur, rfl, _⟩
  · exact ⟨_, _, rfl⟩
  · exact ⟨_, _, rfl⟩
theorem Links.off {l : List Lnk} (h : Links w B v l) (hg : w.grownBy w' row) (ho : ∀ g, row = some g → g < B) : Links w' B v l := by
  obtain ⟨cs, h1, h2⟩ := h
  exact ⟨cs, own_keep h1 hg fun g hr => .inl (ho g hr), h2.off hg fun g hr => .inl (ho g hr)⟩
theorem Links.base {B' : Nat} {l : List Lnk} (h : Links w B v l) (hB : B' ≤ B) : Links w B' v l := by
  obtain ⟨cs, h1, h2⟩ := h
  refine ⟨cs, own_base h1 hB, ?_⟩
  clear h1
  induction l generalizing cs with
  | nil => exact h2
  | cons x xs ih =>
    obtain ⟨rv, pv, ds, a, b, c, d⟩ := h2
    exact ⟨rv, pv, ds, a, b.base hB, c.base hB, ih ds d⟩
theorem Links.snoc {l : List Lnk} {cs : List Value} {v' rv pv : Value} {x : Lnk} (h1 : w.ownsRow B 59 3 v l.length cs) (h2 : LinksRel w B l cs) (hg : w.grownBy w' v.ownBlock)
    (hown : w'.ownsRow B 59 3 v' (l.length + 1) (cs ++ [.string (S x.1), rv, pv])) (hS : Strs w B rv x.2.1) (hF : Flds w B pv x.2.2) : Links w' B v' (l ++ [x]) := by
  have ho : ∀ g, v.ownBlock = some g → g < B ∨ Off w g := fun g hv => by
    obtain ⟨C, hC⟩ := own_off h1 hv
    exact .inr (off_of hC (by decide) (by decide))
  refine ⟨cs ++ [.string (S x.1), rv, pv], by rw [List.length_append]; exact hown, LinksRel.snoc (hS.off hg ho) (hF.off hg ho) (h2.off hg ho)⟩
end
/-- behind the append of a link -/
theorem wl_app {w W w8 : World} {s : ByteArray} {j : Nat} {o : Obj} {v v' rv pv : Value} {l : List Lnk} {cs : List Value} {x : Lnk} (hc : Cur W w.heap.size s j) (hB : Below w.heap.size w W)
    (h1 : W.ownsRow (w.heap.size + 1) 59 3 v l.length cs) (h2 : LinksRel W (w.heap.size + 1) l cs) (hS : Strs W (w.heap.size + 1) rv x.2.1) (hF : Flds W (w.heap.size + 1) pv x.2.2) (hg : (W.alloc o).grownBy w8 v.ownBlock)
    (hown : w8.ownsRow (w.heap.size + 1) 59 3 v' (l.length + 1) (cs ++ [.string (S x.1), rv, pv])) : Links w8 (w.heap.size + 1) v' (l ++ [x]) ∧ Cur w8 w.heap.size s j ∧ Below w.heap.size w w8 := by
  have ha : W.grownBy (W.alloc o) none := World.grownBy_alloc W o none
  have hn : ∀ g, (none : Option Nat) = some g → g < w.heap.size + 1 ∨ Off W g := fun g hg => by cases hg
  have hv : ∀ k, v.ownBlock = some k → w.heap.size + 1 ≤ k := fun k hk => (World.ownsRow.lt h1 k hk).1
  refine ⟨Links.snoc (h1.alloc o) (h2.off ha hn) hg hown (hS.off ha hn) (hF.off ha hn), ?_, ?_⟩
  · have hc' := hc.alloc o
    exact (hg.block _ hc'.lt (fun e => by have := hv _ e.symm; omega)).trans hc'
  · exact (hB.alloc hB.size o).grown hg (by have := hB.size; simp; omega) (fun k hk => by have := hv k hk; omega)
/-- what Parse answers -/
def WR (w w' : World) (X : Except Nat (List Lnk)) (e : Ending) : Prop :=
  (∃ c : Nat, X = .error c ∧ e = .returned (.tuple #[.slice none 0 0, .int .i64 (c : Int)])) ∨
  ∃ l v, X = .ok l ∧ e = .returned (.tuple #[v, .int .i64 0]) ∧ Links w' w.heap.size v l
def WP (w wr : World) (s : ByteArray) (gf : Nat) (X : Except Nat (List Lnk)) (u4 : Value) : Prop :=
  ∃ (j : Nat) (acc : List Lnk) (n : Nat), j ≤ s.size ∧ s.size ≤ j + gf ∧ acc.length ≤ 64 ∧ s.size < j + n ∧ preE acc (wlF n acc.length (s.data.toList.drop j)) = X ∧
    Cur wr w.heap.size s j ∧ Links wr (w.heap.size + 1) u4 acc ∧ Below w.heap.size w wr
set_option maxRecDepth 100000 in
set_option maxHeartbeats 4000000 in
theorem wlParse_c (s : ByteArray) (hs : s.size ≤ 1000000) (w : World) :
    Calls Tryz.prog 24 #[.string s] w fun e w' => WR w w' (wlF (s.size + 1) 0 s.data.toList) e ∧ Below w.heap.size w w' := by
  generalize hX : wlF (s.size + 1) 0 s.data.toList = X
  have HX0 := Lib.hid hX
  clear hX
  go_enter Tryz.func24, Tryz.ntmps24
  go_wp2_with fail
  go_loopg [4] s.size (fun gf u4 wr => WP w wr s gf X u4)
  case atStart =>
    exact ⟨0, [], s.size + 1, Nat.zero_le _, by omega, by simp, by omega, by rw [preE_nil]; exact HX0.out, heap_alloc_new w _, Links.nil, (Below.refl _ w).alloc (Nat.le_refl _) _⟩
  case round =>
    obtain ⟨j, acc, n, hj, hgf, hal, hjn, hX, hcj, hlk, hB⟩ := hrel
    obtain ⟨uA, uc, rfl⟩ : ∃ A c, u4 = .slice A acc.length c := by obtain ⟨cs, h1, _⟩ := hlk; exact own_slice_n h1
    clear HX0
    have HX := Lib.hid hX
    have HLK := Lib.hid hlk
    have HCJ := Lib.hid hcj
    clear hX hlk hcj
    go_wp2_with fail
    refine (cBlank_c w.heap.size s j hj hs _ HCJ.out).mono ?_
    rintro e w1 ⟨rfl, ⟨j1, a1, a2, a3, hc1⟩, ho1⟩
    have hL1 := HLK.out.off ho1 (fun g hg => by cases hg; exact Nat.lt_succ_self _)
    have hB1 : Below w.heap.size w w1 := hB.trans (ho1.below (Nat.le_refl _) hB.size)
    have HL1 := Lib.hid hL1
    have HC1 := Lib.hid hc1
    have A3 := Lib.hid a3
    clear a3 hc1 hL1 HLK HCJ
    have hlen : (s.data.toList.drop j).length < n := by rw [drop_len]; omega
    by_cases hlt : j1 < s.size
    · have hd : decide (s.size ≤ j1) = false := by simp; omega
      have HD := cDone_c w.heap.size s j1 _ HC1.out
      rw [hd] at HD
      have HD := Lib.hid HD
      go_wp2_with fail
      refine HD.out.mono ?_
      rintro e w2 ⟨rfl, m, rfl⟩
      by_cases h44 : s[j1].toNat = 44
      · have HT := Lib.hid (cTake_b w.heap.size s j1 a2 hs 44 (by omega) (by omega) _ (HC1.out.drewN m) true (decide_eq_true ⟨hlt, by omega⟩).symm)
        have HY := Lib.hid (wl_comma hlen A3.out hlt h44 HX.out)
        clear h44
        go_wp2_with fail
        refine HT.out.mono ?_
        rintro e w3 ⟨rfl, hc3, ho3⟩
        have hc3' : Cur w3 w.heap.size s (j1 + 1) := hc3
        have hL3 := HL1.out.off (row := some w.heap.size) (((Only.refl w.heap.size w1).drewN m).trans ho3) (fun g hg => by cases hg; exact Nat.lt_succ_self _)
        have hB3 : Below w.heap.size w w3 := hB1.trans ((((Only.refl w.heap.size w1).drewN m).trans ho3).below (Nat.le_refl _) hB1.size)
        clear hc3
        go_wp2_with fail
        go_roundg (gk - 1)
        case measure => omega
        case rel => exact ⟨j1 + 1, acc, n - 1, by omega, by omega, hal, by omega, HY.out, hc3', hL3, hB3⟩
      · have HT := Lib.hid (cTake_b w.heap.size s j1 a2 hs 44 (by omega) (by omega) _ (HC1.out.drewN m) false (decide_eq_false (fun ⟨_, h⟩ => h44 (by omega))).symm)
        go_wp2_with fail
        refine HT.out.mono ?_
        rintro e w3 ⟨rfl, hc3, ho3⟩
        have hc3' : Cur w3 w.heap.size s j1 := hc3
        have hL3 := HL1.out.off (row := some w.heap.size) (((Only.refl w.heap.size w1).drewN m).trans ho3) (fun g hg => by cases hg; exact Nat.lt_succ_self _)
        have hB3 : Below w.heap.size w w3 := hB1.trans ((((Only.refl w.heap.size w1).drewN m).trans ho3).below (Nat.le_refl _) hB1.size)
        clear hc3
        by_cases h60 : s[j1].toNat = 60
        · have HT := Lib.hid (cTake_b w.heap.size s j1 a2 hs 60 (by omega) (by omega) _ hc3' true (decide_eq_true ⟨hlt, by omega⟩).symm)
          have H60 := Lib.hid h60
          clear h44 h60
          go_wp2_with fail
          refine HT.out.mono ?_
          rintro e w4 ⟨rfl, hc4, ho4⟩
          have hc4' : Cur w4 w.heap.size s (j1 + 1) := hc4
          have hL4 := hL3.off ho4 (fun g hg => by cases hg; exact Nat.lt_succ_self _)
          have hB4 : Below w.heap.size w w4 := hB3.trans (ho4.below (Nat.le_refl _) hB3.size)
          have HL4 := Lib.hid hL4
          have HC4 := Lib.hid hc4'
          clear hc4 hc4' hL4 hL3 hc3' HT HC1 HL1
          by_cases h64 : 64 ≤ acc.length
          · have HY := Lib.hid (wl_many hlen A3.out hlt H60.out h64 HX.out)
            go_wp2_with fail
            go_ret2
            exact ⟨.inl ⟨161, HY.out, rfl⟩, hB4⟩
          · go_wp2_with fail
            refine (link_c w.heap.size s (j1 + 1) (by omega) hs _ HC4.out).mono ?_
            rintro e w5 ⟨hLR, ⟨j5, b1, b2, hc5, b3⟩, ho5⟩
            have hL5 := HL4.out.off ho5 (fun g hg => by cases hg; exact Nat.lt_succ_self _)
            have hB5 : Below w.heap.size w w5 := hB4.trans (ho5.below (Nat.le_refl _) hB4.size)
            have hsz : w.heap.size < w4.heap.size := HC4.out.lt
            have hsz5 : w4.heap.size ≤ w5.heap.size := ho5.size
            have HL5 := Lib.hid hL5
            have HC5 := Lib.hid hc5
            clear hL5 hc5 HL4 HC4
            rcases hLR with ⟨hx, a, A, n', c, A', n'', c', rfl⟩ | ⟨y, A, n', c, A', n'', c', hx, rfl, hS, hF⟩
            · have HY := Lib.hid (wl_bad hlen A3.out hlt H60.out h64 hx HX.out)
              clear hx b3
              go_wp2_with fail
              go_ret2
              exact ⟨.inl ⟨6, HY.out, rfl⟩, hB5.alloc hB5.size _⟩
            · have hy5 : s.data.toList.drop j5 = y.2 := b3 y.1 y.2 hx
              have hx' : linkL (s.data.toList.drop (j1 + 1)) = some (y.1, s.data.toList.drop j5) := by rw [hx, hy5]
              have HLk := Lib.hid hx'
              have HS := Lib.hid hS
              have HF := Lib.hid hF
              clear hx b3 hy5 hx' hS hF
              have hc6 := HC5.out.alloc (.cells #[.string (S y.1.1), .slice A n' c, .slice A' n'' c'] 59)
              by_cases h5 : j5 < s.size
              · have hd : decide (s.size ≤ j5) = false := by simp; omega
                have HD := cDone_c w.heap.size s j5 _ hc6
                rw [hd] at HD
                have HD := Lib.hid HD
                clear hc6
                go_wp2_with fail
                refine HD.out.mono ?_
                rintro e w6 ⟨rfl, m6, rfl⟩
                go_wp2_with fail
                have hO6 : Only w.heap.size w5 ((w5.alloc (.cells #[.string (S y.1.1), .slice A n' c, .slice A' n'' c'] 59)).drewN m6) := (Only.of_below ((Below.refl _ _).alloc (Nat.le_refl _) _)).drewN m6
                have hg6 : ((w5.alloc (.cells #[.string (S y.1.1), .slice A n' c, .slice A' n'' c'] 59)).drewN m6).heap[w5.heap.size]? = some (.cells #[.string (S y.1.1), .slice A n' c, .slice A' n'' c'] 59 (0, 0)) := heap_alloc_new w5 _
                have hc6 : Cur ((w5.alloc (.cells #[.string (S y.1.1), .slice A n' c, .slice A' n'' c'] 59)).drewN m6) w.heap.size s j5 := (HC5.out.alloc _).drewN m6
                clear HD
                generalize (w5.alloc (.cells #[.string (S y.1.1), .slice A n' c, .slice A' n'' c'] 59)).drewN m6 = W6 at *
                by_cases h54 : s[j5].toNat = 44
                · have HT := Lib.hid (cTake_b w.heap.size s j5 b2 hs 44 (by omega) (by omega) _ hc6 true (decide_eq_true ⟨h5, by omega⟩).symm)
                  have HY := Lib.hid (wl_next hlen A3.out hlt H60.out h64 HLk.out h5 h54 HX.out)
                  clear h54
                  go_wp2_with fail
                  refine HT.out.mono ?_
                  rintro e W7 ⟨rfl, hc7, ho7⟩
                  have hO7 := hO6.trans ho7
                  have hg7 : W7.heap[w5.heap.size]? = some (.cells #[.string (S y.1.1), .slice A n' c, .slice A' n'' c'] 59 (0, 0)) := (ho7.block _ (heap_lt hg6) (by simp; omega)).trans hg6
                  have hc7 : Cur W7 w.heap.size s (j5 + 1) := hc7
                  have hL7 := HL5.out.off hO7 (fun g hg => by cases hg; exact Nat.lt_succ_self _)
                  have hS7 := (HS.out.base (show w.heap.size + 1 ≤ w4.heap.size from hsz)).off hO7 (fun g hg => by cases hg; exact .inl (Nat.lt_succ_self _))
                  have hF7 := (HF.out.base (show w.heap.size + 1 ≤ w4.heap.size from hsz)).off hO7 (fun g hg => by cases hg; exact .inl (Nat.lt_succ_self _))
                  have hB7 := hB5.trans (hO7.below (Nat.le_refl _) hB5.size)
                  obtain ⟨c0, c1, c2, f0, f1, f2⟩ := cells3 hg7
                  obtain ⟨cs, hcs, hrel⟩ := hL7
                  have HR7 := Lib.hid hrel
                  have HS7 := Lib.hid hS7
                  have HF7 := Lib.hid hF7
                  clear hrel hS7 hF7
                  go_wp2_with (at_builtin; refine wpList_append_row infoW rfl (by decide) (by decide) rfl (.tmp 45) (.tmp 47) 36 rfl Tryz.underlying36 (w.heap.size + 1) _ acc.length _ rfl (hcs.alloc _) ⟨W7.heap.size, 0, none⟩ 1 [.string (S y.1.1), .slice A n' c, .slice A' n'' c'] rfl rfl ?c1 ?c2 ?c3 ?c4 ?_)
                  case c1 => exact news_of _ _ _ _ rfl
                  case c2 => intro u hu; simp at hu; rcases hu with rfl | rfl | rfl <;> rfl
                  case c3 => omega
                  case c4 => have := hB7.size; simp; omega
                  intro g cap w8 hown8 hg8
                  obtain ⟨hL8, hc8, hB8⟩ := wl_app (x := y.1) hc7 hB7 hcs HR7.out HS7.out HF7.out hg8 hown8
                  clear hown8 hg8 hcs hc7 hB7 c0 c1 c2 f0 f1 f2
                  go_wp2_with fail
                  go_roundg (gk - 1)
                  case measure => omega
                  case rel => exact ⟨j5 + 1, acc ++ [y.1], n - 1, by omega, by omega, by simp; omega, by omega, HY.out, hc8, hL8, hB8⟩
                · have HT := Lib.hid (cTake_b w.heap.size s j5 b2 hs 44 (by omega) (by omega) _ hc6 false (decide_eq_false (fun ⟨_, h⟩ => h54 (by omega))).symm)
                  have HY := Lib.hid (wl_tail hlen A3.out hlt H60.out h64 HLk.out h5 h54 HX.out)
                  clear h54
                  go_wp2_with fail
                  refine HT.out.mono ?_
                  rintro e W7 ⟨rfl, hc7, ho7⟩
                  have hO7 := hO6.trans ho7
                  go_wp2_with fail
                  go_ret2
                  exact ⟨.inl ⟨6, HY.out, rfl⟩, hB5.trans (hO7.below (Nat.le_refl _) hB5.size)⟩
              · have hd : decide (s.size ≤ j5) = true := by simp; omega
                have HD := cDone_c w.heap.size s j5 _ hc6
                rw [hd] at HD
                have HD := Lib.hid HD
                clear hc6
                go_wp2_with fail
                refine HD.out.mono ?_
                rintro e w6 ⟨rfl, m6, rfl⟩
                have HY := Lib.hid (wl_ok (acc := acc ++ [y.1]) (k := j5) (n := 1) (by omega) h5 (wl_last hlen A3.out hlt H60.out h64 HLk.out h5 HX.out))
                have hO7 : Only w.heap.size w5 ((w5.alloc (.cells #[.string (S y.1.1), .slice A n' c, .slice A' n'' c'] 59)).drewN m6) := (Only.of_below ((Below.refl _ _).alloc (Nat.le_refl _) _)).drewN m6
                have hg7 : ((w5.alloc (.cells #[.string (S y.1.1), .slice A n' c, .slice A' n'' c'] 59)).drewN m6).heap[w5.heap.size]? = some (.cells #[.string (S y.1.1), .slice A n' c, .slice A' n'' c'] 59 (0, 0)) := heap_alloc_new w5 _
                have hc7 : Cur ((w5.alloc (.cells #[.string (S y.1.1), .slice A n' c, .slice A' n'' c'] 59)).drewN m6) w.heap.size s j5 := (HC5.out.alloc _).drewN m6
                clear HD
                generalize (w5.alloc (.cells #[.string (S y.1.1), .slice A n' c, .slice A' n'' c'] 59)).drewN m6 = W7 at *
                have hL7 := HL5.out.off hO7 (fun g hg => by cases hg; exact Nat.lt_succ_self _)
                have hS7 := (HS.out.base (show w.heap.size + 1 ≤ w4.heap.size from hsz)).off hO7 (fun g hg => by cases hg; exact .inl (Nat.lt_succ_self _))
                have hF7 := (HF.out.base (show w.heap.size + 1 ≤ w4.heap.size from hsz)).off hO7 (fun g hg => by cases hg; exact .inl (Nat.lt_succ_self _))
                have hB7 := hB5.trans (hO7.below (Nat.le_refl _) hB5.size)
                obtain ⟨c0, c1, c2, f0, f1, f2⟩ := cells3 hg7
                obtain ⟨cs, hcs, hrel⟩ := hL7
                have HR7 := Lib.hid hrel
                have HS7 := Lib.hid hS7
                have HF7 := Lib.hid hF7
                clear hrel hS7 hF7
                go_wp2_with (at_builtin; refine wpList_append_row infoW rfl (by decide) (by decide) rfl (.tmp 45) (.tmp 47) 36 rfl Tryz.underlying36 (w.heap.size + 1) _ acc.length _ rfl (hcs.alloc _) ⟨W7.heap.size, 0, none⟩ 1 [.string (S y.1.1), .slice A n' c, .slice A' n'' c'] rfl rfl ?c1 ?c2 ?c3 ?c4 ?_)
                case c1 => exact news_of _ _ _ _ rfl
                case c2 => intro u hu; simp at hu; rcases hu with rfl | rfl | rfl <;> rfl
                case c3 => omega
                case c4 => have := hB7.size; simp; omega
                intro g cap w8 hown8 hg8
                obtain ⟨hL8, hc8, hB8⟩ := wl_app (x := y.1) hc7 hB7 hcs HR7.out HS7.out HF7.out hg8 hown8
                clear hown8 hg8 hcs hc7 hB7 c0 c1 c2 f0 f1 f2
                go_wp2_with fail
                go_roundg (gk - 1)
                case measure => omega
                case rel => exact ⟨j5, acc ++ [y.1], 1, b2, by omega, by simp; omega, by omega, HY.out, hc8, hL8, hB8⟩
        · have HT := Lib.hid (cTake_b w.heap.size s j1 a2 hs 60 (by omega) (by omega) _ hc3' false (decide_eq_false (fun ⟨_, h⟩ => h60 (by omega))).symm)
          have HY := Lib.hid (wl_form hlen A3.out hlt h44 h60 HX.out)
          clear h44 h60
          go_wp2_with fail
          refine HT.out.mono ?_
          rintro e w4 ⟨rfl, hc4, ho4⟩
          go_wp2_with fail
          go_ret2
          exact ⟨.inl ⟨6, HY.out, rfl⟩, hB3.trans (ho4.below (Nat.le_refl _) hB3.size)⟩
    · have hd : decide (s.size ≤ j1) = true := by simp; omega
      have HD := cDone_c w.heap.size s j1 _ HC1.out
      rw [hd] at HD
      have HD := Lib.hid HD
      have HY := Lib.hid (wl_end hlen A3.out hlt HX.out)
      go_wp2_with fail
      refine HD.out.mono ?_
      rintro e w2 ⟨rfl, m, rfl⟩
      go_wp2_with fail
      go_ret2
      exact ⟨.inr ⟨acc, _, HY.out, rfl, (HL1.out.off (row := some w.heap.size) ((Only.refl w.heap.size w1).drewN m) (fun g hg => by cases hg; exact Nat.lt_succ_self _)).base (Nat.le_succ _)⟩, hB1.trans (((Only.refl w.heap.size w1).drewN m).below (Nat.le_refl _) hB1.size)⟩
end Go.Proofs.YtaopehogpdgkgaaGreat
