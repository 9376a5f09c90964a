/- Contract of webfingerref22.Parse. -/
import Derived.Test.YtaopehogpdgkgaaWlRLinkW
namespace Go.Proofs.Ytaopehogpdgkgaa
open Go.RowKit
/-- behind the append of a link -/
theorem rl_app {w W w8 : World} {o : Obj} {v v' rv pv : Value} {l : List Lnk} {cs : List Value} {x : Lnk} (hB : Below w.heap.size w W)
    (h1 : W.ownsRow w.heap.size 41 3 v l.length cs) (h2 : LinksRel W w.heap.size l cs) (hS : Strs W w.heap.size rv x.2.1) (hF : Flds W w.heap.size pv x.2.2) (hg : (W.alloc o).grownBy w8 v.ownBlock)
    (hown : w8.ownsRow w.heap.size 41 3 v' (l.length + 1) (cs ++ [.string (S x.1), rv, pv])) : Links w8 w.heap.size v' (l ++ [x]) ∧ Below w.heap.size w w8 := by
  have ha : W.grownBy (W.alloc o) none := World.grownBy_alloc W o none
  have hn : ∀ g, (none : Option Nat) = some g → g < w.heap.size ∨ Off W g := fun g hg => by cases hg
  have hv : ∀ k, v.ownBlock = some k → w.heap.size ≤ k := fun k hk => (World.ownsRow.lt h1 k hk).1
  exact ⟨Links.snoc (h1.alloc o) (h2.off ha hn) hg hown (hS.off ha hn) (hF.off ha hn), (hB.alloc hB.size o).grown hg (by have := hB.size; simp; omega) hv⟩
def WRP (w wr : World) (s : ByteArray) (gf : Nat) (X : Except Nat (List Lnk)) (u4 u5 : Value) : Prop :=
  ∃ (j : Nat) (acc : List Lnk) (n : Nat), u5 = .int .i64 (j : Int) ∧ j ≤ s.size ∧ s.size ≤ j + gf ∧ acc.length ≤ 64 ∧ s.size < j + n ∧ preE acc (wlF n acc.length (s.data.toList.drop j)) = X ∧
    Links wr w.heap.size u4 acc ∧ Below w.heap.size w wr
set_option maxRecDepth 100000 in
set_option maxHeartbeats 4000000 in
theorem rwlParse_c (s : ByteArray) (hs : s.size ≤ 1000000) (w : World) :
    Calls Try.prog 8 #[.string s] w fun e w' => WR w w' (wlF (s.size + 1) 0 s.data.toList) e ∧ Below w.heap.size w w' := by
  generalize hX : wlF (s.size + 1) 0 s.data.toList = X
  have HX0 := Lib.hid hX
  clear hX
  go_enter Try.func8, Try.ntmps8
  go_wp2_with fail
  go_loopg [4, 5] s.size (fun gf u4 u5 wr => WRP w wr s gf X u4 u5)
  case atStart =>
    exact ⟨0, [], s.size + 1, rfl, Nat.zero_le _, by omega, by simp, by omega, by rw [preE_nil]; exact HX0.out, Links.nil, Below.refl _ w⟩
  case round =>
    obtain ⟨j, acc, n, rfl, hj, hgf, hal, hjn, hX, hlk, hB⟩ := hrel
    obtain ⟨uA, uc, rfl⟩ : ∃ A c, u4 = .slice A acc.length c := by obtain ⟨cs, h1, _⟩ := hlk; exact own_slice_n h1
    clear HX0
    have HX := Lib.hid hX
    have HLK := Lib.hid hlk
    clear hX hlk
    go_wp2_with fail
    refine (rSkip_c s j hj hs _).mono ?_
    rintro e w1 ⟨⟨j1, a1, a2, a3, rfl⟩, rfl⟩
    have A3 := Lib.hid a3
    clear a3
    have hlen : (s.data.toList.drop j).length < n := by rw [drop_len]; omega
    by_cases hlt : j1 < s.size
    · have ejs : ((j1 : Int) == (s.size : Int)) = false := by simp; omega
      by_cases h60 : s[j1].toNat = 60
      · have e60 : ((s[j1].toNat : Int) == 60) = true := by rw [h60]; rfl
        have H60 := Lib.hid h60
        clear h60
        by_cases h64 : 64 ≤ acc.length
        · have HY := Lib.hid (wl_many hlen A3.out hlt H60.out h64 HX.out)
          go_wp2_with fail
          go_ret2
          exact ⟨.inl ⟨161, HY.out, rfl⟩, hB⟩
        · go_wp2_with fail
          refine (rlink_c s j1 hlt hs _).mono ?_
          rintro e w5 ⟨hLR, hb5⟩
          have hL5 := HLK.out.off (grown_below hb5 none) (fun g hg => by cases hg)
          have hB5 : Below w.heap.size w w5 := hB.trans (hb5.mono hB.size)
          have hsz : w.heap.size ≤ wr.heap.size := hB.size
          rcases hLR with ⟨hx, rfl⟩ | ⟨y, A, n', c, A', n'', c', j5, hx, b1, b2, rfl, hS, hF⟩
          · have HY := Lib.hid (wl_bad hlen A3.out hlt H60.out h64 hx HX.out)
            clear hx
            go_wp2_with fail
            go_ret2
            exact ⟨.inl ⟨6, HY.out, rfl⟩, hB5.alloc hB5.size _⟩
          · have HLk := Lib.hid hx
            have hO7 : w5.grownBy (w5.alloc (.cells #[.string (S y.1), .slice A n' c, .slice A' n'' c'] 41)) none := World.grownBy_alloc _ _ none
            have hg7 : (w5.alloc (.cells #[.string (S y.1), .slice A n' c, .slice A' n'' c'] 41)).heap[w5.heap.size]? = some (.cells #[.string (S y.1), .slice A n' c, .slice A' n'' c'] 41 (0, 0)) := heap_alloc_new w5 _
            have hL7 := hL5.off hO7 (fun g hg => by cases hg)
            have hS7 := (hS.base hsz).off hO7 (fun g hg => by cases hg)
            have hF7 := (hF.base hsz).off hO7 (fun g hg => by cases hg)
            have hB7 := hB5.alloc hB5.size (.cells #[.string (S y.1), .slice A n' c, .slice A' n'' c'] 41)
            obtain ⟨c0, c1, c2, f0, f1, f2⟩ := cells3 hg7
            obtain ⟨cs, hcs, hrel⟩ := hL7
            have HR7 := Lib.hid hrel
            have HS7 := Lib.hid hS7
            have HF7 := Lib.hid hF7
            clear hrel hS7 hF7 hx hL5 hg7 hO7 hS hF hb5
            go_wp2_with (at_builtin; refine wpList_append_row infoW rfl (by decide) (by decide) rfl (.tmp 36) (.tmp 38) 23 rfl Try.underlying23 w.heap.size _ acc.length _ rfl (hcs.alloc _) ⟨w5.heap.size + 1, 0, none⟩ 1 [.string (S y.1), .slice A n' c, .slice A' n'' c'] rfl rfl ?c1 ?c2 ?c3 ?c4 ?_)
            case c1 => rw [show w5.heap.size + 1 = (w5.alloc (.cells #[.string (S y.1), .slice A n' c, .slice A' n'' c'] 41)).heap.size from by simp]; exact news_of _ _ _ _ rfl
            case c2 => intro u hu; simp at hu; rcases hu with rfl | rfl | rfl <;> rfl
            case c3 => omega
            case c4 => have := hB7.size; simp at this ⊢; omega
            intro g cap w8 hown8 hg8
            obtain ⟨hL8, hB8⟩ := rl_app (x := y) hB7 hcs HR7.out HS7.out HF7.out hg8 hown8
            clear hown8 hg8 hcs hB7 c0 c1 c2 f0 f1 f2
            by_cases h5 : j5 < s.size
            · have ejs5 : ((j5 : Int) == (s.size : Int)) = false := by simp; omega
              by_cases h54 : s[j5].toNat = 44
              · have e54 : ((s[j5].toNat : Int) != 44) = false := by rw [h54]; rfl
                have HY := Lib.hid (wl_next hlen A3.out hlt H60.out h64 HLk.out h5 h54 HX.out)
                clear h54
                go_wp2_with fail
                go_roundg (gk - 1)
                case measure => omega
                case rel => exact ⟨j5 + 1, acc ++ [y], n - 1, by go_num, by omega, by omega, by simp; omega, by omega, HY.out, hL8, hB8⟩
              · have e54 : ((s[j5].toNat : Int) != 44) = true := by simp; omega
                have HY := Lib.hid (wl_tail hlen A3.out hlt H60.out h64 HLk.out h5 h54 HX.out)
                clear h54
                go_wp2_with fail
                go_ret2
                exact ⟨.inl ⟨6, HY.out, rfl⟩, hB8⟩
            · obtain rfl : j5 = s.size := by omega
              have ejs5 : ((s.size : Int) == (s.size : Int)) = true := by simp
              have HY := Lib.hid (wl_last hlen A3.out hlt H60.out h64 HLk.out h5 HX.out)
              go_wp2_with fail
              go_ret2
              exact ⟨.inr ⟨acc ++ [y], _, HY.out, rfl, hL8⟩, hB8⟩
      · have e60 : ((s[j1].toNat : Int) == 60) = false := by simp; omega
        by_cases h44 : s[j1].toNat = 44
        · have e44 : ((s[j1].toNat : Int) != 44) = false := by rw [h44]; rfl
          have HY := Lib.hid (wl_comma hlen A3.out hlt h44 HX.out)
          clear h44 h60
          go_wp2_with fail
          go_roundg (gk - 1)
          case measure => omega
          case rel => exact ⟨j1 + 1, acc, n - 1, by go_num, by omega, by omega, hal, by omega, HY.out, HLK.out, hB⟩
        · have e44 : ((s[j1].toNat : Int) != 44) = true := by simp; omega
          have HY := Lib.hid (wl_form hlen A3.out hlt h44 h60 HX.out)
          clear h44 h60
          go_wp2_with fail
          go_ret2
          exact ⟨.inl ⟨6, HY.out, rfl⟩, hB⟩
    · obtain rfl : j1 = s.size := by omega
      have ejs : ((s.size : Int) == (s.size : Int)) = true := by simp
      have HY := Lib.hid (wl_end hlen A3.out hlt HX.out)
      go_wp2_with fail
      go_ret2
      exact ⟨.inr ⟨acc, _, HY.out, rfl, HLK.out⟩, hB⟩
end Go.Proofs.Ytaopehogpdgkgaa
