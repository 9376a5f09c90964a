/- Contracts of the reference's readers of header values: Quoted, Value (webfingerref20). -/
import Derived.Test.YtaopehogpdgkgaaGreatMref
namespace Go.Proofs.YtaopehogpdgkgaaGreat
open Go.RowKit
theorem conv_byte (x : UInt8) (w : World) : (convert 67 9 (.slice (some ⟨w.heap.size, 0, none⟩) 1 1)).run Tryz.prog (w.alloc (.cells #[.int .u8 (x.toNat : Int)] 5)) = .ok (.string (S [x])) (w.alloc (.cells #[.int .u8 (x.toNat : Int)] 5)) := by
  refine run_convert_bytes_back (P := Tryz.prog) _ 67 9 5 _ 1 [x] Tryz.underlying67 Tryz.underlying5 Tryz.underlying9 fun j hj => ?_
  have e : (⟨w.heap.size, 0, none⟩ : Addr).add j = ⟨w.heap.size, j, none⟩ := by unfold Addr.add; split <;> simp_all
  rw [e, cell_of_row _ _ j _ _ _ (heap_alloc_new w _)]
  have : j = 0 := by simp at hj; omega
  subst this; rfl
theorem cat_SS (a b : List UInt8) : S a ++ S b = S (a ++ b) := by
  apply ByteArray.ext; apply Array.toList_inj.1; simp [S]
theorem rd_none {s : ByteArray} {k : Nat} {x : Option (List UInt8 × List UInt8)} (h : x = none) : RD s k x (.returned (.tuple #[.string ⟨#[]⟩, .int .i64 0, .bool false])) := .inl ⟨h, rfl⟩
theorem rd_some {s : ByteArray} {k j : Nat} {x : Option (List UInt8 × List UInt8)} {v : List UInt8} (h : x = some (v, s.data.toList.drop j)) (h1 : k < j) (h2 : j ≤ s.size) : RD s k x (.returned (.tuple #[.string (S v), .int .i64 (j : Int), .bool true])) := .inr ⟨v, _, j, h, h1, h2, rfl, rfl⟩
set_option maxRecDepth 100000 in
set_option maxHeartbeats 1000000 in
theorem rQuoted_c (s : ByteArray) (k : Nat) (hk : k ≤ s.size) (hs : s.size ≤ 1000000) (w : World) :
    Calls Tryz.prog 68 #[.string s, .int .i64 (k : Int)] w fun e w' => RD s k (quoted (s.data.toList.drop k)) e ∧ Below w.heap.size w w' := by
  by_cases hlt : k < s.size
  · by_cases x34 : s[k].toNat = 34
    · have e34 : ((s[k].toNat : Int) != 34) = false := by rw [x34]; rfl
      have HQ := Lib.hid (quoted_open hlt (by omega))
      have hd0 : decide (s.size ≤ k) = false := by simp; omega
      clear x34
      go_enter Tryz.func68, Tryz.ntmps68
      go_wp2_with fail
      go_loopg [7, 8] (s.size - k) (fun gf v i wr => ∃ (j : Nat) (acc : List UInt8), k < j ∧ j ≤ s.size ∧ s.size ≤ j + gf ∧ acc.length ≤ j ∧ v = .string (S acc) ∧ i = .int .i64 (j : Int) ∧ (S acc).size ≤ j ∧ pre2 acc (quoL (s.data.toList.drop j)) = quoted (s.data.toList.drop k) ∧ Below w.heap.size w wr)
      case atStart => exact ⟨k + 1, [], by omega, by omega, by omega, Nat.zero_le _, rfl, rfl, Nat.zero_le _, by rw [pre2_nil]; exact HQ.out.symm, Below.refl _ _⟩
      case round =>
        obtain ⟨j, acc, hkj, hj, hgf, hacc, rfl, rfl, hsz, hJ, hB⟩ := hrel
        have HJ := Lib.hid hJ
        have HA := Lib.hid hacc
        clear hJ hacc
        by_cases hlt2 : j < s.size
        · have hb := byte_lt s[j]
          by_cases y34 : s[j].toNat = 34
          · have f34 : ((s[j].toNat : Int) == 34) = true := by rw [y34]; rfl
            have HX := Lib.hid (quo_close hlt2 y34 HJ.out)
            clear y34
            go_wp2_with fail
            go_ret3
            exact ⟨rd_some (j := j + 1) HX.out (by omega) (by omega), hB⟩
          · have f34 : ((s[j].toNat : Int) == 34) = false := by simp; omega
            by_cases y92 : s[j].toNat = 92
            · have f92 : ((s[j].toNat : Int) == 92) = true := by rw [y92]; rfl
              by_cases hlt3 : j + 1 < s.size
              · have hb2 := byte_lt s[j + 1]
                have hix := ix_at (s := s) (i := (j : Int) + 1) (k := j + 1) (by omega) hlt3
                have hne : ((j : Int) + 1 == (s.size : Int)) = false := by simp; omega
                by_cases hv : inVN s[j + 1].toNat = true
                · have HX := Lib.hid (quo_back hlt2 y92 hlt3 hv HJ.out)
                  have hcv := conv_byte s[j + 1]
                  have hcat := cat_SS acc [s[j + 1]]
                  have hl1 : (S [s[j + 1]]).size ≤ 1 := by rw [S_size]; exact Nat.le_refl _
                  clear y34 y92
                  go_wp2_with (go_at_call 81; refine (rPrintable_c _ (by omega) (by omega) _).mono ?_; rintro e w' ⟨rfl, rfl⟩)
                  go_roundg (gk - 1)
                  case measure => omega
                  case rel => exact ⟨j + 1 + 1, acc ++ [s[j + 1]], by omega, by omega, by omega, by have := HA.out; simp; omega, rfl, by go_num, by have := HA.out; rw [S_size]; simp; omega, HX.out, hB.alloc hB.size _⟩
                · have hv' : inVN s[j + 1].toNat = false := by simpa using hv
                  have HX := Lib.hid (quo_backbad hlt2 y92 hlt3 hv' HJ.out)
                  clear y34 y92 hv
                  go_wp2_with (go_at_call 81; refine (rPrintable_c _ (by omega) (by omega) _).mono ?_; rintro e w' ⟨rfl, rfl⟩)
                  go_ret3
                  exact ⟨rd_none HX.out, hB⟩
              · have HX := Lib.hid (quo_backend hlt2 y92 hlt3 HJ.out)
                have hne : ((j : Int) + 1 == (s.size : Int)) = true := by simp; omega
                clear y34 y92
                go_wp2_with fail
                go_ret3
                exact ⟨rd_none HX.out, hB⟩
            · have f92 : ((s[j].toNat : Int) == 92) = false := by simp; omega
              by_cases hv : inVN s[j].toNat = true
              · have HX := Lib.hid (quo_step hlt2 y34 y92 hv HJ.out)
                have hcv := conv_byte s[j]
                have hcat := cat_SS acc [s[j]]
                have hl1 : (S [s[j]]).size ≤ 1 := by rw [S_size]; exact Nat.le_refl _
                clear y34 y92
                go_wp2_with (go_at_call 81; refine (rPrintable_c _ (by omega) (by omega) _).mono ?_; rintro e w' ⟨rfl, rfl⟩)
                go_roundg (gk - 1)
                case measure => omega
                case rel => exact ⟨j + 1, acc ++ [s[j]], by omega, by omega, by omega, by have := HA.out; simp; omega, rfl, by go_num, by have := HA.out; rw [S_size]; simp; omega, HX.out, hB.alloc hB.size _⟩
              · have hv' : inVN s[j].toNat = false := by simpa using hv
                have HX := Lib.hid (quo_bad hlt2 y34 y92 hv' HJ.out)
                clear y34 y92 hv
                go_wp2_with (go_at_call 81; refine (rPrintable_c _ (by omega) (by omega) _).mono ?_; rintro e w' ⟨rfl, rfl⟩)
                go_ret3
                exact ⟨rd_none HX.out, hB⟩
        · have HX := Lib.hid (quo_end hlt2 HJ.out)
          go_wp2_with fail
          go_ret3
          exact ⟨rd_none HX.out, hB⟩
    · have e34 : ((s[k].toNat : Int) != 34) = true := by rw [bne_iff_ne]; omega
      have HQ := Lib.hid (quoted_not (s := s) (j := k) (fun _ => by omega))
      clear x34
      go_enter Tryz.func68, Tryz.ntmps68
      go_wp2_with fail
      go_ret3
      exact ⟨rd_none HQ.out, Below.refl _ _⟩
  · have HQ := Lib.hid (quoted_not (s := s) (j := k) (fun h => absurd h hlt))
    go_enter Tryz.func68, Tryz.ntmps68
    go_wp2_with fail
    go_ret3
    exact ⟨rd_none HQ.out, Below.refl _ _⟩
set_option maxHeartbeats 1000000 in
theorem rValue_c (s : ByteArray) (k : Nat) (hk : k ≤ s.size) (hs : s.size ≤ 1000000) (w : World) :
    Calls Tryz.prog 52 #[.string s, .int .i64 (k : Int)] w fun e w' => RD s k (valueL (s.data.toList.drop k)) e ∧ Below w.heap.size w w' := by
  have tok : valueL (s.data.toList.drop k) = tokO (s.data.toList.drop k) → ∀ w1, Calls Tryz.prog 49 #[.string s, .int .i64 (k : Int)] w1 fun e w' => RD s k (valueL (s.data.toList.drop k)) e ∧ w1 = w' := fun h w1 => by
    rw [h]; exact rToken_c s k hk hs w1
  by_cases hlt : k < s.size
  · by_cases x34 : s[k].toNat = 34
    · have e34 : ((s[k].toNat : Int) == 34) = true := by rw [x34]; rfl
      have HX := Lib.hid (valueL_quo hlt x34)
      clear x34 tok
      go_enter Tryz.func52, Tryz.ntmps52
      go_wp2_with fail
      refine (rQuoted_c s k hk hs _).mono ?_
      rintro e w' ⟨h | ⟨v, r, k', h1, h2, h3, h4, h5⟩, hb⟩
      · obtain ⟨h1, rfl⟩ := h
        have H1 := Lib.hid h1
        clear h1
        go_wp2_with fail
        go_ret3
        exact ⟨rd_none (HX.out.trans H1.out), hb⟩
      · subst h5
        subst h4
        have H1 := Lib.hid h1
        clear h1
        go_wp2_with fail
        go_ret3
        exact ⟨rd_some (HX.out.trans H1.out) h2 h3, hb⟩
    · have e34 : ((s[k].toNat : Int) == 34) = false := by simp; omega
      have HT := Lib.hid (tok (valueL_tok hlt x34))
      clear x34 tok
      go_enter Tryz.func52, Tryz.ntmps52
      go_wp2_with fail
      refine (HT.out _).mono ?_
      rintro e w' ⟨h | ⟨v, r, k', h1, h2, h3, h4, h5⟩, rfl⟩
      · obtain ⟨h1, rfl⟩ := h
        have H1 := Lib.hid h1
        clear h1
        go_wp2_with fail
        go_ret3
        exact ⟨rd_none H1.out, Below.refl _ _⟩
      · subst h5
        subst h4
        have H1 := Lib.hid h1
        clear h1
        go_wp2_with fail
        go_ret3
        exact ⟨rd_some H1.out h2 h3, Below.refl _ _⟩
  · have HT := Lib.hid (tok (valueL_end hlt))
    clear tok
    go_enter Tryz.func52, Tryz.ntmps52
    go_wp2_with fail
    refine (HT.out _).mono ?_
    rintro e w' ⟨h | ⟨v, r, k', h1, h2, h3, h4, h5⟩, rfl⟩
    · obtain ⟨h1, rfl⟩ := h
      have H1 := Lib.hid h1
      clear h1
      go_wp2_with fail
      go_ret3
      exact ⟨rd_none H1.out, Below.refl _ _⟩
    · subst h5
      subst h4
      have H1 := Lib.hid h1
      clear h1
      go_wp2_with fail
      go_ret3
      exact ⟨rd_some H1.out h2 h3, Below.refl _ _⟩
end Go.Proofs.YtaopehogpdgkgaaGreat
