/- The statement WeblinkBack holds: for every string the law returns true. The walk. -/
import Derived.Test.YtaopehogpdgkgaaGreatRows
import Derived.WalkKit
import Derived.WalkSpells
import Derived.WalkLawsBesides
import Derived.ProofKit
import Derived.OpenShut
import Derived.ShutString
import Derived.ChangeOld
import Derived.Below
import Derived.Test.YtaopehogpdgkgaaGreatWlRes
import Derived.Test.YtaopehogpdgkgaaGreatWlFmt
namespace Go.Proofs.YtaopehogpdgkgaaGreat.weblinkBack
open Go.ChangeShapes Go.WideShapes Go.ChangeAt Go.RowKit
open Go.ChangeMaps (open_string shut_string)
set_option linter.unusedVariables false

theorem own : ownKnob Tryz.prog.godebug = none := by kernel_rfl

theorem wl_err : ∀ (n k : Nat) (l : List UInt8) (c : Nat), wlF n k l = .error c → l.length < n → c ≠ 0
  | 0, _, _, _, _, hn => absurd hn (by simp)
  | n + 1, k, l, c, h, hn => by
    have hb := blank_len l
    rw [wlF] at h
    split at h
    · cases h
    · rename_i d t hc
      rw [hc, List.length_cons] at hb
      split at h
      · exact wl_err n k t c h (by omega)
      · split at h
        · split at h
          · injection h with h; omega
          · split at h
            · injection h with h; omega
            · cases h
            · rename_i x d r hL
              obtain ⟨_, g2⟩ := link_good hL
              simp only [List.length_cons] at g2
              split at h
              · cases hm : wlF n (k + 1) r with
                | ok ys => rw [hm] at h; cases h
                | error e => rw [hm] at h; injection h with h; subst h; exact wl_err n (k + 1) r e hm (by omega)
              · injection h with h; omega
        · injection h with h; omega
theorem wt_mem {l : List Lnk} {x : Lnk} (h : x ∈ l) : wtX x ≤ (l.map wtX).sum := by
  induction l with
  | nil => cases h
  | cons y t ih =>
    simp only [List.map_cons, List.sum_cons]
    rcases List.mem_cons.1 h with rfl | h
    · omega
    · have := ih h; omega
theorem wtP_mem {l : List Fld} {f : Fld} (h : f ∈ l) : f.1.length + f.2.length ≤ wtP l := by
  induction l with
  | nil => cases h
  | cons y t ih =>
    simp only [wtP, List.map_cons, List.sum_cons] at *
    rcases List.mem_cons.1 h with rfl | h
    · omega
    · have := ih h; omega
theorem back_ok {n : Nat} {s : List UInt8} {l : List Lnk} (h : wlF n 0 s = .ok l) (hs : s.length ≤ 1000) : fmtOk l ∧ (fmtWL l).length ≤ 10000 := by
  obtain ⟨_, h2, h3⟩ := wl_good _ _ _ _ h
  have hl : l.length ≤ 64 := by
    rcases h3 with rfl | h3
    · simp
    · omega
  refine ⟨⟨by omega, fun x hx => ?_⟩, by have := fmtWL_len l; omega⟩
  have := wt_mem hx
  have e : wtX x = x.1.length + wtP x.2.2 + x.2.2.length + 1 := rfl
  exact ⟨by omega, by omega, fun f hf => by have := wtP_mem hf; omega⟩

set_option maxRecDepth 100000 in
set_option maxHeartbeats 2000000 in
theorem walk (a0 : ByteArray) (w0 : a0.size ≤ maxLen) (w : World) :
    Calls Tryz.prog 6 #[.string a0] w fun e w' => e = .returned (.bool true) ∧ Below w.heap.size w w' := by
  have hB := Below.refl w.heap.size w
  by_cases h0 : 1000 < a0.size
  · have h0' : 1000 < (a0.size : Int) := by omega
    go_enter Tryz.func6, Tryz.ntmps6
    go_wp2_with fail
    refine (sane22_c _).mono ?_
    rintro e w1 ⟨rfl, hb⟩
    replace hB := hB.trans (hb.mono hB.size)
    clear hb
    go_wp2_with fail
    go_ret
    exact ⟨rfl, hB⟩
  · have h0' : ¬ 1000 < (a0.size : Int) := by omega
    obtain ⟨X, hX⟩ : ∃ X, wlF (a0.size + 1) 0 a0.data.toList = X := ⟨_, rfl⟩
    have hP := wlParse_c a0 (by omega)
    rw [hX] at hP
    have HP := Lib.hid hP
    have HX := Lib.hid hX
    clear hP hX
    cases X with
    | error c =>
      have hne := wl_err _ _ _ _ HX.out (by rw [size_toList]; omega)
      have hne' : ((c : Nat) : Int) ≠ 0 := by omega
      have hneb : (((c : Nat) : Int) == 0) = false := by rw [beq_eq_false_iff_ne]; exact hne'
      clear hne
      go_enter Tryz.func6, Tryz.ntmps6
      go_wp2_with fail
      refine (sane22_c _).mono ?_
      rintro e w1 ⟨rfl, hb⟩
      replace hB := hB.trans (hb.mono hB.size)
      clear hb
      go_wp2_with fail
      refine (HP.out _).mono ?_
      rintro e w2 ⟨hW2, hb2⟩
      have hB2 := hB.trans (hb2.mono hB.size)
      obtain rfl : e = .returned (.tuple #[.slice none 0 0, .int .i64 (c : Int)]) := by
        rcases hW2 with ⟨c', hc, he⟩ | ⟨_, _, hc, _⟩
        · injection hc with hc; subst hc; exact he
        · cases hc
      clear hW2
      go_wp2_with fail
      go_ret
      exact ⟨rfl, hB2⟩
    | ok l =>
      obtain ⟨hok, hln⟩ := back_ok HX.out (by rw [size_toList]; omega)
      have HOK := Lib.hid hok
      have HBK := Lib.hid (links_back HX.out (m := (fmtWL l).length + 1) (by omega))
      have HP2 := Lib.hid (wlParse_c (S (fmtWL l)) (by rw [S_size]; omega))
      clear hok hln
      go_enter Tryz.func6, Tryz.ntmps6
      go_wp2_with fail
      refine (sane22_c _).mono ?_
      rintro e w1 ⟨rfl, hb⟩
      replace hB := hB.trans (hb.mono hB.size)
      clear hb
      go_wp2_with fail
      refine (HP.out _).mono ?_
      rintro e w2 ⟨hW2, hb2⟩
      have hB2 := hB.trans (hb2.mono hB.size)
      obtain ⟨v, rfl, hL⟩ : ∃ v, e = .returned (.tuple #[v, .int .i64 0]) ∧ Links w2 w1.heap.size v l := by
        rcases hW2 with ⟨c', hc, he⟩ | ⟨l', v, hc, he, hL⟩
        · cases hc
        · injection hc with hc; subst hc; exact ⟨v, he, hL⟩
      have HFEW := Lib.hid (few_links hL)
      have hv := RdLinks.of_links hL
      have HV := Lib.hid hv
      obtain ⟨A, cp, rfl⟩ := hv.slice
      clear hW2 hL hb2 hv
      go_wp2_with fail
      refine (wFormat_c _ _ l HOK.out HV.out).mono ?_
      rintro e w3 ⟨rfl, hb3⟩
      have hB3 := hB2.trans (hb3.mono hB2.size)
      have HV3 := Lib.hid (HV.out.later hb3)
      clear hb3 HV hB hB2
      go_wp2_with fail
      refine (HP2.out _).mono ?_
      rintro e w4 ⟨hW4, hb4⟩
      rw [S_list, S_size, HBK.out] at hW4
      have hB4 := hB3.trans (hb4.mono hB3.size)
      have HV4 := Lib.hid (HV3.out.later hb4)
      obtain ⟨v2, rfl, hL⟩ : ∃ v, e = .returned (.tuple #[v, .int .i64 0]) ∧ Links w4 w3.heap.size v l := by
        rcases hW4 with ⟨c', hc, he⟩ | ⟨l', v, hc, he, hL⟩
        · cases hc
        · injection hc with hc; subst hc; exact ⟨v, he, hL⟩
      have hv := RdLinks.of_links hL
      have HV5 := Lib.hid hv
      obtain ⟨A2, cp2, rfl⟩ := hv.slice
      clear hW4 hL hb4 hv HV3 hB3
      go_wp2_with fail
      refine (rWlSame_c _ _ _ l HFEW.out HV4.out HV5.out).mono ?_
      rintro e w5 ⟨rfl, m, rfl⟩
      go_wp2_with fail
      go_ret
      exact ⟨rfl, below_drewN' hB4 m⟩
end Go.Proofs.YtaopehogpdgkgaaGreat.weblinkBack
