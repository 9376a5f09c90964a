/- Contracts of webfingerkeep.Strings and webfingerlaw22.kept. -/
import Derived.Test.YtaopehogpdgkgaaGreatOpenLinks
import Derived.Test.YtaopehogpdgkgaaGreatWlRFmt
import Derived.Test.YtaopehogpdgkgaaGreatWlFind
namespace Go.Proofs.YtaopehogpdgkgaaGreat
open Go.RowKit
def keepS (l : List (List UInt8)) : Bool := decide (l.length ≤ 20) && l.all fun r => decide (r.length ≤ 100)
theorem keepS_hit {l : List (List UInt8)} {k : Nat} (h : k < l.length) (hp : ¬ l[k].length ≤ 100) : keepS l = false := by
  unfold keepS
  have : (l.all fun r => decide (r.length ≤ 100)) = false := by rw [List.all_eq_false]; exact ⟨_, List.getElem_mem h, by simpa using hp⟩
  rw [this, Bool.and_false]
set_option maxRecDepth 100000 in
set_option maxHeartbeats 1000000 in
theorem keepS_c (w : World) (v : Value) (l : List (List UInt8)) (h : Rd w 1 v l.length (strsV l)) :
    Calls Tryz.prog 39 #[v, .int .i64 20, .int .i64 100] w fun e w' => e = .returned (.bool (keepS l)) ∧ w = w' := by
  obtain ⟨A, c1, rfl⟩ := h.slice
  have HR := Lib.hid h
  generalize hK : keepS l = K
  have HKB := Lib.hid hK
  clear h hK
  by_cases h80 : l.length ≤ 20
  · have h80' : ¬ 20 < (l.length : Int) := by omega
    go_enter Tryz.func39, Tryz.ntmps39
    go_wp2_with fail
    go_loopw [15] (fun i wr => ∃ k : Nat, k ≤ l.length ∧ i = .int .i64 (k : Int) ∧ (∀ j (hj : j < l.length), j < k → l[j].length ≤ 100) ∧ w = wr) (fun i _ => l.length - (intOf i).toNat)
    case atStart => exact ⟨0, Nat.zero_le _, rfl, fun j _ h => absurd h (by simp), rfl⟩
    case round =>
      obtain ⟨k, hk, rfl, hall, rfl⟩ := hrel
      have HALL := Lib.hid hall
      clear hall
      by_cases hlt : k < l.length
      · obtain ⟨ad, c2, he, hb1, hc1⟩ := HR.out.at_ (by omega)
        injection he with he _ he2
        subst he
        subst he2
        have x0 := hc1 _ _ (strsV_at l k hlt)
        have z1 : (S l[k]).size = l[k].length := S_size _
        clear hc1 hb1
        by_cases h6 : l[k].length ≤ 100
        · have h6' : ¬ 100 < (l[k].length : Int) := by omega
          go_wp2_with fail
          go_roundw
          case rel => exact ⟨k + 1, by omega, by go_num, fun j hj hjk => by
            by_cases hjk' : j = k
            · subst hjk'; exact h6
            · exact HALL.out j hj (by omega), by trivial⟩
          case measure => simp [intOf]; omega
        · have HN := Lib.hid (HKB.out.symm.trans (keepS_hit hlt h6))
          have h6' : 100 < (l[k].length : Int) := by omega
          go_wp2_with fail
          go_ret
          exact ⟨by rw [HN.out]; rfl, rfl⟩
      · have HN := Lib.hid (HKB.out.symm.trans (show keepS l = true from by
          unfold keepS
          rw [Bool.and_eq_true, decide_eq_true_eq, List.all_eq_true]
          exact ⟨h80, fun f hf => by
            obtain ⟨j, hj, rfl⟩ := List.getElem_of_mem hf
            simpa using HALL.out j hj (by omega)⟩))
        go_wp2_with fail
        go_ret
        exact ⟨by rw [HN.out]; rfl, rfl⟩
  · have HN := Lib.hid (HKB.out.symm.trans (show keepS l = false from by unfold keepS; rw [decide_eq_false h80, Bool.false_and]))
    have h80' : 20 < (l.length : Int) := by omega
    go_enter Tryz.func39, Tryz.ntmps39
    go_wp2_with fail
    go_ret
    exact ⟨by rw [HN.out]; rfl, rfl⟩
def keepX (x : Lnk) : Bool := decide (x.1.length ≤ 300) && keepS x.2.1 && keepB x.2.2
def keptB (l : List Lnk) : Bool := decide (l.length ≤ 70) && l.all keepX
theorem kept_hit {l : List Lnk} {k : Nat} (h : k < l.length) (hp : keepX l[k] = false) : keptB l = false := by
  unfold keptB
  have : l.all keepX = false := by rw [List.all_eq_false]; exact ⟨_, List.getElem_mem h, by rw [hp]; simp⟩
  rw [this, Bool.and_false]
set_option maxRecDepth 100000 in
set_option maxHeartbeats 1000000 in
theorem kept_c (w : World) (v : Value) (l : List Lnk) (hl : ∀ x ∈ l, LnkIn x) (h : RdLinks w v l) :
    Calls Tryz.prog 19 #[v] w fun e w' => e = .returned (.bool (keptB l)) ∧ Below w.heap.size w w' := by
  obtain ⟨A, c, rfl⟩ := h.slice
  have HR := Lib.hid h
  have HL := Lib.hid hl
  generalize hK : keptB l = K
  have HKB := Lib.hid hK
  clear h hl hK
  by_cases h80 : l.length ≤ 70
  · have h80' : ¬ 70 < (l.length : Int) := by omega
    go_enter Tryz.func19, Tryz.ntmps19
    go_wp2_with fail
    go_loopw [10] (fun i wr => ∃ k : Nat, k ≤ l.length ∧ i = .int .i64 (k : Int) ∧ (∀ j (hj : j < l.length), j < k → keepX l[j] = true) ∧ Below w.heap.size w wr) (fun i _ => l.length - (intOf i).toNat)
    case atStart => exact ⟨0, Nat.zero_le _, rfl, fun j _ h => absurd h (by simp), Below.refl _ _⟩
    case round =>
      obtain ⟨k, hk, rfl, hall, hB⟩ := hrel
      have HALL := Lib.hid hall
      clear hall
      by_cases hlt : k < l.length
      · obtain ⟨cs, hr, g⟩ := HR.out.later hB
        obtain ⟨ad, c2, he, hb1, hc⟩ := hr.at_ (by omega)
        injection he with he _ he2
        subst he
        subst he2
        obtain ⟨A1, n1, d1, A', n', d', x0, x1, x2, x3, x4⟩ := lnk_at hc g hlt
        have hli := HL.out _ (List.getElem_mem hlt)
        have HHIT := Lib.hid (fun h => kept_hit (l := l) hlt h)
        have HNX := Lib.hid (show keepX l[k] = true → ∀ j (hj : j < l.length), j < k + 1 → keepX l[j] = true from fun h j hj hjk => by
          by_cases hjk' : j = k
          · subst hjk'; exact h
          · exact HALL.out j hj (by omega))
        obtain ⟨x, hx⟩ : ∃ x, l[k] = x := ⟨_, rfl⟩
        rw [hx] at x0 x3 x4 hli HHIT HNX
        obtain ⟨wo, rfl⟩ : ∃ wo : World, wo = wr := ⟨_, rfl⟩
        have hW : Below wo.heap.size wo (wo.alloc (.cells #[.string (S x.1), .slice A1 n1 d1, .slice A' n' d'] 59)) := (Below.refl _ _).alloc (Nat.le_refl _) _
        have hg : (wo.alloc (.cells #[.string (S x.1), .slice A1 n1 d1, .slice A' n' d'] 59)).heap[wo.heap.size]? = some (.cells #[.string (S x.1), .slice A1 n1 d1, .slice A' n' d'] 59 (0, 0)) := heap_alloc_new wo _
        have hBW := hB.trans (hW.mono hB.size)
        have HX3 := Lib.hid (x3.later hW)
        have HX4 := Lib.hid (x4.later hW)
        have HZ := Lib.hid hli.2.2.2
        have z1 : (S x.1).size = x.1.length := S_size _
        obtain ⟨b0, b1, b2, p0, p1, p2⟩ := cells3 hg
        clear hr g hc hb1 x3 x4 hW hx hg hli
        by_cases h3 : 300 < x.1.length
        · have h3' : 300 < (x.1.length : Int) := by omega
          have HN := Lib.hid (HKB.out.symm.trans (HHIT.out (by unfold keepX; rw [decide_eq_false (by omega)]; rfl)))
          go_wp2_with fail
          go_ret
          exact ⟨by rw [HN.out]; rfl, hBW⟩
        · have h3' : ¬ 300 < (x.1.length : Int) := by omega
          cases hS : keepS x.2.1 with
          | false =>
            have HN := Lib.hid (HKB.out.symm.trans (HHIT.out (by unfold keepX; rw [hS]; simp)))
            have HSS := Lib.hid (hS ▸ keepS_c _ _ x.2.1 HX3.out : Calls Tryz.prog 39 #[.slice A1 n1 d1, .int .i64 20, .int .i64 100] _ fun e w' => e = .returned (.bool false) ∧ _ = w')
            clear hS
            go_wp2_with fail
            refine HSS.out.mono ?_
            rintro e w2 ⟨rfl, rfl⟩
            go_wp2_with fail
            go_ret
            exact ⟨by rw [HN.out]; rfl, hBW⟩
          | true =>
            have HSS := Lib.hid (hS ▸ keepS_c _ _ x.2.1 HX3.out : Calls Tryz.prog 39 #[.slice A1 n1 d1, .int .i64 20, .int .i64 100] _ fun e w' => e = .returned (.bool true) ∧ _ = w')
            cases hP : keepB x.2.2 with
            | false =>
              have HN := Lib.hid (HKB.out.symm.trans (HHIT.out (by unfold keepX; rw [hP, Bool.and_false])))
              have HPP := Lib.hid (hP ▸ keepHead_c _ 0 0 _ x.2.2 HZ.out HX4.out : Calls Tryz.prog 15 #[.agg #[.int .i64 0, .int .i64 0, .slice A' n' d']] (wo.alloc (.cells #[.string (S x.1), .slice A1 n1 d1, .slice A' n' d'] 59)) fun e w' => e = .returned (.bool false) ∧ Below _ _ w')
              clear hS hP
              go_wp2_with fail
              refine HSS.out.mono ?_
              rintro e w2 ⟨rfl, rfl⟩
              go_wp2_with fail
              refine HPP.out.mono ?_
              rintro e w3 ⟨rfl, hb3⟩
              have hB3 := hBW.trans (hb3.mono hBW.size)
              go_wp2_with fail
              go_ret
              exact ⟨by rw [HN.out]; rfl, hB3⟩
            | true =>
              have HN := Lib.hid (HNX.out (by unfold keepX; rw [hP, hS, decide_eq_true (by omega)]; rfl))
              have HPP := Lib.hid (hP ▸ keepHead_c _ 0 0 _ x.2.2 HZ.out HX4.out : Calls Tryz.prog 15 #[.agg #[.int .i64 0, .int .i64 0, .slice A' n' d']] (wo.alloc (.cells #[.string (S x.1), .slice A1 n1 d1, .slice A' n' d'] 59)) fun e w' => e = .returned (.bool true) ∧ Below _ _ w')
              clear hS hP
              go_wp2_with fail
              refine HSS.out.mono ?_
              rintro e w2 ⟨rfl, rfl⟩
              go_wp2_with fail
              refine HPP.out.mono ?_
              rintro e w3 ⟨rfl, hb3⟩
              have hB3 := hBW.trans (hb3.mono hBW.size)
              go_wp2_with fail
              go_roundw
              case rel => exact ⟨k + 1, by omega, by go_num, HN.out, hB3⟩
              case measure => simp [intOf]; omega
      · have HN := Lib.hid (HKB.out.symm.trans (show keptB l = true from by
          unfold keptB
          rw [Bool.and_eq_true, decide_eq_true_eq, List.all_eq_true]
          exact ⟨h80, fun f hf => by
            obtain ⟨j, hj, rfl⟩ := List.getElem_of_mem hf
            exact HALL.out j hj (by omega)⟩))
        go_wp2_with fail
        go_ret
        exact ⟨by rw [HN.out]; rfl, hB⟩
  · have HN := Lib.hid (HKB.out.symm.trans (show keptB l = false from by unfold keptB; rw [decide_eq_false h80, Bool.false_and]))
    have h80' : 70 < (l.length : Int) := by omega
    go_enter Tryz.func19, Tryz.ntmps19
    go_wp2_with fail
    go_ret
    exact ⟨by rw [HN.out]; rfl, Below.refl _ _⟩
theorem keptB_facts {l : List Lnk} (h : keptB l = true) : fmtOk l ∧ fewR l := by
  unfold keptB at h
  rw [Bool.and_eq_true, decide_eq_true_eq, List.all_eq_true] at h
  obtain ⟨h1, h2⟩ := h
  have h3 : ∀ x ∈ l, x.1.length ≤ 300 ∧ (x.2.1.length ≤ 20 ∧ ∀ r ∈ x.2.1, r.length ≤ 100) ∧ x.2.2.length ≤ 80 ∧ ∀ f ∈ x.2.2, f.1.length ≤ 600 ∧ f.2.length ≤ 600 := fun x hx => by
    have := h2 x hx
    unfold keepX keepS at this
    rw [Bool.and_eq_true, Bool.and_eq_true, Bool.and_eq_true, decide_eq_true_eq, decide_eq_true_eq, List.all_eq_true] at this
    obtain ⟨⟨a1, a2, a3⟩, a4⟩ := this
    obtain ⟨b1, b2, _⟩ := keep_facts a4
    exact ⟨a1, ⟨a2, fun r hr => by simpa using a3 r hr⟩, b1, b2⟩
  refine ⟨⟨by omega, fun x hx => ?_⟩, ⟨by omega, fun x hx => ?_⟩⟩
  · obtain ⟨a1, _, a3, a4⟩ := h3 x hx
    exact ⟨by omega, by omega, fun f hf => by have := a4 f hf; omega⟩
  · obtain ⟨_, ⟨a1, a2⟩, _⟩ := h3 x hx
    exact ⟨by omega, fun r hr => by have := a2 r hr; omega⟩
end Go.Proofs.YtaopehogpdgkgaaGreat
