/- Contracts of weblink.Find and of the reference's Find. -/
import Derived.Test.YtaopehogpdgkgaaGreatWlSame
namespace Go.Proofs.YtaopehogpdgkgaaGreat
open Go.RowKit
def eqR (rel r : List UInt8) : Bool := lowerL r == lowerL rel
/-- the target of the first link with a relation -/
def findW : List Lnk → List UInt8 → Option (List UInt8)
  | [], _ => none
  | x :: t, rel => if x.2.1.any (eqR rel) then some x.1 else findW t rel
def findV (x : Option (List UInt8)) : Value := match x with | none => .tuple #[.string ⟨#[]⟩, .bool false] | some t => .tuple #[.string (S t), .bool true]
def fewR (l : List Lnk) : Prop := l.length ≤ 1000000 ∧ ∀ x ∈ l, x.2.1.length ≤ 1000000 ∧ ∀ r ∈ x.2.1, r.length ≤ 1000000
theorem any_hit {l : List (List UInt8)} {q : Nat} {p : List UInt8 → Bool} (h : q < l.length) (hp : p l[q] = true) : l.any p = true := List.any_eq_true.2 ⟨_, List.getElem_mem h, hp⟩
theorem any_miss {l : List (List UInt8)} {q : Nat} {p : List UInt8 → Bool} (h : q < l.length) (hp : p l[q] = false) : (l.drop q).any p = (l.drop (q + 1)).any p := by
  rw [List.drop_eq_getElem_cons h, List.any_cons, hp, Bool.false_or]
theorem find_hit {l : List Lnk} {k : Nat} {rel : List UInt8} (h : k < l.length) (hp : l[k].2.1.any (eqR rel) = true) : findW (l.drop k) rel = some l[k].1 := by
  rw [List.drop_eq_getElem_cons h, findW, if_pos hp]
theorem find_miss {l : List Lnk} {k : Nat} {rel : List UInt8} (h : k < l.length) (hp : l[k].2.1.any (eqR rel) = false) : findW (l.drop k) rel = findW (l.drop (k + 1)) rel := by
  rw [List.drop_eq_getElem_cons h, findW, if_neg (by simp [hp])]
set_option maxRecDepth 100000 in
set_option maxHeartbeats 2000000 in
theorem wlFind_c (w : World) (v : Value) (l : List Lnk) (rel : ByteArray) (hr : rel.size ≤ 1000000) (hn : fewR l) (h : RdLinks w v l) :
    Calls Tryz.prog 20 #[v, .string rel] w fun e w' => e = .returned (findV (findW l rel.data.toList)) ∧ Below w.heap.size w w' := by
  obtain ⟨cs, h1, g1⟩ := h
  obtain ⟨hn, hf⟩ := hn
  by_cases h0 : 0 < l.length
  · obtain ⟨ad, c1, rfl, hb1, hc1⟩ := h1.at_ h0
    have HK := Lib.hid (show ∀ W, Below w.heap.size w W → (∀ j u, cs[j]? = some u → W.cell? (ad.add j) = some u) ∧ RdRel W l cs from
      fun W hW => ⟨fun j u hu => (hW.cell (p := ad.add j) (by rw [add_block]; exact hb1)).trans (hc1 j u hu), g1.later hW⟩)
    have HF := Lib.hid hf
    generalize hR : findW l rel.data.toList = R
    have HR := Lib.hid hR
    clear h1 hc1 g1 hf hR
    go_enter Tryz.func20, Tryz.ntmps20
    go_wp2_with fail
    go_loopw [12] (fun i wr => ∃ k : Nat, k ≤ l.length ∧ i = .int .i64 (k : Int) ∧ findW (l.drop k) rel.data.toList = R ∧ Below w.heap.size w wr) (fun i _ => l.length - (intOf i).toNat)
    case atStart => exact ⟨0, Nat.zero_le _, rfl, by simpa using HR.out, Below.refl _ _⟩
    case round =>
      obtain ⟨k, hk, rfl, hX, hB⟩ := hrel
      have HX := Lib.hid hX
      clear hX
      by_cases hlt : k < l.length
      · obtain ⟨hc, g⟩ := HK.out wr hB
        obtain ⟨A, n, d, A', n', d', x0, x1, x2, x3, x4⟩ := lnk_at hc g hlt
        obtain ⟨hl1, hl2⟩ := HF.out _ (List.getElem_mem hlt)
        have hnn : n = l[k].2.1.length := by obtain ⟨A2, c2, he⟩ := x3.slice; injection he
        subst hnn
        have HL2 := Lib.hid hl2
        obtain ⟨wo, rfl⟩ : ∃ wo : World, wo = wr := ⟨_, rfl⟩
        have hW : Below wo.heap.size wo (wo.alloc (.cells #[.string (S l[k].1), .slice A l[k].2.1.length d, .slice A' n' d'] 59)) := (Below.refl _ _).alloc (Nat.le_refl _) _
        have hg : (wo.alloc (.cells #[.string (S l[k].1), .slice A l[k].2.1.length d, .slice A' n' d'] 59)).heap[wo.heap.size]? = some (.cells #[.string (S l[k].1), .slice A l[k].2.1.length d, .slice A' n' d'] 59 (0, 0)) := heap_alloc_new wo _
        have hx3 := x3.later hW
        have HG := Lib.hid hg
        have HX3 := Lib.hid hx3
        have HW := Lib.hid hW
        clear hc g x3 x4 hl2 hg hx3 hW
        go_wp2_with fail
        generalize wo.alloc (.cells #[.string (S l[k].1), .slice A l[k].2.1.length d, .slice A' n' d'] 59) = W0 at *
        clear x0 x1 x2
        go_loopw [19] (fun i wr => ∃ q : Nat, q ≤ l[k].2.1.length ∧ i = .int .i64 (q : Int) ∧ (l[k].2.1.drop q).any (eqR rel.data.toList) = l[k].2.1.any (eqR rel.data.toList) ∧ Below W0.heap.size W0 wr) (fun i _ => l[k].2.1.length - (intOf i).toNat)
        case atStart => exact ⟨0, Nat.zero_le _, rfl, rfl, Below.refl _ _⟩
        case round =>
          obtain ⟨q, hq, rfl, hY, hBq⟩ := hrel
          have HY := Lib.hid hY
          clear hY
          have hgq := (hBq.block wo.heap.size (heap_lt HG.out)).trans HG.out
          obtain ⟨b0, b1, b2, p0, p1, p2⟩ := cells3 hgq
          have hBw : Below w.heap.size w wr := (hB.trans (HW.out.mono hB.size)).trans (hBq.mono (by have := HW.out.size; have := hB.size; omega))
          by_cases hql : q < l[k].2.1.length
          · obtain ⟨a3, c3, he3, hb3, hc3⟩ := (HX3.out.later hBq).at_ (by omega)
            injection he3 with he3 _ he4
            subst he3
            subst he4
            have hcq := hc3 _ _ (strsV_at l[k].2.1 q hql)
            have hsz : (S (l[k].2.1[q])).size ≤ 1000000 := by rw [S_size]; exact HL2.out _ (List.getElem_mem hql)
            have HSZ := Lib.hid hsz
            clear hc3 hb3 hsz
            go_wp2_with fail
            refine (equal_c (S l[k].2.1[q]) rel (Nat.le_trans HSZ.out (by decide)) (Nat.le_trans hr (by decide)) _).mono ?_
            rintro e w2 ⟨he, hb2⟩
            have hgq2 := (hb2.block wo.heap.size (heap_lt hgq)).trans hgq
            clear b0 b1 b2 p0 p1 p2
            obtain ⟨b0, b1, b2, p0, p1, p2⟩ := cells3 hgq2
            cases hE : eqR rel.data.toList l[k].2.1[q] with
            | true =>
              obtain rfl : e = .returned (.bool true) := by rw [he, ← hE]; rfl
              have HN := Lib.hid (find_hit hlt (any_hit hql hE))
              clear he hE
              go_wp2_with fail
              go_ret2
              exact ⟨by rw [← HX.out, HN.out]; rfl, hBw.trans (hb2.mono hBw.size)⟩
            | false =>
              obtain rfl : e = .returned (.bool false) := by rw [he, ← hE]; rfl
              have HN := Lib.hid ((any_miss hql hE).symm.trans HY.out)
              clear he hE
              go_wp2_with fail
              go_roundw
              case rel => exact ⟨q + 1, by omega, by go_num, HN.out, hBq.trans (hb2.mono hBq.size)⟩
              case measure => simp [intOf]; omega
          · have HN := Lib.hid (find_miss hlt (HY.out.symm.trans (by rw [List.drop_of_length_le (by omega)]; rfl)))
            go_wp2_with fail
            go_roundw
            case rel => exact ⟨k + 1, by omega, by go_num, by rw [← HN.out]; exact HX.out, hBw⟩
            case measure => simp [intOf]; omega
      · have hR : R = none := by rw [← HX.out, List.drop_of_length_le (by omega)]; rfl
        have HRN := Lib.hid hR
        clear hR
        go_wp2_with fail
        go_ret2
        exact ⟨by rw [HRN.out]; rfl, hB⟩
  · obtain ⟨A1, c1, rfl⟩ := h1.slice
    have hz : l = [] := List.eq_nil_of_length_eq_zero (by omega)
    subst hz
    clear h1 hn hf g1
    go_enter Tryz.func20, Tryz.ntmps20
    go_wp2_with fail
    refine wp_loop_rounds 1 ?_
    rw [rounds_succ]
    go_wp2_with fail
    go_ret2
    exact ⟨rfl, Below.refl _ _⟩
set_option maxRecDepth 100000 in
set_option maxHeartbeats 2000000 in
theorem rwlFind_c (w : World) (v : Value) (l : List Lnk) (rel : ByteArray) (hr : rel.size ≤ 1000000) (hn : fewR l) (h : RdLinks w v l) :
    Calls Tryz.prog 21 #[v, .string rel] w fun e w' => e = .returned (findV (findW l rel.data.toList)) ∧ Below w.heap.size w w' := by
  obtain ⟨cs, h1, g1⟩ := h
  obtain ⟨hn, hf⟩ := hn
  by_cases h0 : 0 < l.length
  · obtain ⟨ad, c1, rfl, hb1, hc1⟩ := h1.at_ h0
    have HK := Lib.hid (show ∀ W, Below w.heap.size w W → (∀ j u, cs[j]? = some u → W.cell? (ad.add j) = some u) ∧ RdRel W l cs from
      fun W hW => ⟨fun j u hu => (hW.cell (p := ad.add j) (by rw [add_block]; exact hb1)).trans (hc1 j u hu), g1.later hW⟩)
    have HF := Lib.hid hf
    generalize hR : findW l rel.data.toList = R
    have HR := Lib.hid hR
    clear h1 hc1 g1 hf hR
    go_enter Tryz.func21, Tryz.ntmps21
    go_wp2_with fail
    go_loopw [12] (fun i wr => ∃ k : Nat, k ≤ l.length ∧ i = .int .i64 (k : Int) ∧ findW (l.drop k) rel.data.toList = R ∧ Below w.heap.size w wr) (fun i _ => l.length - (intOf i).toNat)
    case atStart => exact ⟨0, Nat.zero_le _, rfl, by simpa using HR.out, Below.refl _ _⟩
    case round =>
      obtain ⟨k, hk, rfl, hX, hB⟩ := hrel
      have HX := Lib.hid hX
      clear hX
      by_cases hlt : k < l.length
      · obtain ⟨hc, g⟩ := HK.out wr hB
        obtain ⟨A, n, d, A', n', d', x0, x1, x2, x3, x4⟩ := lnk_at hc g hlt
        obtain ⟨hl1, hl2⟩ := HF.out _ (List.getElem_mem hlt)
        have hnn : n = l[k].2.1.length := by obtain ⟨A2, c2, he⟩ := x3.slice; injection he
        subst hnn
        have HL2 := Lib.hid hl2
        obtain ⟨wo, rfl⟩ : ∃ wo : World, wo = wr := ⟨_, rfl⟩
        have hW : Below wo.heap.size wo (wo.alloc (.cells #[.string (S l[k].1), .slice A l[k].2.1.length d, .slice A' n' d'] 59)) := (Below.refl _ _).alloc (Nat.le_refl _) _
        have hg : (wo.alloc (.cells #[.string (S l[k].1), .slice A l[k].2.1.length d, .slice A' n' d'] 59)).heap[wo.heap.size]? = some (.cells #[.string (S l[k].1), .slice A l[k].2.1.length d, .slice A' n' d'] 59 (0, 0)) := heap_alloc_new wo _
        have hx3 := x3.later hW
        have HG := Lib.hid hg
        have HX3 := Lib.hid hx3
        have HW := Lib.hid hW
        clear hc g x3 x4 hl2 hg hx3 hW
        go_wp2_with fail
        generalize wo.alloc (.cells #[.string (S l[k].1), .slice A l[k].2.1.length d, .slice A' n' d'] 59) = W0 at *
        clear x0 x1 x2
        go_loopw [19] (fun i wr => ∃ q : Nat, q ≤ l[k].2.1.length ∧ i = .int .i64 (q : Int) ∧ (l[k].2.1.drop q).any (eqR rel.data.toList) = l[k].2.1.any (eqR rel.data.toList) ∧ Below W0.heap.size W0 wr) (fun i _ => l[k].2.1.length - (intOf i).toNat)
        case atStart => exact ⟨0, Nat.zero_le _, rfl, rfl, Below.refl _ _⟩
        case round =>
          obtain ⟨q, hq, rfl, hY, hBq⟩ := hrel
          have HY := Lib.hid hY
          clear hY
          have hgq := (hBq.block wo.heap.size (heap_lt HG.out)).trans HG.out
          obtain ⟨b0, b1, b2, p0, p1, p2⟩ := cells3 hgq
          have hBw : Below w.heap.size w wr := (hB.trans (HW.out.mono hB.size)).trans (hBq.mono (by have := HW.out.size; have := hB.size; omega))
          by_cases hql : q < l[k].2.1.length
          · obtain ⟨a3, c3, he3, hb3, hc3⟩ := (HX3.out.later hBq).at_ (by omega)
            injection he3 with he3 _ he4
            subst he3
            subst he4
            have hcq := hc3 _ _ (strsV_at l[k].2.1 q hql)
            have hsz : (S (l[k].2.1[q])).size ≤ 1000000 := by rw [S_size]; exact HL2.out _ (List.getElem_mem hql)
            have HSZ := Lib.hid hsz
            clear hc3 hb3 hsz
            go_wp2_with fail
            refine (rEqual_c (S l[k].2.1[q]) rel (Nat.le_trans HSZ.out (by decide)) (Nat.le_trans hr (by decide)) _).mono ?_
            rintro e w2 ⟨he, hb2⟩
            have hgq2 := (hb2.block wo.heap.size (heap_lt hgq)).trans hgq
            clear b0 b1 b2 p0 p1 p2
            obtain ⟨b0, b1, b2, p0, p1, p2⟩ := cells3 hgq2
            cases hE : eqR rel.data.toList l[k].2.1[q] with
            | true =>
              obtain rfl : e = .returned (.bool true) := by rw [he, ← hE]; rfl
              have HN := Lib.hid (find_hit hlt (any_hit hql hE))
              clear he hE
              go_wp2_with fail
              go_ret2
              exact ⟨by rw [← HX.out, HN.out]; rfl, hBw.trans (hb2.mono hBw.size)⟩
            | false =>
              obtain rfl : e = .returned (.bool false) := by rw [he, ← hE]; rfl
              have HN := Lib.hid ((any_miss hql hE).symm.trans HY.out)
              clear he hE
              go_wp2_with fail
              go_roundw
              case rel => exact ⟨q + 1, by omega, by go_num, HN.out, hBq.trans (hb2.mono hBq.size)⟩
              case measure => simp [intOf]; omega
          · have HN := Lib.hid (find_miss hlt (HY.out.symm.trans (by rw [List.drop_of_length_le (by omega)]; rfl)))
            go_wp2_with fail
            go_roundw
            case rel => exact ⟨k + 1, by omega, by go_num, by rw [← HN.out]; exact HX.out, hBw⟩
            case measure => simp [intOf]; omega
      · have hR : R = none := by rw [← HX.out, List.drop_of_length_le (by omega)]; rfl
        have HRN := Lib.hid hR
        clear hR
        go_wp2_with fail
        go_ret2
        exact ⟨by rw [HRN.out]; rfl, hB⟩
  · obtain ⟨A1, c1, rfl⟩ := h1.slice
    have hz : l = [] := List.eq_nil_of_length_eq_zero (by omega)
    subst hz
    clear h1 hn hf g1
    go_enter Tryz.func21, Tryz.ntmps21
    go_wp2_with fail
    refine wp_loop_rounds 1 ?_
    rw [rounds_succ]
    go_wp2_with fail
    go_ret2
    exact ⟨rfl, Below.refl _ _⟩
end Go.Proofs.YtaopehogpdgkgaaGreat
