/- A parameter of a link: plain, and the contract of weblink.parameter. -/
import Derived.Test.YtaopehogpdgkgaaGreatTarget
namespace Go.Proofs.YtaopehogpdgkgaaGreat
open Go.RowKit
abbrev Fld := List UInt8 × List UInt8
/-- a parameter: name and value, and the rest -/
def paramL (l : List UInt8) : Option (Fld × List UInt8) :=
  if (tokL l).isEmpty then none else
  match blankL (tokR l) with
  | [] => some ((lowerL (tokL l), []), [])
  | c :: t => if c.toNat = 61 then (valueL (blankL t)).map fun x => ((lowerL (tokL l), x.1), x.2) else some ((lowerL (tokL l), []), c :: t)
def fldV (f : Fld) : Value := .agg #[.string (S f.1), .string (S f.2)]
/-- what parameter answers -/
def PR (x : Option (Fld × List UInt8)) (e : Ending) : Prop :=
  (x = none ∧ ∃ n, e = .returned (.tuple #[.agg #[.string n, .string ⟨#[]⟩], .bool false])) ∨ ∃ y, x = some y ∧ e = .returned (.tuple #[fldV y.1, .bool true])
/-- behind a reader that answers something with a rest -/
def AtRestF {α : Type} (w' : World) (b : Nat) (s : ByteArray) (k : Nat) (x : Option (α × List UInt8)) : Prop := ∃ k', k ≤ k' ∧ k' ≤ s.size ∧ Cur w' b s k' ∧ ∀ v r, x = some (v, r) → s.data.toList.drop k' = r
theorem fld_cells {w : World} {g : Nat} {n v : Value} (h : w.heap[g]? = some (.cells #[n, v] 52 (0, 0))) : w.cell? ⟨g, 0, none⟩ = some n ∧ w.cell? ⟨g, 1, none⟩ = some v ∧ w.frozen? ⟨g, 0, none⟩ = false ∧ w.frozen? ⟨g, 1, none⟩ = false := by
  simp [World.cell?, World.frozen?, h]
theorem Only.setNew {b : Nat} {w wr : World} (h : Only b w wr) {a : Addr} (ha : w.heap.size ≤ a.block) (u : Value) : Only b w (wr.setCell a u) :=
  ⟨h.os, h.tape, h.output, Nat.le_trans h.size (by simp), fun k hk hne => (Below.heap_setCell wr a u k (by omega)).trans (h.block k hk hne)⟩
theorem Cur.setNe {b k : Nat} {s : ByteArray} {w : World} (h : Cur w b s k) {a : Addr} (ha : b ≠ a.block) (u : Value) : Cur (w.setCell a u) b s k := (Below.heap_setCell w a u b ha).trans h
theorem par_none {l : List UInt8} (h : tokL l = []) : paramL l = none := by unfold paramL; rw [h]; rfl
theorem par_plain {s : ByteArray} {l : List UInt8} {k : Nat} (ht : (tokL l).isEmpty = false) (hk : s.data.toList.drop k = blankL (tokR l)) (hn : ∀ h : k < s.size, (s[k].toNat : Int) ≠ 61) : paramL l = some ((lowerL (tokL l), []), s.data.toList.drop k) := by
  unfold paramL
  rw [if_neg (by simp [ht]), ← hk]
  by_cases h : k < s.size
  · rw [drop_cons s k h]; simp only; rw [if_neg (by have := hn h; omega)]
  · rw [drop_end s k h]
theorem par_val {s : ByteArray} {l : List UInt8} {k : Nat} (ht : (tokL l).isEmpty = false) (hk : s.data.toList.drop k = blankL (tokR l)) (h : k < s.size) (hn : (s[k].toNat : Int) = 61) : paramL l = (valueL (blankL (s.data.toList.drop (k + 1)))).map fun x => ((lowerL (tokL l), x.1), x.2) := by
  unfold paramL
  rw [if_neg (by simp [ht]), ← hk, drop_cons s k h]; simp only; rw [if_pos (by omega)]
set_option maxRecDepth 100000 in
set_option maxHeartbeats 2000000 in
theorem param_c (b : Nat) (s : ByteArray) (k : Nat) (hk : k ≤ s.size) (hs : s.size ≤ 1000000) (w : World) (hc : Cur w b s k) :
    Calls Tryz.prog 61 #[.pointer (some ⟨b, 0, none⟩)] w fun e w' =>
      PR (paramL (s.data.toList.drop k)) e ∧ AtRestF w' b s k (paramL (s.data.toList.drop k)) ∧ Only b w w' := by
  have HC := Lib.hid hc
  clear hc
  have HTL := Lib.hid (show (S (tokL (s.data.toList.drop k))).size ≤ 1000000 from by rw [S_size]; have h1 : (tokL (s.data.toList.drop k)).length ≤ (s.data.toList.drop k).length := List.Sublist.length_le (List.takeWhile_sublist _); rw [List.length_drop, size_toList] at h1; omega)
  go_enter Tryz.func61, Tryz.ntmps61
  go_wp2_with fail
  refine (cToken_c b s k hk hs _ (HC.out.alloc _)).mono ?_
  rintro e w1 ⟨rfl, ⟨k1, h1, h2, h3, h4⟩, ho1⟩
  go_wp2_with fail
  refine (lower_c (S (tokL (s.data.toList.drop k))) (Nat.le_trans HTL.out (by decide)) _).mono ?_
  rintro e w2 ⟨rfl, hb2⟩
  have hc2 : Cur w2 b s k1 := h4.below hb2 h4.lt
  have hbl : b < w.heap.size := HC.out.lt
  have hs1 : w.heap.size < w1.heap.size := by have := ho1.size; simp at this; omega
  have hs2 : w1.heap.size ≤ w2.heap.size := hb2.size
  have hg1 : w1.heap[w.heap.size]? = some (.cells #[.string ⟨#[]⟩, .string ⟨#[]⟩] 52 (0, 0)) := (ho1.block w.heap.size (by simp) (by simp; omega)).trans (heap_alloc_new w _)
  have hg2 : w2.heap[w.heap.size]? = some (.cells #[.string ⟨#[]⟩, .string ⟨#[]⟩] 52 (0, 0)) := (hb2.block _ hs1).trans hg1
  have hO2 : Only b w w2 := ((Only.of_below ((Below.refl w.heap.size w).alloc (Nat.le_refl _) _)).trans ho1).trans (Only.of_below hb2)
  clear hg1
  generalize HN : S (lowerL (S (tokL (s.data.toList.drop k))).data.toList) = N at *
  have HN := Lib.hid HN
  go_wp2_with fail
  refine (cBlank_c b s k1 h2 hs _ (hc2.alloc _)).mono ?_
  rintro e w3 ⟨rfl, ⟨k2, j1, j2, j3, hc3⟩, ho3⟩
  have hs3 : w2.heap.size < w3.heap.size := by have := ho3.size; simp at this; omega
  have hg3 : w3.heap[w.heap.size]? = some (.cells #[.string ⟨#[]⟩, .string ⟨#[]⟩] 52 (0, 0)) := (ho3.block w.heap.size (by simp; omega) (by simp; omega)).trans ((Below.heap_alloc w2 _ _ (by omega)).trans hg2)
  have hl3 : w3.heap[w2.heap.size]? = some (.cells #[.string N, .string ⟨#[]⟩] 52 (0, 0)) := (ho3.block w2.heap.size (by simp) (by simp; omega)).trans (heap_alloc_new w2 _)
  have hO3 : Only b w w3 := (hO2.trans (Only.of_below ((Below.refl w2.heap.size w2).alloc (Nat.le_refl _) _))).trans ho3
  clear hg2 hc2
  cases ht : tokL (s.data.toList.drop k) with
  | nil =>
    obtain ⟨a0, a1, a2, a3⟩ := fld_cells hg3
    obtain ⟨l0, l1, l2, l3⟩ := fld_cells hl3
    go_wp2_with fail
    refine bodyPost_ret (v := .tuple #[.agg #[.string N, .string ⟨#[]⟩], .bool false]) (by simp [results, Tryz.results61, go_sem, a0, a1]) rfl ⟨.inl ⟨par_none ht, _, rfl⟩, ⟨k2, by omega, j2, (hc3.setNe (by simp; omega) _).setNe (by simp; omega) _, fun v r h => by rw [par_none ht] at h; cases h⟩, (hO3.setNew (Nat.le_refl _) _).setNew (Nat.le_refl _) _⟩
  | cons t0 ts =>
    have ht1 : (tokL (s.data.toList.drop k)).isEmpty = false := by rw [ht]; rfl
    have HT1 := Lib.hid ht1
    clear ht1
    have j3' : s.data.toList.drop k2 = blankL (tokR (s.data.toList.drop k)) := by rw [j3, h3]
    have J3 := Lib.hid j3'
    clear j3 h3 j3'
    go_wp2_with fail
    refine (cTake_c b s k2 j2 hs 61 (by omega) (by omega) _ hc3).mono ?_
    rintro e w4 ⟨t, rfl, hT, hF, ho4⟩
    have hs4 : w3.heap.size ≤ w4.heap.size := ho4.size
    have hg4 : w4.heap[w.heap.size]? = some (.cells #[.string ⟨#[]⟩, .string ⟨#[]⟩] 52 (0, 0)) := (ho4.block w.heap.size (by omega) (by simp; omega)).trans hg3
    have hl4 : w4.heap[w2.heap.size]? = some (.cells #[.string N, .string ⟨#[]⟩] 52 (0, 0)) := (ho4.block w2.heap.size (by omega) (by simp; omega)).trans hl3
    have hO4 : Only b w w4 := hO3.trans ho4
    clear hg3 hl3
    obtain ⟨a0, a1, a2, a3⟩ := fld_cells hg4
    obtain ⟨l0, l1, l2, l3⟩ := fld_cells hl4
    cases t with
    | false =>
      obtain ⟨hn, hc4⟩ := hF rfl
      clear hT hF
      have HX := Lib.hid (par_plain HT1.out J3.out hn)
      go_wp2_with fail
      refine bodyPost_ret (v := .tuple #[.agg #[.string N, .string ⟨#[]⟩], .bool true]) (by simp [results, Tryz.results61, go_sem, a0, a1]) rfl ⟨.inr ⟨_, HX.out, ret_w (by rw [← HN.out]; rfl)⟩, ⟨k2, by omega, j2, (hc4.setNe (by simp; omega) _).setNe (by simp; omega) _, fun v r h => by rw [HX.out] at h; cases h; rfl⟩, (hO4.setNew (Nat.le_refl _) _).setNew (Nat.le_refl _) _⟩
    | true =>
      obtain ⟨hlt, he, hc4⟩ := hT rfl
      have HX := Lib.hid (par_val HT1.out J3.out hlt he)
      clear hT hF he
      clear a0 a1 a2 a3 l0 l1 l2 l3
      go_wp2_with fail
      refine (cBlank_c b s (k2 + 1) (by omega) hs _ hc4).mono ?_
      rintro e w5 ⟨rfl, ⟨k5, m1, m2, m3, hc5⟩, ho5⟩
      have M3 := Lib.hid m3
      clear m3
      go_wp2_with fail
      refine (cValue_c b s k5 m2 hs _ hc5).mono ?_
      rintro e w6 ⟨he, ⟨k6, n1, n2, hc6, n3⟩, ho6⟩
      have N3 := Lib.hid n3
      clear n3
      have ho46 := ho5.trans ho6
      have hg6 : w6.heap[w.heap.size]? = some (.cells #[.string ⟨#[]⟩, .string ⟨#[]⟩] 52 (0, 0)) := (ho46.block w.heap.size (by omega) (by simp; omega)).trans hg4
      have hl6 : w6.heap[w2.heap.size]? = some (.cells #[.string N, .string ⟨#[]⟩] 52 (0, 0)) := (ho46.block w2.heap.size (by omega) (by simp; omega)).trans hl4
      have hO6 : Only b w w6 := hO4.trans ho46
      have hs6 : w4.heap.size ≤ w6.heap.size := ho46.size
      obtain ⟨a0, a1, a2, a3⟩ := fld_cells hg6
      obtain ⟨l0, l1, l2, l3⟩ := fld_cells hl6
      clear hg4 hl4
      rw [← M3.out] at HX
      cases hv : valueL (s.data.toList.drop k5) with
      | none =>
        rw [hv] at he HX N3
        have he' : e = .returned (.tuple #[.string ⟨#[]⟩, .bool false]) := he
        subst he'
        clear he hv
        go_wp2_with fail
        refine bodyPost_ret (v := .tuple #[.agg #[.string N, .string ⟨#[]⟩], .bool false]) (by simp [results, Tryz.results61, go_sem, a0, a1]) rfl ⟨.inl ⟨HX.out, _, rfl⟩, ⟨k6, by omega, n2, ?_, fun v r h => by rw [HX.out] at h; cases h⟩, ?_⟩
        · exact ((hc6.setNe (by simp; omega) _).setNe (by simp; omega) _).setNe (by simp; omega) _
        · exact ((hO6.setNew (by simp; omega) _).setNew (by simp) _).setNew (by simp) _
      | some y =>
        rw [hv] at he HX N3
        have he' : e = .returned (.tuple #[.string (S y.1), .bool true]) := he
        subst he'
        clear he hv
        go_wp2_with fail
        refine bodyPost_ret (v := .tuple #[.agg #[.string N, .string (S y.1)], .bool true]) (by simp [results, Tryz.results61, go_sem, a0, a1]) rfl ⟨.inr ⟨_, HX.out, ret_w (by rw [← HN.out]; rfl)⟩, ⟨k6, by omega, n2, ?_, fun v r h => by rw [HX.out] at h; cases h; exact N3.out _ _ rfl⟩, ?_⟩
        · exact ((hc6.setNe (by simp; omega) _).setNe (by simp; omega) _).setNe (by simp; omega) _
        · exact ((hO6.setNew (by simp; omega) _).setNew (by simp) _).setNew (by simp) _
end Go.Proofs.YtaopehogpdgkgaaGreat
