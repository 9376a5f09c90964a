/- Contract of webfingerref22.param. -/
import Derived.Test.YtaopehogpdgkgaaParam
namespace Go.Proofs.Ytaopehogpdgkgaa
open Go.RowKit
theorem blank_blank (l : List UInt8) : blankL (blankL l) = blankL l := by
  unfold blankL
  induction l with
  | nil => rfl
  | cons x t ih => by_cases h : blankN x.toNat = true <;> simp [h, ih]
theorem tokO_none {l : List UInt8} (h : tokO l = none) : tokL l = [] := by
  unfold tokO at h
  cases ht : tokL l with
  | nil => rfl
  | cons x t => rw [ht] at h; cases h
theorem tokO_some {l v r : List UInt8} (h : tokO l = some (v, r)) : (tokL l).isEmpty = false ∧ v = tokL l ∧ r = tokR l := by
  unfold tokO at h
  cases ht : tokL l with
  | nil => rw [ht] at h; cases h
  | cons x t => rw [ht] at h; injection h with h; injection h with h1 h2; exact ⟨rfl, h1.symm, h2.symm⟩
/-- what the reference's param answers -/
def RPR (s : ByteArray) (k : Nat) (x : Option (Fld × List UInt8)) (e : Ending) : Prop :=
  (x = none ∧ e = .returned (.tuple #[.agg #[.string ⟨#[]⟩, .string ⟨#[]⟩], .int .i64 0, .bool false])) ∨
  ∃ f r k', x = some (f, r) ∧ k < k' ∧ k' ≤ s.size ∧ blankL (s.data.toList.drop k') = blankL r ∧ e = .returned (.tuple #[fldV f, .int .i64 (k' : Int), .bool true])
set_option maxRecDepth 100000 in
set_option maxHeartbeats 2000000 in
theorem rparam_c (s : ByteArray) (k : Nat) (hk : k ≤ s.size) (hs : s.size ≤ 1000000) (w : World) :
    Calls Try.prog 38 #[.string s, .int .i64 (k : Int)] w fun e w' => RPR s k (paramL (s.data.toList.drop k)) e ∧ Below w.heap.size w w' := by
  have HTL := Lib.hid (show (S (tokL (s.data.toList.drop k))).size ≤ 1000000 from by rw [S_size]; have h1 : (tokL (s.data.toList.drop k)).length ≤ (s.data.toList.drop k).length := List.Sublist.length_le (List.takeWhile_sublist _); rw [List.length_drop, size_toList] at h1; omega)
  have HT := Lib.hid (rToken_c s k hk hs (w.alloc (.cells #[.string ⟨#[]⟩, .string ⟨#[]⟩] 56)))
  go_enter Try.func38, Try.ntmps38
  go_wp2_with fail
  refine HT.out.mono ?_
  have hB0 : Below w.heap.size w (w.alloc (.cells #[.string ⟨#[]⟩, .string ⟨#[]⟩] 56)) := (Below.refl _ w).alloc (Nat.le_refl _) _
  have hg0 : (w.alloc (.cells #[.string ⟨#[]⟩, .string ⟨#[]⟩] 56)).heap[w.heap.size]? = some (.cells #[.string ⟨#[]⟩, .string ⟨#[]⟩] 56 (0, 0)) := heap_alloc_new w _
  generalize w.alloc (.cells #[.string ⟨#[]⟩, .string ⟨#[]⟩] 56) = w0 at *
  rintro e w1 ⟨h, rfl⟩
  have hs0 := heap_lt hg0
  rcases h with ⟨hx, rfl⟩ | ⟨v, r, k1, hx, hk1, hk2, hr, rfl⟩
  · have hn := tokO_none hx
    have HN := Lib.hid (par_none hn)
    clear hx hn
    obtain ⟨a0, a1, a2, a3⟩ := fld_cells hg0
    go_wp2_with fail
    refine bodyPost_ret (v := .tuple #[.agg #[.string ⟨#[]⟩, .string ⟨#[]⟩], .int .i64 0, .bool false]) (by simp [results, Try.results38, go_sem, a0, a1]) rfl ⟨.inl ⟨HN.out, rfl⟩, (hB0.setCell (Nat.le_refl _) _).setCell (Nat.le_refl _) _⟩
  · obtain ⟨ht, rfl, rfl⟩ := tokO_some hx
    have HT1 := Lib.hid ht
    have HR := Lib.hid hr
    clear hx ht hr HT
    go_wp2_with fail
    refine (rLower_c (S (tokL (s.data.toList.drop k))) (Nat.le_trans HTL.out (by decide)) _).mono ?_
    rintro e w1 ⟨rfl, hb1⟩
    generalize HN : S (lowerL (S (tokL (s.data.toList.drop k))).data.toList) = N at *
    have HN := Lib.hid HN
    have hB1 : Below w.heap.size w w1 := hB0.trans (hb1.mono hB0.size)
    have hg1 : w1.heap[w.heap.size]? = some (.cells #[.string ⟨#[]⟩, .string ⟨#[]⟩] 56 (0, 0)) := (hb1.block _ hs0).trans hg0
    have hs1 := heap_lt hg1
    go_wp2_with fail
    refine (rSkip_c s k1 hk2 hs _).mono ?_
    have hB2 : Below w.heap.size w (w1.alloc (.cells #[.string N, .string ⟨#[]⟩] 56)) := hB1.alloc hB1.size _
    have hg2 : (w1.alloc (.cells #[.string N, .string ⟨#[]⟩] 56)).heap[w.heap.size]? = some (.cells #[.string ⟨#[]⟩, .string ⟨#[]⟩] 56 (0, 0)) := (Below.heap_alloc w1 _ _ hs1).trans hg1
    have hl2 : (w1.alloc (.cells #[.string N, .string ⟨#[]⟩] 56)).heap[w1.heap.size]? = some (.cells #[.string N, .string ⟨#[]⟩] 56 (0, 0)) := heap_alloc_new w1 _
    generalize w1.alloc (.cells #[.string N, .string ⟨#[]⟩] 56) = w2 at *
    have hs2 := heap_lt hl2
    clear hg0 hg1 hb1 hB0 hB1
    rintro e w3 ⟨⟨k2, i1, i2, i3, rfl⟩, rfl⟩
    have hk2' : s.data.toList.drop k2 = blankL (tokR (s.data.toList.drop k)) := by rw [i3, HR.out]
    have J3 := Lib.hid hk2'
    have I3 := Lib.hid i3
    clear i3 hk2'
    by_cases hc : ∃ h : k2 < s.size, (s[k2].toNat : Int) = 61
    · obtain ⟨hlt, h61⟩ := hc
      have e61 : ((s[k2].toNat : Int) == 61) = true := by rw [h61]; rfl
      have HX := Lib.hid (par_val HT1.out J3.out hlt h61)
      have hcc : ((k2 : Int) + 1) = ((k2 + 1 : Nat) : Int) := by omega
      have HS := Lib.hid (rSkip_c s (k2 + 1) (by omega) hs w2)
      clear h61 hcc
      go_wp2_with fail
      refine HS.out.mono ?_
      rintro e w3 ⟨⟨k3, l1, l2, l3, rfl⟩, rfl⟩
      have L3 := Lib.hid l3
      clear l3
      go_wp2_with fail
      refine (rValue_c s k3 l2 hs _).mono ?_
      rintro e w4 ⟨hv, hb4⟩
      have hg4 : w4.heap[w.heap.size]? = some (.cells #[.string ⟨#[]⟩, .string ⟨#[]⟩] 56 (0, 0)) := (hb4.block _ (by omega)).trans hg2
      have hl4 : w4.heap[w1.heap.size]? = some (.cells #[.string N, .string ⟨#[]⟩] 56 (0, 0)) := (hb4.block _ hs2).trans hl2
      have hB4 : Below w.heap.size w w4 := hB2.trans (hb4.mono hB2.size)
      obtain ⟨a0, a1, a2, a3⟩ := fld_cells hg4
      obtain ⟨c0, c1, c2, c3⟩ := fld_cells hl4
      have hgl : w.heap.size < w1.heap.size := hs1
      rw [← L3.out] at HX
      rcases hv with ⟨hv, rfl⟩ | ⟨v, r, k4, hv, n1, n2, n3, rfl⟩
      · rw [hv] at HX
        clear hv
        go_wp2_with fail
        refine bodyPost_ret (v := .tuple #[.agg #[.string ⟨#[]⟩, .string ⟨#[]⟩], .int .i64 0, .bool false]) (by simp [results, Try.results38, go_sem, a0, a1]) rfl ⟨.inl ⟨HX.out, rfl⟩, ?_⟩
        exact ((hB4.setCell (by simp; omega) _).setCell (Nat.le_refl _) _).setCell (Nat.le_refl _) _
      · rw [hv] at HX
        have N3 := Lib.hid n3
        clear hv n3
        go_wp2_with fail
        refine bodyPost_ret (v := .tuple #[.agg #[.string N, .string (S v)], .int .i64 (k4 : Int), .bool true]) (by simp [results, Try.results38, go_sem, a0, a1]) rfl ⟨.inr ⟨_, _, k4, HX.out, by omega, n2, by rw [N3.out], ret_w (by rw [← HN.out]; rfl)⟩, ?_⟩
        exact ((hB4.setCell (by simp; omega) _).setCell (Nat.le_refl _) _).setCell (Nat.le_refl _) _
    · have hn : ∀ h : k2 < s.size, (s[k2].toNat : Int) ≠ 61 := fun h he => hc ⟨h, he⟩
      have HX := Lib.hid (par_plain HT1.out J3.out hn)
      obtain ⟨a0, a1, a2, a3⟩ := fld_cells hg2
      obtain ⟨c0, c1, c2, c3⟩ := fld_cells hl2
      have HF := Lib.hid (show RPR s k (paramL (s.data.toList.drop k)) (.returned (.tuple #[.agg #[.string N, .string ⟨#[]⟩], .int .i64 (k1 : Int), .bool true])) from
        .inr ⟨_, _, k1, HX.out, hk1, hk2, by rw [I3.out, blank_blank], ret_w (by rw [← HN.out]; rfl)⟩)
      by_cases hlt : k2 < s.size
      · have e61 : ((s[k2].toNat : Int) == 61) = false := by simpa using hn hlt
        clear hc hn
        go_wp2_with fail
        refine bodyPost_ret (v := .tuple #[.agg #[.string N, .string ⟨#[]⟩], .int .i64 (k1 : Int), .bool true]) (by simp [results, Try.results38, go_sem, a0, a1]) rfl ⟨HF.out, (hB2.setCell (Nat.le_refl _) _).setCell (Nat.le_refl _) _⟩
      · clear hc hn
        go_wp2_with fail
        refine bodyPost_ret (v := .tuple #[.agg #[.string N, .string ⟨#[]⟩], .int .i64 (k1 : Int), .bool true]) (by simp [results, Try.results38, go_sem, a0, a1]) rfl ⟨HF.out, (hB2.setCell (Nat.le_refl _) _).setCell (Nat.le_refl _) _⟩
end Go.Proofs.Ytaopehogpdgkgaa
