/- Slices that are only read: rows of strings, fields; contracts of Same, SameFields. -/
import Derived.Test.YtaopehogpdgkgaaGreatWlMem
namespace Go.Proofs.YtaopehogpdgkgaaGreat
open Go.RowKit
/-- v reads as n elements of size cells each -/
def Rd (w : World) (size : Nat) (v : Value) (n : Nat) (xs : List Value) : Prop :=
  ∃ A c, v = .slice A n c ∧ xs.length = n * size ∧ (0 < n → ∃ ad, A = some ad ∧ ad.block < w.heap.size ∧ ∀ j u, xs[j]? = some u → w.cell? (ad.add j) = some u)
theorem add_of_add (a : Addr) (i j : Nat) : (a.add i).add j = a.add (i + j) := by
  unfold Addr.add
  by_cases hi : i = 0 <;> by_cases hj : j = 0 <;> simp [hi, hj, Nat.add_assoc]
theorem add_block (a : Addr) (n : Nat) : (a.add n).block = a.block := by unfold Addr.add; split <;> rfl
theorem add_lit (a : Addr) (i j : Nat) (hj : 0 < j) : (⟨(a.add i).block, (a.add i).off + j, none⟩ : Addr) = a.add (i + j) := by
  rw [← add_of_add]; generalize a.add i = b; unfold Addr.add; rw [if_neg (by omega)]
section
variable {w w' : World} {size n B : Nat} {e : TypeId} {v : Value} {xs : List Value}
theorem Rd.of_own (h : w.ownsRow B e size v n xs) : Rd w size v n xs := by
  have hx := h.1
  rcases h.2 with ⟨rfl, rfl⟩ | ⟨g, cap, cur, rfl, hb, hh, _⟩
  · exact ⟨_, _, rfl, hx, fun h => absurd h (by omega)⟩
  · exact ⟨_, _, rfl, hx, fun _ => ⟨_, rfl, heap_lt hh, World.ownsRow.cells h (g := g) rfl⟩⟩
theorem Rd.later (h : Rd w size v n xs) (hb : Below w.heap.size w w') : Rd w' size v n xs := by
  obtain ⟨A, c, rfl, h1, h2⟩ := h
  refine ⟨A, c, rfl, h1, fun hn => ?_⟩
  obtain ⟨ad, rfl, hlt, hc⟩ := h2 hn
  exact ⟨ad, rfl, Nat.lt_of_lt_of_le hlt hb.size, fun j u hu => (hb.cell (p := ad.add j) (by rw [add_block]; exact hlt)).trans (hc j u hu)⟩
theorem Rd.drewN (h : Rd w size v n xs) (k : Nat) : Rd (w.drewN k) size v n xs := h
theorem Rd.at_ (h : Rd w size v n xs) (hn : 0 < n) : ∃ ad c, v = .slice (some ad) n c ∧ ad.block < w.heap.size ∧ ∀ j u, xs[j]? = some u → w.cell? (ad.add j) = some u := by
  obtain ⟨A, c, rfl, h1, h2⟩ := h
  obtain ⟨ad, rfl, hlt, hc⟩ := h2 hn
  exact ⟨ad, c, rfl, hlt, hc⟩
theorem Rd.slice (h : Rd w size v n xs) : ∃ A c, v = .slice A n c := by obtain ⟨A, c, hv, _⟩ := h; exact ⟨A, c, hv⟩
end
theorem fld_at {w : World} {ad : Addr} {l : List Fld} {k : Nat} (hc : ∀ j u, (fldsV l)[j]? = some u → w.cell? (ad.add j) = some u) (hk : k < l.length) :
    w.cell? (ad.add (k * 2)) = some (.string (S l[k].1)) ∧ w.cell? ⟨(ad.add (k * 2)).block, (ad.add (k * 2)).off + 1, none⟩ = some (.string (S l[k].2)) := by
  obtain ⟨h0, h1⟩ := fldsV_at l k hk
  exact ⟨hc _ _ h0, by rw [add_lit _ _ _ (by decide)]; exact hc _ _ h1⟩
set_option maxRecDepth 100000 in
set_option maxHeartbeats 1000000 in
theorem rSameFields_c (w : World) (v1 v2 : Value) (l : List Fld) (hn : l.length ≤ 9223372036854775807) (h1 : Rd w 2 v1 l.length (fldsV l)) (h2 : Rd w 2 v2 l.length (fldsV l)) :
    Calls Tryz.prog 34 #[v1, v2] w fun e w' => e = .returned (.bool true) ∧ ∃ m, w' = w.drewN m := by
  by_cases h0 : 0 < l.length
  · obtain ⟨a1, c1, rfl, hb1, hc1⟩ := h1.at_ h0
    obtain ⟨a2, c2, rfl, hb2, hc2⟩ := h2.at_ h0
    have H1 := Lib.hid hc1
    have H2 := Lib.hid hc2
    clear h1 h2 hc1 hc2
    go_enter Tryz.func34, Tryz.ntmps34
    go_wp2_with fail
    go_loopw [13] (fun i wr => ∃ k m : Nat, k ≤ l.length ∧ i = .int .i64 (k : Int) ∧ wr = w.drewN m) (fun i _ => l.length - (intOf i).toNat)
    case atStart => exact ⟨0, 0, Nat.zero_le _, rfl, rfl⟩
    case round =>
      obtain ⟨k, m, hk, rfl, rfl⟩ := hrel
      by_cases hlt : k < l.length
      · obtain ⟨x0, x1⟩ := fld_at H1.out hlt
        obtain ⟨y0, y1⟩ := fld_at H2.out hlt
        go_wp2_with fail
        go_quiet (fail)
        go_wp2_with fail
        go_roundw
        case rel => exact ⟨k + 1, _, by omega, by go_num, rfl⟩
        case measure => simp [intOf]; omega
      · go_wp2_with fail
        go_ret
        exact ⟨rfl, m, rfl⟩
  · obtain ⟨A1, c1, rfl⟩ := h1.slice
    obtain ⟨A2, c2, rfl⟩ := h2.slice
    have hz : l = [] := List.eq_nil_of_length_eq_zero (by omega)
    subst hz
    clear h1 h2 hn
    go_enter Tryz.func34, Tryz.ntmps34
    go_wp2_with fail
    refine wp_loop_rounds 1 ?_
    rw [rounds_succ]
    go_wp2_with fail
    go_ret
    exact ⟨rfl, 0, rfl⟩
set_option maxRecDepth 100000 in
set_option maxHeartbeats 1000000 in
theorem rSame_c (w : World) (v1 v2 : Value) (l : List (List UInt8)) (hn : l.length ≤ 9223372036854775807) (h1 : Rd w 1 v1 l.length (strsV l)) (h2 : Rd w 1 v2 l.length (strsV l)) :
    Calls Tryz.prog 44 #[v1, v2] w fun e w' => e = .returned (.bool true) ∧ ∃ m, w' = w.drewN m := by
  by_cases h0 : 0 < l.length
  · obtain ⟨a1, c1, rfl, hb1, hc1⟩ := h1.at_ h0
    obtain ⟨a2, c2, rfl, hb2, hc2⟩ := h2.at_ h0
    have H1 := Lib.hid hc1
    have H2 := Lib.hid hc2
    clear h1 h2 hc1 hc2
    go_enter Tryz.func44, Tryz.ntmps44
    go_wp2_with fail
    go_loopw [13] (fun i wr => ∃ k m : Nat, k ≤ l.length ∧ i = .int .i64 (k : Int) ∧ wr = w.drewN m) (fun i _ => l.length - (intOf i).toNat)
    case atStart => exact ⟨0, 0, Nat.zero_le _, rfl, rfl⟩
    case round =>
      obtain ⟨k, m, hk, rfl, rfl⟩ := hrel
      by_cases hlt : k < l.length
      · have x0 := H1.out _ _ (strsV_at l k hlt)
        have y0 := H2.out _ _ (strsV_at l k hlt)
        go_wp2_with fail
        go_quiet (fail)
        go_wp2_with fail
        go_roundw
        case rel => exact ⟨k + 1, _, by omega, by go_num, rfl⟩
        case measure => simp [intOf]; omega
      · go_wp2_with fail
        go_ret
        exact ⟨rfl, m, rfl⟩
  · obtain ⟨A1, c1, rfl⟩ := h1.slice
    obtain ⟨A2, c2, rfl⟩ := h2.slice
    have hz : l = [] := List.eq_nil_of_length_eq_zero (by omega)
    subst hz
    clear h1 h2 hn
    go_enter Tryz.func44, Tryz.ntmps44
    go_wp2_with fail
    refine wp_loop_rounds 1 ?_
    rw [rounds_succ]
    go_wp2_with fail
    go_ret
    exact ⟨rfl, 0, rfl⟩
end Go.Proofs.YtaopehogpdgkgaaGreat
