/- An argument that is a slice of links, opened to a list of links. -/
import Derived.Test.YtaopehogpdgkgaaGreatOpenHead
import Derived.Test.YtaopehogpdgkgaaGreatWlSame
import Derived.Deep.Strs
namespace Go.Proofs.YtaopehogpdgkgaaGreat
open Go.ChangeShapes Go.WideShapes Go.Deep Go.RowKit
def cellsE (e : Lnk × Value × Value) : List Value := [.string (S e.1.1), e.2.1, e.2.2]
theorem cellsE_len (l : List (Lnk × Value × Value)) : (l.flatMap cellsE).length = l.length * 3 := by
  induction l with
  | nil => rfl
  | cons e t ih => rw [List.flatMap_cons, List.length_append, ih]; simp only [cellsE, List.length_cons, List.length_nil]; omega
theorem cellsE_at : ∀ (l : List (Lnk × Value × Value)) (i : Nat) (h : i < l.length), (l.flatMap cellsE)[i * 3]? = some (.string (S l[i].1.1)) ∧ (l.flatMap cellsE)[i * 3 + 1]? = some l[i].2.1 ∧ (l.flatMap cellsE)[i * 3 + 2]? = some l[i].2.2
  | [], i, h => absurd h (by simp)
  | e :: t, 0, _ => by rw [List.flatMap_cons]; exact ⟨rfl, rfl, rfl⟩
  | e :: t, i + 1, h => by
    have ih := cellsE_at t i (by simpa using h)
    have hc : (e :: t).flatMap cellsE = .string (S e.1.1) :: e.2.1 :: e.2.2 :: t.flatMap cellsE := by rw [List.flatMap_cons]; rfl
    rw [hc, show (i + 1) * 3 = i * 3 + 1 + 1 + 1 by omega, show i * 3 + 1 + 1 + 1 + 1 = (i * 3 + 1) + 1 + 1 + 1 by omega, show i * 3 + 1 + 1 + 1 + 2 = (i * 3 + 2) + 1 + 1 + 1 by omega]
    simpa using ih
section
variable {H : Type} {enc : TypeId × Value → H} {w : World} {base : Nat} {spare : Nat → Bool} {held : Bool}
theorem rel_of : ∀ l : List (Lnk × Value × Value), (∀ e ∈ l, Rd w 1 e.2.1 e.1.2.1.length (strsV e.1.2.1) ∧ Rd w 2 e.2.2 e.1.2.2.length (fldsV e.1.2.2)) → RdRel w (l.map (·.1)) (l.flatMap cellsE)
  | [], _ => rfl
  | e :: t, h => ⟨e.2.1, e.2.2, t.flatMap cellsE, by rw [List.flatMap_cons]; rfl, (h e (by simp)).1, (h e (by simp)).2, rel_of t fun x hx => h x (by simp [hx])⟩
set_option maxRecDepth 100000 in
/-- a slice of strings that came in, as a list -/
theorem open_strl {fuel : Nat} {c : Value} {y : DataW H × List MemPlace} (h : DataW.trod enc Tryz.prog w base spare held fuel 57 [c] = some y) :
    ∃ l : List (List UInt8), Rd w 1 c l.length (strsV l) ∧ l.length ≤ maxLen ∧ ∀ r ∈ l, r.length ≤ maxLen := by
  rcases open_strs Tryz.underlying57 Tryz.underlying9 (by kernel_rfl) h with ⟨hc, _⟩ | ⟨a, len, cap, m, Sx, hc, hb, hl, hm, hmm, _, hi⟩
  · injection hc with hc _
    subst hc
    exact ⟨[], ⟨_, _, rfl, rfl, fun h => absurd h (by simp)⟩, by simp, fun r hr => by cases hr⟩
  · injection hc with hc _
    subst hc
    have hml : len ≤ m := by rw [hmm]; split <;> omega
    obtain ⟨l, hll, hls⟩ := list_of (P := fun i (r : List UInt8) => w.cell? (a.add i) = some (.string (S r)) ∧ r.length ≤ maxLen) len fun i hil =>
      ⟨(Sx i).data.toList, (hi i (by omega)).1, by have := (hi i (by omega)).2; rw [← size_toList] at this; exact this⟩
    subst hll
    refine ⟨l, ⟨some a, cap, rfl, by simp [strsV], fun hn => ⟨a, rfl, ?_, fun j u hu => ?_⟩⟩, by omega, fun r hr => ?_⟩
    · have h0 := (hls 0 hn).1
      have := World.block_lt_of_cell? w (a.add 0) h0
      rwa [add_block] at this
    · have hj : j < l.length := by have := (List.getElem?_eq_some_iff.1 hu).1; simpa [strsV] using this
      rw [strsV_at l j hj] at hu
      injection hu with hu
      subst hu
      exact (hls j hj).1
    · obtain ⟨i, hi, rfl⟩ := List.getElem_of_mem hr
      exact (hls i hi).2
set_option maxRecDepth 100000 in
theorem link_weights {B : Nat} {a b d : DataW H} (h : ((.agg [a, b, d] : DataW H).weights Tryz.prog 59).all (· ≤ B) = true) : (d.weights Tryz.prog 23).all (· ≤ B) = true := by
  rw [DataW.weights, Tryz.underlying59] at h
  exact weights_at (ts := [9, 57, 23]) (j := 2) h rfl rfl
set_option maxRecDepth 100000 in
theorem link_weight {B : Nat} {ds sp : List (DataW H)} {d : DataW H} (h : ((.slice ds sp : DataW H).weights Tryz.prog 36).all (· ≤ B) = true) (hd : d ∈ ds) : (d.weights Tryz.prog 59).all (· ≤ B) = true := by
  rw [List.all_eq_true] at h ⊢
  intro n hn
  refine h n ?_
  rw [DataW.weights, Tryz.underlying36]
  exact List.mem_cons_of_mem _ (List.mem_append_left _ (weights_all hd hn))
def LnkIn (x : Lnk) : Prop := x.2.1.length ≤ maxLen ∧ (∀ r ∈ x.2.1, r.length ≤ maxLen) ∧ x.2.2.length ≤ maxLen ∧ ∀ f ∈ x.2.2, f.1.length ≤ 140737488351232 ∧ f.2.length ≤ 140737488351232
set_option maxRecDepth 100000 in
/-- a slice of links that came in, as a list -/
theorem open_links {fuel : Nat} {c : Value} {y : DataW H × List MemPlace} (h : DataW.trod enc Tryz.prog w base spare held fuel 36 [c] = some y) (hwt : (y.1.weights Tryz.prog 36).all (· ≤ reachBytes) = true) :
    ∃ l : List Lnk, RdLinks w c l ∧ l.length ≤ maxLen ∧ ∀ x ∈ l, LnkIn x := by
  obtain ⟨f0, f1, f2, hst, ht0, ht1, ht2⟩ : ∃ f0 f1 f2, Tryz.prog.underlying 59 = some (.struct #[f0, f1, f2]) ∧ f0.type = 9 ∧ f1.type = 57 ∧ f2.type = 23 := ⟨_, _, _, Tryz.underlying59, rfl, rfl, rfl⟩
  rcases open_slice_fields (fs := #[f0, f1, f2]) Tryz.underlying36 hst (by rw [Tryz.underlying59] at hst; injection hst with hst; injection hst with hst; rw [← hst]; kernel_rfl) (by show _ = 3; kernel_rfl) h with ⟨hc, hy⟩ | ⟨a, len, cap, m, D, Pl, hc, hb, hl, hm, hmm, hx, hi⟩
  · injection hc with hc _
    subst hc
    exact ⟨[], RdLinks.nil _, by simp, fun x hx => by cases hx⟩
  · injection hc with hc _
    subst hc
    have hml : len ≤ m := by rw [hmm]; split <;> omega
    rw [hx] at hwt
    have hex : ∀ i, i < len → ∃ e : Lnk × Value × Value, (w.cell? (a.add (i * 3)) = some (.string (S e.1.1)) ∧ w.cell? (a.add (i * 3 + 1)) = some e.2.1 ∧ w.cell? (a.add (i * 3 + 2)) = some e.2.2) ∧ (Rd w 1 e.2.1 e.1.2.1.length (strsV e.1.2.1) ∧ Rd w 2 e.2.2 e.1.2.2.length (fldsV e.1.2.2)) ∧ LnkIn e.1 := fun i hil => by
      obtain ⟨ys, n, hD, _, hyl, hf⟩ := hi i (by omega)
      obtain ⟨v0, y0, hc0, hy0, ht0'⟩ := hf 0 f0 rfl
      obtain ⟨v1, y1, hc1, hy1, ht1'⟩ := hf 1 f1 rfl
      obtain ⟨v2, y2, hc2, hy2, ht2'⟩ := hf 2 f2 rfl
      rw [ht0] at ht0'
      rw [ht1] at ht1'
      rw [ht2] at ht2'
      obtain ⟨s0, e0, _, _⟩ := DataW.trod_string Tryz.underlying9 ht0'
      injection e0 with e0 _
      subst e0
      obtain ⟨rs, hr1, hr2, hr3⟩ := open_strl ht1'
      obtain ⟨fs, hp1, hp2, hp3⟩ := open_flds ht2'
      have hys : ys = [y0, y1, y2] := by
        match ys, hyl with
        | [a0, a1, a2], _ =>
          simp at hy0 hy1 hy2
          rw [hy0, hy1, hy2]
      have hwi := link_weight hwt (d := D i) (List.mem_map.2 ⟨i, by simpa using hil, rfl⟩)
      rw [hD, hys] at hwi
      exact ⟨((s0.data.toList, rs, fs), v1, v2), ⟨hc0, hc1, hc2⟩, ⟨hr1, hp1⟩, hr2, hr3, hp2, flds_reach (link_weights hwi) hp3⟩
    obtain ⟨lst, hll, hls⟩ := list_of len hex
    subst hll
    have hin : ∀ e ∈ lst, (Rd w 1 e.2.1 e.1.2.1.length (strsV e.1.2.1) ∧ Rd w 2 e.2.2 e.1.2.2.length (fldsV e.1.2.2)) ∧ LnkIn e.1 := fun e he => by
      obtain ⟨i, hi, rfl⟩ := List.getElem_of_mem he
      exact (hls i hi).2
    refine ⟨lst.map (·.1), ⟨lst.flatMap cellsE, ⟨some a, cap, by rw [List.length_map], by rw [cellsE_len, List.length_map], fun hn => ⟨a, rfl, ?_, fun j u hu => ?_⟩⟩, rel_of lst fun e he => (hin e he).1⟩, by rw [List.length_map]; omega, fun x hx => ?_⟩
    · rw [List.length_map] at hn
      have h0 := (hls 0 hn).1.1
      have := World.block_lt_of_cell? w (a.add (0 * 3)) h0
      rwa [add_block] at this
    · have hj : j < lst.length * 3 := by rw [← cellsE_len]; exact (List.getElem?_eq_some_iff.1 hu).1
      obtain ⟨k, r, rfl, hr⟩ : ∃ k r, j = k * 3 + r ∧ r < 3 := ⟨j / 3, j % 3, by omega, by omega⟩
      have hk : k < lst.length := by omega
      obtain ⟨g0, g1, g2⟩ := cellsE_at lst k hk
      obtain ⟨⟨q0, q1, q2⟩, _⟩ := hls k hk
      match r, hr with
      | 0, _ => rw [Nat.add_zero] at hu ⊢; rw [g0] at hu; injection hu with hu; subst hu; exact q0
      | 1, _ => rw [g1] at hu; injection hu with hu; subst hu; exact q1
      | 2, _ => rw [g2] at hu; injection hu with hu; subst hu; exact q2
    · obtain ⟨e, he, rfl⟩ := List.mem_map.1 hx
      exact (hin e he).2
end
end Go.Proofs.YtaopehogpdgkgaaGreat
