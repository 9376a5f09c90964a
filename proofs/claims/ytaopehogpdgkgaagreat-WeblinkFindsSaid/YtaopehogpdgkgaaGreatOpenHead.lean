/- Arguments that hold a slice of fields, opened to a list of fields; keep.Head. -/
import Derived.Test.YtaopehogpdgkgaaGreatRd
import Derived.Lib.SmallJoins
import Derived.Deep.Slices
import Derived.Deep.Fields
import Derived.ChangeSame
import Derived.SizedLaws
import Derived.Carry
import Derived.Lib.Join
namespace Go.Proofs.YtaopehogpdgkgaaGreat
open Go.ChangeShapes Go.WideShapes Go.Deep Go.RowKit
theorem laidOutP : laidOutB Tryz.prog = true := by kernel_rfl
theorem list_of {α : Type} {P : Nat → α → Prop} : ∀ (n : Nat), (∀ i, i < n → ∃ x, P i x) → ∃ l : List α, l.length = n ∧ ∀ i (h : i < l.length), P i l[i]
  | 0, _ => ⟨[], rfl, fun i h => absurd h (by simp)⟩
  | n + 1, h => by
    obtain ⟨l, hl, hp⟩ := list_of n fun i hi => h i (by omega)
    obtain ⟨x, hx⟩ := h n (by omega)
    refine ⟨l ++ [x], by simp [hl], fun i hi => ?_⟩
    by_cases hin : i < l.length
    · rw [List.getElem_append_left hin]; exact hp i hin
    · have hie : i = n := by simp at hi; omega
      subst hie
      subst hl
      rw [List.getElem_append_right (Nat.le_refl _)]
      simpa using hx
section
variable {H : Type} {enc : TypeId × Value → H} {w : World} {base : Nat} {spare : Nat → Bool} {held : Bool}
theorem open_slice_fields {P : Program} {t e : TypeId} {fs : Array Field} {fuel : Nat} {cs : List Value} {x : DataW H × List MemPlace} (ht : P.underlying t = some (.slice e)) (he : P.underlying e = some (.struct fs))
    (hone : oneCellFields P fs = true) (hC : P.cellsOf e = fs.size) (h : DataW.trod enc P w base spare held fuel t cs = some x) :
    (cs = [.slice none 0 0] ∧ x = (.nil, [])) ∨
    ∃ (a : Addr) (len cap m : Nat) (D : Nat → DataW H) (Pl : Nat → List MemPlace), cs = [.slice (some a) len cap] ∧ base ≤ a.block ∧ len ≤ cap ∧ cap ≤ maxLen ∧ m = (if spare a.block then cap else len) ∧
      x = (.slice ((List.range len).map D) ((List.range (m - len)).map fun j => D (len + j)), MemPlace.row a (m * fs.size) ++ (List.range m).flatMap Pl) ∧
      ∀ i, i < m → ∃ (ys : List (DataW H × List MemPlace)) (n : Nat), D i = .agg (ys.map (·.1)) ∧ Pl i = ys.flatMap (·.2) ∧ ys.length = fs.size ∧
        ∀ (j : Nat) (f : Field), fs[j]? = some f → ∃ (v : Value) (y : DataW H × List MemPlace), w.cell? (a.add (i * fs.size + j)) = some v ∧ ys[j]? = some y ∧ DataW.trod enc P w base spare held n f.type [v] = some y := by
  rcases open_slice ht h with h0 | ⟨a, len, cap, m, n, D, Pl, hcs, hb, hl, hm, hmm, hx, hi⟩
  · exact .inl h0
  · refine .inr ⟨a, len, cap, m, D, Pl, hcs, hb, hl, hm, hmm, by rw [hC] at hx; exact hx, fun i him => ?_⟩
    obtain ⟨cs', hc, ht'⟩ := hi i him
    rw [hC] at hc
    obtain ⟨ys, n', hn', hy, hlen, hyl, hf⟩ := DataW.trod_struct he ht'
    obtain ⟨_, hcl, hat⟩ := World.cells?_some hc
    simp only [Prod.mk.injEq] at hy
    refine ⟨ys, n', hy.1, hy.2, hyl, fun j f hj => ?_⟩
    obtain ⟨ho, hk⟩ := hone_of hone j f hj
    have hjl : j < fs.size := (Array.getElem?_eq_some_iff.1 hj).1
    have hcell := hat j hjl
    have hv : cs'[j]? = some (cs'[j]'(by omega)) := List.getElem?_eq_getElem (by omega)
    have h1 := hf j f hj
    rw [ho, hk] at h1
    have hone' : (cs'.drop j).take 1 = [cs'[j]'(by omega)] := by
      rw [List.drop_eq_getElem_cons (by omega)]
      rfl
    rw [hone'] at h1
    have hys : ys[j]? = some (ys[j]'(by omega)) := List.getElem?_eq_getElem (by omega)
    refine ⟨_, _, ?_, hys, h1.trans hys⟩
    rw [← Go.Deep.add_add, hcell, hv]
def fldD (f : Fld) : DataW H := .agg [.lit (.string f.1), .lit (.string f.2)]
set_option maxRecDepth 100000 in
/-- a slice of fields that came in, as a list -/
theorem open_flds {fuel : Nat} {c : Value} {y : DataW H × List MemPlace} (h : DataW.trod enc Tryz.prog w base spare held fuel 23 [c] = some y) :
    ∃ fs : List Fld, Rd w 2 c fs.length (fldsV fs) ∧ fs.length ≤ maxLen ∧ ((y.1 = .nil ∧ fs = []) ∨ ∃ sp, y.1 = .slice (fs.map fldD) sp) := by
  obtain ⟨f0, f1, hst, ht0, ht1⟩ : ∃ f0 f1, Tryz.prog.underlying 52 = some (.struct #[f0, f1]) ∧ f0.type = 9 ∧ f1.type = 9 := ⟨_, _, Tryz.underlying52, rfl, rfl⟩
  rcases open_slice_fields (fs := #[f0, f1]) Tryz.underlying23 hst (by rw [Tryz.underlying52] at hst; injection hst with hst; injection hst with hst; rw [← hst]; kernel_rfl) (by show _ = 2; kernel_rfl) h with ⟨hc, hy⟩ | ⟨a, len, cap, m, D, Pl, hc, hb, hl, hm, hmm, hx, hi⟩
  · injection hc with hc _
    subst hc
    exact ⟨[], ⟨_, _, rfl, rfl, fun h => absurd h (by simp)⟩, by simp, .inl ⟨by rw [hy], rfl⟩⟩
  · injection hc with hc _
    subst hc
    have hml : len ≤ m := by rw [hmm]; split <;> omega
    have hex : ∀ i, i < len → ∃ f : Fld, w.cell? (a.add (i * 2)) = some (.string (S f.1)) ∧ w.cell? (a.add (i * 2 + 1)) = some (.string (S f.2)) ∧ D i = fldD f := fun i hil => by
      obtain ⟨ys, n, hD, _, hyl, hf⟩ := hi i (by omega)
      obtain ⟨v0, y0, hc0, hy0, ht0'⟩ := hf 0 f0 rfl
      obtain ⟨v1, y1, hc1, hy1, ht1'⟩ := hf 1 f1 rfl
      rw [ht0] at ht0'
      rw [ht1] at ht1'
      obtain ⟨s0, e0, rfl, _⟩ := DataW.trod_string Tryz.underlying9 ht0'
      obtain ⟨s1, e1, rfl, _⟩ := DataW.trod_string Tryz.underlying9 ht1'
      injection e0 with e0 _
      injection e1 with e1 _
      subst e0
      subst e1
      refine ⟨(s0.data.toList, s1.data.toList), hc0, hc1, ?_⟩
      have : ys = [(.lit (.string s0.data.toList), []), (.lit (.string s1.data.toList), [])] := by
        match ys, hyl with
        | [a0, a1], _ =>
          simp at hy0 hy1
          rw [hy0, hy1]
      rw [hD, this]; rfl
    obtain ⟨fs, hfl, hfs⟩ := list_of len hex
    subst hfl
    refine ⟨fs, ⟨some a, cap, rfl, fldsV_len fs, fun hn => ⟨a, rfl, ?_, fun j u hu => ?_⟩⟩, by omega, .inr ⟨(List.range (m - fs.length)).map fun j => D (fs.length + j), ?_⟩⟩
    · have h0 := (hfs 0 hn).1
      have := World.block_lt_of_cell? w (a.add (0 * 2)) h0
      rwa [add_block] at this
    · have hj : j < fs.length * 2 := by rw [← fldsV_len]; exact (List.getElem?_eq_some_iff.1 hu).1
      obtain ⟨k, r, rfl, hr⟩ : ∃ k r, j = k * 2 + r ∧ r < 2 := ⟨j / 2, j % 2, by omega, by omega⟩
      have hk : k < fs.length := by omega
      obtain ⟨g0, g1⟩ := fldsV_at fs k hk
      obtain ⟨q0, q1, _⟩ := hfs k hk
      match r, hr with
      | 0, _ => rw [Nat.add_zero] at hu ⊢; rw [g0] at hu; injection hu with hu; subst hu; exact q0
      | 1, _ => rw [g1] at hu; injection hu with hu; subst hu; exact q1
    · have hmap : (List.range fs.length).map D = fs.map fldD := by
        apply List.ext_getElem
        · simp
        · intro i h1 h2
          simp at h1
          simp
          exact (hfs i h1).2.2
      rw [hx]
      show DataW.slice ((List.range fs.length).map D) _ = _
      rw [hmap]
theorem weights_all {P : Program} {e : TypeId} {n : Nat} {d : DataW H} : ∀ {l : List (DataW H)}, d ∈ l → n ∈ d.weights P e → n ∈ DataW.weightsAll P e l
  | _ :: _, hd, hn => by
    unfold DataW.weightsAll
    rcases List.mem_cons.1 hd with rfl | hd
    · exact List.mem_append_left _ hn
    · exact List.mem_append_right _ (weights_all hd hn)
/-- the strings of a field are within the reach -/
theorem flds_weights {fs : List Fld} {d : DataW H} {B : Nat} (h : (d.weights Tryz.prog 23).all (· ≤ B) = true) (hd : (d = .nil ∧ fs = []) ∨ ∃ sp, d = .slice (fs.map fldD) sp) : ∀ f ∈ fs, f.1.length ≤ B ∧ f.2.length ≤ B := by
  rcases hd with ⟨_, rfl⟩ | ⟨sp, rfl⟩
  · intro f hf; cases hf
  · intro f hf
    rw [List.all_eq_true] at h
    have hw : ∀ n ∈ (fldD f : DataW H).weights Tryz.prog 52, n ≤ B := fun n hn => by
      have hm : n ∈ (DataW.slice (fs.map fldD) sp : DataW H).weights Tryz.prog 23 := by
        rw [DataW.weights, Tryz.underlying23]
        exact List.mem_cons_of_mem _ (List.mem_append_left _ (weights_all (List.mem_map.2 ⟨f, hf, rfl⟩) hn))
      simpa using h n hm
    have hwt : (fldD f : DataW H).weights Tryz.prog 52 = [f.1.length, f.2.length] := by
      unfold fldD
      rw [DataW.weights, Tryz.underlying52]
      rfl
    rw [hwt] at hw
    exact ⟨hw _ (by simp), hw _ (by simp)⟩
end
theorem weights_at {H : Type} {P : Program} {ts : List TypeId} {ds : List (DataW H)} {B j : Nat} {t : TypeId} {d : DataW H} (h : (DataW.weightsEach P ts ds).all (· ≤ B) = true) (ht : ts[j]? = some t) (hd : ds[j]? = some d) : (d.weights P t).all (· ≤ B) = true := by
  rw [List.all_eq_true] at h ⊢
  exact fun n hn => h n (DataW.weights_mem_each ht hd n hn)
set_option maxRecDepth 100000 in
theorem head_weights {H : Type} {B : Nat} {a b d : DataW H} (h : ((.agg [a, b, d] : DataW H).weights Tryz.prog 34).all (· ≤ B) = true) : (d.weights Tryz.prog 23).all (· ≤ B) = true := by
  rw [DataW.weights, Tryz.underlying34] at h
  exact weights_at (ts := [3, 3, 23]) (j := 2) h rfl rfl
theorem flds_reach {H : Type} {fs : List Fld} {d : DataW H} (h : (d.weights Tryz.prog 23).all (· ≤ reachBytes) = true) (hd : (d = .nil ∧ fs = []) ∨ ∃ sp, d = .slice (fs.map fldD) sp) : ∀ f ∈ fs, f.1.length ≤ 140737488351232 ∧ f.2.length ≤ 140737488351232 := fun f hf =>
  ⟨Nat.le_trans (flds_weights h hd f hf).1 (by decide), Nat.le_trans (flds_weights h hd f hf).2 (by decide)⟩
/-- whether a head is short -/
def keepB (fs : List Fld) : Bool := decide (fs.length ≤ 80) && fs.all fun f => decide (f.1.length + f.2.length ≤ 600)
theorem keep_hit {fs : List Fld} {k : Nat} (h : k < fs.length) (hp : ¬ fs[k].1.length + fs[k].2.length ≤ 600) : keepB fs = false := by
  unfold keepB
  have : (fs.all fun f => decide (f.1.length + f.2.length ≤ 600)) = false := by
    rw [List.all_eq_false]; exact ⟨_, List.getElem_mem h, by simpa using hp⟩
  rw [this, Bool.and_false]
theorem keep_facts {fs : List Fld} (h : keepB fs = true) : fs.length ≤ 80 ∧ (∀ f ∈ fs, f.1.length ≤ 600 ∧ f.2.length ≤ 600) ∧ Lib.lens (fs.map (·.2)) ≤ 48000 := by
  unfold keepB at h
  rw [Bool.and_eq_true, decide_eq_true_eq, List.all_eq_true] at h
  obtain ⟨h1, h2⟩ := h
  have h3 : ∀ f ∈ fs, f.1.length ≤ 600 ∧ f.2.length ≤ 600 := fun f hf => by have := h2 f hf; simp at this; omega
  refine ⟨h1, h3, ?_⟩
  have h4 : ∀ (l : List Fld), (∀ f ∈ l, f.2.length ≤ 600) → Lib.lens (l.map (·.2)) ≤ 600 * l.length := by
    intro l
    induction l with
    | nil => intro _; simp [Lib.lens]
    | cons f t ih =>
      intro hl
      have e : Lib.lens ((f :: t).map (·.2)) = f.2.length + Lib.lens (t.map (·.2)) := by simp [Lib.lens]
      have a1 := hl f (List.mem_cons_self ..)
      have a2 := ih fun g hg => hl g (List.mem_cons_of_mem _ hg)
      rw [e, List.length_cons]; omega
  have := h4 fs fun f hf => (h3 f hf).2
  omega
set_option maxRecDepth 100000 in
set_option maxHeartbeats 2000000 in
theorem keepHead_c (w : World) (mi st : Int) (fv : Value) (fs : List Fld) (hl : ∀ f ∈ fs, f.1.length ≤ 140737488351232 ∧ f.2.length ≤ 140737488351232) (h : Rd w 2 fv fs.length (fldsV fs)) :
    Calls Tryz.prog 15 #[.agg #[.int .i64 mi, .int .i64 st, fv]] w fun e w' => e = .returned (.bool (keepB fs)) ∧ Below w.heap.size w w' := by
  obtain ⟨A, c1, rfl⟩ := h.slice
  have hB0 : Below w.heap.size w (w.alloc (.cells #[.int .i64 mi, .int .i64 st, .slice A fs.length c1] 34)) := (Below.refl _ w).alloc (Nat.le_refl _) _
  have hg0 : (w.alloc (.cells #[.int .i64 mi, .int .i64 st, .slice A fs.length c1] 34)).heap[w.heap.size]? = some (.cells #[.int .i64 mi, .int .i64 st, .slice A fs.length c1] 34 (0, 0)) := heap_alloc_new w _
  have HR := Lib.hid (h.later hB0)
  have HL := Lib.hid hl
  generalize hK : keepB fs = K
  have HKB := Lib.hid hK
  clear h hl hK
  by_cases h80 : fs.length ≤ 80
  · go_enter Tryz.func15, Tryz.ntmps15
    go_wp2_with fail
    generalize w.alloc (.cells #[.int .i64 mi, .int .i64 st, .slice A fs.length c1] 34) = w0 at *
    go_loopw [12] (fun i wr => ∃ k : Nat, k ≤ fs.length ∧ i = .int .i64 (k : Int) ∧ (∀ j (hj : j < fs.length), j < k → fs[j].1.length + fs[j].2.length ≤ 600) ∧ Below w0.heap.size w0 wr) (fun i _ => fs.length - (intOf i).toNat)
    case atStart => exact ⟨0, Nat.zero_le _, rfl, fun j _ h => absurd h (by simp), Below.refl _ _⟩
    case round =>
      obtain ⟨k, hk, rfl, hall, hB⟩ := hrel
      have HALL := Lib.hid hall
      clear hall
      have hBw := hB0.trans (hB.mono hB0.size)
      by_cases hlt : k < fs.length
      · obtain ⟨ad, c2, he, hb1, hc1⟩ := (HR.out.later hB).at_ (by omega)
        injection he with he _ he2
        subst he
        subst he2
        obtain ⟨x0, x1⟩ := fld_at hc1 hlt
        obtain ⟨l1, l2⟩ := HL.out _ (List.getElem_mem hlt)
        have z1 : (S fs[k].1).size = fs[k].1.length := S_size _
        have z2 : (S fs[k].2).size = fs[k].2.length := S_size _
        clear hc1 hb1
        by_cases h6 : fs[k].1.length + fs[k].2.length ≤ 600
        · go_wp2_with fail
          go_roundw
          case rel => exact ⟨k + 1, by omega, by go_num, fun j hj hjk => by
            by_cases hjk' : j = k
            · subst hjk'; exact h6
            · exact HALL.out j hj (by omega), hB.alloc hB.size _⟩
          case measure => simp [intOf]; omega
        · have HN := Lib.hid (HKB.out.symm.trans (keep_hit hlt h6))
          go_wp2_with fail
          go_ret
          exact ⟨by rw [HN.out]; rfl, hBw.alloc hBw.size _⟩
      · have HN := Lib.hid (HKB.out.symm.trans (show keepB fs = true from by
          unfold keepB
          rw [Bool.and_eq_true, decide_eq_true_eq, List.all_eq_true]
          exact ⟨h80, fun f hf => by
            obtain ⟨j, hj, rfl⟩ := List.getElem_of_mem hf
            simpa using HALL.out j hj (by omega)⟩))
        go_wp2_with fail
        go_ret
        exact ⟨by rw [HN.out]; rfl, hBw⟩
  · have HN := Lib.hid (HKB.out.symm.trans (show keepB fs = false from by unfold keepB; rw [decide_eq_false h80, Bool.false_and]))
    go_enter Tryz.func15, Tryz.ntmps15
    go_wp2_with fail
    go_ret
    exact ⟨by rw [HN.out]; rfl, hB0⟩
end Go.Proofs.YtaopehogpdgkgaaGreat
