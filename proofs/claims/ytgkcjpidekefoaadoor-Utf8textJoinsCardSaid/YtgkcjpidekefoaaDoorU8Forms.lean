/- From the row's list to the table of forms: what reads as the listed datum are these twelve cells. -/
import Derived.OpenShut
import Derived.Deep.Strs
import Derived.LaidLaws
import Derived.Test.YtgkcjpidekefoaaDoorU8Walks
namespace Go.Proofs.YtgkcjpidekefoaaDoor
open Go.RowKit Go.Deep

theorem gForms : Tryd.prog.globalNamed "webfinger/utf8text.forms" = some 0 := by kernel_rfl
theorem gFormsType : (Tryd.prog.globals[0]?).map (·.type) = some 36 := by kernel_rfl
theorem cellsArr : Tryd.prog.cellsOf 36 = 12 := by kernel_rfl
theorem cellsForm : Tryd.prog.cellsOf 35 = 3 := by kernel_rfl
theorem cellsU8 : Tryd.prog.cellsOf 5 = 1 := by kernel_rfl
theorem cellsInt : Tryd.prog.cellsOf 3 = 1 := by kernel_rfl

theorem one_form {H : Type} {enc : TypeId × Value → H} {w : World} {base : Nat} {spare : Nat → Bool} {held : Bool} {fuel : Nat} {c0 c1 c2 : Value} {a b c : Int} {q : List MemPlace}
    (h : DataW.trod enc Tryd.prog w base spare held fuel 35 [c0, c1, c2] = some (.agg [.lit (.int .u8 a), .lit (.int .u8 b), .lit (.int .i64 c)], q)) :
    c0 = .int .u8 a ∧ c1 = .int .u8 b ∧ c2 = .int .i64 c := by
  obtain ⟨y0, y1, y2, n, hx, _, t0, t1, t2⟩ := trod_struct3 Tryd.underlying35 h
  simp only [cellsU8, cellsInt] at t0 t1 t2
  obtain ⟨n0, e0, rfl, _⟩ := DataW.trod_int Tryd.underlying5 t0
  obtain ⟨n1, e1, rfl, _⟩ := DataW.trod_int Tryd.underlying5 t1
  obtain ⟨n2, e2, rfl, _⟩ := DataW.trod_int Tryd.underlying3 t2
  simp at e0 e1 e2 hx
  obtain ⟨⟨rfl, rfl, rfl⟩, _⟩ := hx
  exact ⟨e0, e1, e2⟩

theorem forms_of_laid {W : World} (h : laidMetH Tryd.prog [("webfinger/utf8text.forms", Rows.laid_webfinger_utf8text_forms)] W) : Forms W := by
  obtain ⟨ps, ⟨g', t', cs, fuel, p, q, hg', ht', hvar, hd, _, _⟩, _⟩ := h
  obtain rfl := Option.some.inj (gForms.symm.trans hg')
  obtain rfl := Option.some.inj (gFormsType.symm.trans ht')
  obtain ⟨xs, m, _, hx, hl, hlen, hat⟩ := DataW.trod_array Tryd.underlying36 hd
  rw [cellsArr] at hl
  have hcs : cs = formCells := by
    obtain ⟨l⟩ := cs
    simp only at hl hat
    match l, hl with
    | [c0, c1, c2, c3, c4, c5, c6, c7, c8, c9, c10, c11], _ =>
      match xs, hlen with
      | [x0, x1, x2, x3], _ =>
        simp only [Rows.laid_webfinger_utf8text_forms, List.map_cons, List.map_nil, Prod.mk.injEq, DataW.agg.injEq, List.cons.injEq, and_true] at hx
        obtain ⟨⟨e0, e1, e2, e3⟩, _⟩ := hx
        have a0 := hat 0 (by omega)
        have a1 := hat 1 (by omega)
        have a2 := hat 2 (by omega)
        have a3 := hat 3 (by omega)
        simp only [cellsForm] at a0 a1 a2 a3
        obtain ⟨d0, q0⟩ := x0
        obtain ⟨d1, q1⟩ := x1
        obtain ⟨d2, q2⟩ := x2
        obtain ⟨d3, q3⟩ := x3
        simp only at e0 e1 e2 e3
        subst e0 e1 e2 e3
        simp only [Nat.zero_mul, Nat.one_mul, Nat.reduceMul, List.drop_zero, List.drop_succ_cons, List.take_succ_cons, List.take_zero, List.getElem?_cons_zero, List.getElem?_cons_succ] at a0 a1 a2 a3
        obtain ⟨rfl, rfl, rfl⟩ := one_form a0
        obtain ⟨rfl, rfl, rfl⟩ := one_form a1
        obtain ⟨rfl, rfl, rfl⟩ := one_form a2
        obtain ⟨rfl, rfl, rfl⟩ := one_form a3
        rfl
  subst hcs
  unfold World.var? at hvar
  rw [gForms] at hvar
  simp only [Option.bind_some] at hvar
  unfold Forms
  revert hvar
  cases W.heap[0]? with
  | none => simp
  | some o =>
    cases o with
    | cells c t fr => simp
    | _ => simp

/-- a world for the witness: the settled one, the table holding what its initialiser lays -/
noncomputable def laidWorld (os : Os) : World :=
  { World.holding Tryd.prog os ⟨#[], #[], []⟩ with heap := (World.holding Tryd.prog os ⟨#[], #[], []⟩).heap.modify 0 fun
      | .cells _ t frozen => .cells formCells t frozen
      | o => o }
end Go.Proofs.YtgkcjpidekefoaaDoor
