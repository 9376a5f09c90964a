/- Directives of a Cache-Control value, plain; words for the rows of fields that a loop grows. -/
import Derived.Test.YtegejmbkpdlekaaWlMem
namespace Go.Proofs.Ytegejmbkpdlekaa
open Go.RowKit
theorem tokL_len (l : List UInt8) : (tokL l).length ≤ l.length := List.Sublist.length_le (List.takeWhile_sublist _)
theorem own_slice_n {w : World} {B n size : Nat} {e : TypeId} {v : Value} {xs : List Value} (h : w.ownsRow B e size v n xs) : ∃ A c, v = .slice A n c := by
  rcases h.2 with ⟨rfl, rfl⟩ | ⟨g, cap, cur, rfl, _⟩
  · exact ⟨_, _, rfl⟩
  · exact ⟨_, _, rfl⟩
/-- a directive: name and value, and the rest -/
def dirL (l : List UInt8) : Option (Fld × List UInt8) :=
  if (tokL l).isEmpty then none else
  match tokR l with
  | [] => some ((lowerL (tokL l), []), [])
  | c :: t => if c.toNat = 61 then (valueL t).map fun x => ((lowerL (tokL l), x.1), x.2) else some ((lowerL (tokL l), []), c :: t)
def dirF : Nat → List UInt8 → Option (List Fld)
  | 0, _ => none
  | n + 1, l =>
    match blankL l with
    | [] => some []
    | c :: t =>
      if c.toNat = 44 then dirF n t else
      match dirL (c :: t) with
      | none => none
      | some (f, r) =>
        match blankL r with
        | [] => some [f]
        | d :: u => if d.toNat = 44 then (dirF n u).map (f :: ·) else none
def preF (acc : List Fld) (x : Option (List Fld)) : Option (List Fld) := x.map (acc ++ ·)
theorem preF_nil (x : Option (List Fld)) : preF [] x = x := by cases x <;> rfl
theorem preF_cons (acc : List Fld) (y : Fld) (x : Option (List Fld)) : preF acc (x.map (y :: ·)) = preF (acc ++ [y]) x := by
  cases x <;> simp [preF]
theorem dirL_none {l : List UInt8} (h : (tokL l).isEmpty = true) : dirL l = none := by unfold dirL; rw [if_pos h]
theorem dirL_plain {s : ByteArray} {l : List UInt8} {k : Nat} (ht : (tokL l).isEmpty = false) (hk : s.data.toList.drop k = tokR l) (hn : ∀ h : k < s.size, (s[k].toNat : Int) ≠ 61) : dirL l = some ((lowerL (tokL l), []), s.data.toList.drop k) := by
  unfold dirL
  rw [if_neg (by simp [ht]), ← hk]
  by_cases h : k < s.size
  · rw [drop_cons s k h]; simp only; rw [if_neg (by have := hn h; omega)]
  · rw [drop_end s k h]
theorem dirL_val {s : ByteArray} {l : List UInt8} {k : Nat} (ht : (tokL l).isEmpty = false) (hk : s.data.toList.drop k = tokR l) (h : k < s.size) (hn : (s[k].toNat : Int) = 61) : dirL l = (valueL (s.data.toList.drop (k + 1))).map fun x => ((lowerL (tokL l), x.1), x.2) := by
  unfold dirL
  rw [if_neg (by simp [ht]), ← hk, drop_cons s k h]; simp only; rw [if_pos (by omega)]
section
variable {s : ByteArray} {n j k : Nat} {l r : List UInt8} {acc : List Fld} {f : Fld} {X : Option (List Fld)}
theorem dir_end (hn : l.length < n) (hl : s.data.toList.drop j = blankL l) (h : ¬ j < s.size) (H : preF acc (dirF n l) = X) : X = some acc := by
  obtain ⟨m, rfl⟩ : ∃ m, n = m + 1 := ⟨n - 1, by omega⟩
  rw [drop_end s j h] at hl
  rw [dirF, ← hl] at H
  rw [← H]; simp [preF]
theorem dir_comma (hn : l.length < n) (hl : s.data.toList.drop j = blankL l) (h : j < s.size) (hc : s[j].toNat = 44) (H : preF acc (dirF n l) = X) : preF acc (dirF (n - 1) (s.data.toList.drop (j + 1))) = X := by
  obtain ⟨m, rfl⟩ : ∃ m, n = m + 1 := ⟨n - 1, by omega⟩
  rw [dirF, ← hl, drop_cons s j h] at H
  simp only [if_pos hc] at H
  exact H
theorem dir_bad (hn : l.length < n) (hl : s.data.toList.drop j = blankL l) (h : j < s.size) (hc : ¬ s[j].toNat = 44) (hx : dirL (s.data.toList.drop j) = none) (H : preF acc (dirF n l) = X) : X = none := by
  obtain ⟨m, rfl⟩ : ∃ m, n = m + 1 := ⟨n - 1, by omega⟩
  rw [drop_cons s j h] at hx
  rw [dirF, ← hl, drop_cons s j h] at H
  simp only [if_neg hc, hx] at H
  rw [← H]; rfl
theorem dir_last (hn : l.length < n) (hl : s.data.toList.drop j = blankL l) (h : j < s.size) (hc : ¬ s[j].toNat = 44) (hx : dirL (s.data.toList.drop j) = some (f, r)) (hr : s.data.toList.drop k = blankL r) (h' : ¬ k < s.size) (H : preF acc (dirF n l) = X) : X = some (acc ++ [f]) := by
  obtain ⟨m, rfl⟩ : ∃ m, n = m + 1 := ⟨n - 1, by omega⟩
  rw [drop_end s k h'] at hr
  rw [drop_cons s j h] at hx
  rw [dirF, ← hl, drop_cons s j h] at H
  simp only [if_neg hc, hx, ← hr] at H
  rw [← H]; rfl
theorem dir_tail (hn : l.length < n) (hl : s.data.toList.drop j = blankL l) (h : j < s.size) (hc : ¬ s[j].toNat = 44) (hx : dirL (s.data.toList.drop j) = some (f, r)) (hr : s.data.toList.drop k = blankL r) (h' : k < s.size) (h4 : ¬ s[k].toNat = 44) (H : preF acc (dirF n l) = X) : X = none := by
  obtain ⟨m, rfl⟩ : ∃ m, n = m + 1 := ⟨n - 1, by omega⟩
  rw [drop_cons s k h'] at hr
  rw [drop_cons s j h] at hx
  rw [dirF, ← hl, drop_cons s j h] at H
  simp only [if_neg hc, hx, ← hr, if_neg h4] at H
  rw [← H]; rfl
theorem dir_next (hn : l.length < n) (hl : s.data.toList.drop j = blankL l) (h : j < s.size) (hc : ¬ s[j].toNat = 44) (hx : dirL (s.data.toList.drop j) = some (f, r)) (hr : s.data.toList.drop k = blankL r) (h' : k < s.size) (h4 : s[k].toNat = 44) (H : preF acc (dirF n l) = X) : preF (acc ++ [f]) (dirF (n - 1) (s.data.toList.drop (k + 1))) = X := by
  obtain ⟨m, rfl⟩ : ∃ m, n = m + 1 := ⟨n - 1, by omega⟩
  rw [drop_cons s k h'] at hr
  rw [drop_cons s j h] at hx
  rw [dirF, ← hl, drop_cons s j h] at H
  simp only [if_neg hc, hx, ← hr, if_pos h4] at H
  rw [preF_cons] at H; exact H
theorem dir_ok (hn : 0 < n) (h' : ¬ k < s.size) (hX : X = some acc) : preF acc (dirF n (s.data.toList.drop k)) = X := by
  obtain ⟨m, rfl⟩ : ∃ m, n = m + 1 := ⟨n - 1, by omega⟩
  rw [drop_end s k h', hX, dirF]; simp [preF, blankL]
end
section
variable {w wr w' : World} {B g : Nat} {v : Value} {l : List Fld}
theorem Flds.only {b : Nat} (h : Flds wr B v l) (ho : Only b wr w') (hb : b < B) : Flds w' B v l := h.off ho fun g hg => by cases hg; exact .inl hb
theorem Flds.alloc (h : Flds wr B v l) (o : Obj) : Flds (wr.alloc o) B v l := World.ownsRow.alloc h o
theorem Flds.far (h : Flds wr B v l) {a : Addr} (hne : v.ownBlock ≠ some a.block) (u : Value) : Flds (wr.setCell a u) B v l :=
  World.ownsRow.kept h (row := some a.block) ⟨rfl, rfl, rfl, by simp, fun k _ hk => Below.heap_setCell wr a u k (fun e => hk (by rw [e]))⟩ (.inr hne)
/-- behind the append of a field -/
theorem fld_app {w8 : World} {o : Obj} {v' : Value} {f : Fld} (hB : Below w.heap.size w wr) (hs : w.heap.size ≤ B) (h : Flds wr B v l) (hg : (wr.alloc o).grownBy w8 v.ownBlock) (hown : w8.ownsRow B 61 2 v' (l.length + 1) (fldsV l ++ [.string (S f.1), .string (S f.2)])) :
    Flds w8 B v' (l ++ [f]) ∧ Below w.heap.size w w8 ∧ ∀ b s j, b < B → Cur wr b s j → Cur w8 b s j := by
  have hv : ∀ k, v.ownBlock = some k → B ≤ k := fun k hk => (World.ownsRow.lt h k hk).1
  refine ⟨by unfold Flds; rw [List.length_append, fldsV_snoc]; exact hown, (hB.alloc hB.size o).grown hg (by have := hB.size; simp; omega) (fun k hk => by have := hv k hk; omega), fun b s j hb hc => ?_⟩
  have hc' := hc.alloc o
  exact (hg.block _ hc'.lt (fun e => by have := hv _ e.symm; omega)).trans hc'
end
/-- what Directives answers -/
def DR (w w' : World) (X : Option (List Fld)) (e : Ending) : Prop :=
  (X = none ∧ e = .returned (.tuple #[.slice none 0 0, .bool false])) ∨
  ∃ l v, X = some l ∧ e = .returned (.tuple #[v, .bool true]) ∧ Flds w' w.heap.size v l
end Go.Proofs.Ytegejmbkpdlekaa
