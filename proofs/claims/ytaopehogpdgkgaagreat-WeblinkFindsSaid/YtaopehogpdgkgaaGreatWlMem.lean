/- Rows of strings, of fields and of links in memory. -/
import Derived.Test.YtaopehogpdgkgaaGreatWlPlain
namespace Go.Proofs.YtaopehogpdgkgaaGreat
open Go.RowKit
def strsV (l : List (List UInt8)) : List Value := l.map fun x => .string (S x)
def fldsV (l : List Fld) : List Value := l.flatMap fun f => [.string (S f.1), .string (S f.2)]
theorem strsV_len (l : List (List UInt8)) : (strsV l).length = l.length := by simp [strsV]
theorem fldsV_len (l : List Fld) : (fldsV l).length = l.length * 2 := by
  induction l with
  | nil => rfl
  | cons x t ih => simp [fldsV, List.flatMap_cons] at ih ⊢; omega
theorem fldsV_snoc (l : List Fld) (f : Fld) : fldsV (l ++ [f]) = fldsV l ++ [.string (S f.1), .string (S f.2)] := by simp [fldsV]
theorem fldsV_at : ∀ (l : List Fld) (i : Nat) (h : i < l.length), (fldsV l)[i * 2]? = some (.string (S l[i].1)) ∧ (fldsV l)[i * 2 + 1]? = some (.string (S l[i].2))
  | [], i, h => absurd h (by simp)
  | y :: t, 0, h => by simp [fldsV]
  | y :: t, i + 1, h => by
    have ih := fldsV_at t i (by simpa using h)
    have e : fldsV (y :: t) = .string (S y.1) :: .string (S y.2) :: fldsV t := by simp [fldsV]
    rw [e, show (i + 1) * 2 = i * 2 + 1 + 1 by omega, show i * 2 + 1 + 1 + 1 = (i * 2 + 1) + 1 + 1 by omega]
    simpa using ih
theorem strsV_at (l : List (List UInt8)) (i : Nat) (h : i < l.length) : (strsV l)[i]? = some (.string (S l[i])) := by simp [strsV, h]
theorem fields_strsV (l : List (List UInt8)) : (l.map S).map Value.string = strsV l := by simp [strsV]
/-- v is a row of strings, made from block B on -/
def Strs (w : World) (B : Nat) (v : Value) (l : List (List UInt8)) : Prop := w.ownsRow B 9 1 v l.length (strsV l)
def Flds (w : World) (B : Nat) (v : Value) (l : List Fld) : Prop := w.ownsRow B 52 2 v l.length (fldsV l)
/-- the cells of links -/
def LinksRel (w : World) (B : Nat) : List Lnk → List Value → Prop
  | [], cs => cs = []
  | x :: xs, cs => ∃ rv pv ds, cs = .string (S x.1) :: rv :: pv :: ds ∧ Strs w B rv x.2.1 ∧ Flds w B pv x.2.2 ∧ LinksRel w B xs ds
def Links (w : World) (B : Nat) (v : Value) (l : List Lnk) : Prop := ∃ cs, w.ownsRow B 59 3 v l.length cs ∧ LinksRel w B l cs
/-- whether block g is none of strings or fields -/
def Off (w : World) (g : Nat) : Prop := ∀ C m, w.heap[g]? ≠ some (.cells C 9 m) ∧ w.heap[g]? ≠ some (.cells C 52 m)
section
variable {w w' : World} {B g n size : Nat} {e : TypeId} {v : Value} {row : Option Nat} {xs : List Value}
theorem own_off (h : w.ownsRow B e size v n xs) (hg : v.ownBlock = some g) : ∃ C, w.heap[g]? = some (.cells C e (0, 0)) := by
  rcases h.2 with ⟨rfl, _⟩ | ⟨g', cap, cur, rfl, _, hh, _⟩
  · simp [Value.ownBlock] at hg
  · simp [Value.ownBlock] at hg; subst hg; exact ⟨cur, hh⟩
theorem off_of {C : Array Value} {m : Nat × Nat} (h : w.heap[g]? = some (.cells C e m)) (h1 : e ≠ 9) (h2 : e ≠ 52) : Off w g := fun C' m' => by
  rw [h]
  exact ⟨fun he => by injection he with he; injection he with _ he _; exact h1 he, fun he => by injection he with he; injection he with _ he _; exact h2 he⟩
theorem own_keep (h : w.ownsRow B e size v n xs) (hg : w.grownBy w' row) (ho : ∀ g, row = some g → g < B ∨ ∀ C m, w.heap[g]? ≠ some (.cells C e m)) : w'.ownsRow B e size v n xs := by
  refine World.ownsRow.kept h hg ?_
  cases hv : v.ownBlock with
  | none => exact .inl rfl
  | some g =>
    refine .inr fun e => ?_
    rcases ho g e.symm with h1 | h1
    · have := (World.ownsRow.lt h g hv).1; omega
    · obtain ⟨C, hC⟩ := own_off h hv
      exact h1 C (0, 0) hC
theorem Strs.off {l : List (List UInt8)} (h : Strs w B v l) (hg : w.grownBy w' row) (ho : ∀ g, row = some g → g < B ∨ Off w g) : Strs w' B v l :=
  own_keep h hg fun g hr => (ho g hr).elim .inl fun h1 => .inr fun C m => (h1 C m).1
theorem Flds.off {l : List Fld} (h : Flds w B v l) (hg : w.grownBy w' row) (ho : ∀ g, row = some g → g < B ∨ Off w g) : Flds w' B v l :=
  own_keep h hg fun g hr => (ho g hr).elim .inl fun h1 => .inr fun C m => (h1 C m).2
theorem LinksRel.off (hg : w.grownBy w' row) (ho : ∀ g, row = some g → g < B ∨ Off w g) : ∀ {l : List Lnk} {cs : List Value}, LinksRel w B l cs → LinksRel w' B l cs
  | [], _, h => h
  | _ :: _, _, ⟨rv, pv, ds, h1, h2, h3, h4⟩ => ⟨rv, pv, ds, h1, h2.off hg ho, h3.off hg ho, LinksRel.off hg ho h4⟩
theorem LinksRel.snoc {x : Lnk} {rv pv : Value} (h2 : Strs w B rv x.2.1) (h3 : Flds w B pv x.2.2) : ∀ {l : List Lnk} {cs : List Value}, LinksRel w B l cs → LinksRel w B (l ++ [x]) (cs ++ [.string (S x.1), rv, pv])
  | [], _, h => by
    have : LinksRel w B [] _ := h
    subst h
    exact ⟨rv, pv, [], rfl, h2, h3, rfl⟩
  | _ :: _, _, ⟨rv', pv', ds, h1, g2, g3, h4⟩ => by
    subst h1
    exact ⟨rv', pv', _, rfl, g2, g3, LinksRel.snoc h2 h3 h4⟩
theorem LinksRel.at_ : ∀ {l : List Lnk} {cs : List Value} (i : Nat) (hi : i < l.length), LinksRel w B l cs →
    ∃ rv pv, cs[i * 3]? = some (.string (S l[i].1)) ∧ cs[i * 3 + 1]? = some rv ∧ cs[i * 3 + 2]? = some pv ∧ Strs w B rv l[i].2.1 ∧ Flds w B pv l[i].2.2
  | [], _, i, hi, _ => absurd hi (by simp)
  | _ :: _, _, 0, _, ⟨rv, pv, ds, h1, h2, h3, _⟩ => by subst h1; exact ⟨rv, pv, rfl, rfl, rfl, h2, h3⟩
  | _ :: _, _, i + 1, hi, ⟨rv', pv', ds, h1, _, _, h4⟩ => by
    subst h1
    obtain ⟨rv, pv, a, b, c, d, f⟩ := LinksRel.at_ i (by simpa using hi) h4
    refine ⟨rv, pv, ?_, ?_, ?_, d, f⟩
    · rw [show (i + 1) * 3 = i * 3 + 1 + 1 + 1 by omega]; simpa using a
    · rw [show (i + 1) * 3 + 1 = i * 3 + 1 + 1 + 1 + 1 by omega]; simpa using b
    · rw [show (i + 1) * 3 + 2 = i * 3 + 2 + 1 + 1 + 1 by omega]; simpa using c
theorem own_base {B' : Nat} (h : w.ownsRow B e size v n xs) (hB : B' ≤ B) : w.ownsRow B' e size v n xs := by
  refine ⟨h.1, ?_⟩
  rcases h.2 with h0 | ⟨g, cap, cur, hv, hb, rest⟩
  · exact .inl h0
  · exact .inr ⟨g, cap, cur, hv, Nat.le_trans hB hb, rest⟩
theorem Strs.base {B' : Nat} {l : List (List UInt8)} (h : Strs w B v l) (hB : B' ≤ B) : Strs w B' v l := own_base h hB
theorem Flds.base {B' : Nat} {l : List Fld} (h : Flds w B v l) (hB : B' ≤ B) : Flds w B' v l := own_base h hB
theorem Flds.below {C : Nat} {l : List Fld} (h : Flds w B v l) (hb : Below C w w') (hC : ∀ g, v.ownBlock = some g → g < C) : Flds w' B v l := by
  refine ⟨h.1, ?_⟩
  rcases h.2 with h0 | ⟨g, cap, cur, rfl, hb', hg, rest⟩
  · exact .inl h0
  · exact .inr ⟨g, cap, cur, rfl, hb', (hb.block g (hC g rfl)).trans hg, rest⟩
theorem grown_below (h : Below w.heap.size w w') (row : Option Nat) : w.grownBy w' row := ⟨h.os, h.tape, h.output, h.size, fun j hj _ => h.block j hj⟩
theorem Flds.later {l : List Fld} (h : Flds w B v l) (hb : Below w.heap.size w w') : Flds w' B v l := h.below hb fun g hg => (World.ownsRow.lt h g hg).2
theorem own_ne {g : Nat} (h : w.ownsRow B e size v n xs) (hg : w.heap.size ≤ g) : v.ownBlock ≠ some g := fun e => by have := (World.ownsRow.lt h g e).2; omega
theorem Strs.nil : Strs w B (.slice none 0 0) [] := World.ownsRow_nil _ _ _ _
theorem Flds.nil : Flds w B (.slice none 0 0) [] := World.ownsRow_nil _ _ _ _
theorem Links.nil : Links w B (.slice none 0 0) [] := ⟨[], World.ownsRow_nil _ _ _ _, rfl⟩
/-- a row is nil or lies in a block -/
theorem own_form (h : w.ownsRow B e size v n xs) : (v = .slice none 0 0 ∧ n = 0) ∨ ∃ g cap, v = .slice (some ⟨g, 0, none⟩) n cap ∧ B ≤ g ∧ g < w.heap.size := by
  rcases h.2 with h | ⟨g, cap, cur, rfl, hb, hh, _⟩
  · exact .inl h
  · exact .inr ⟨g, cap, rfl, hb, heap_lt hh⟩
end
theorem infoF : (Tryz.prog.info? 52).map (fun i => (i.zero, i.size, i.bytes)) = some (some (.agg #[.string ⟨#[]⟩, .string ⟨#[]⟩]), 2, 32) := by kernel_rfl
theorem infoW : (Tryz.prog.info? 59).map (fun i => (i.zero, i.size, i.bytes)) = some (some (.agg #[.string ⟨#[]⟩, .slice none 0 0, .slice none 0 0]), 3, 64) := by kernel_rfl
theorem infoS : (Tryz.prog.info? 9).map (fun i => (i.zero, i.size, i.bytes)) = some (some (.string ⟨#[]⟩), 1, 16) := by kernel_rfl
/-- append of one element to a row of the call's own -/
theorem wpList_append_row {ops : Array Oper} {rest : List Oper} {o : Oper} {a : Act} {w : World} {Q : Exit → Act → World → Prop} {T size bytes : Nat} {z : Value}
    (hinfo : (Tryz.prog.info? T).map (fun i => (i.zero, i.size, i.bytes)) = some (some z, size, bytes)) (hzs : z.cells.size = size) (hsz : 0 < size) (hby : bytes ≤ 64)
    (hgd : o.guard = none) (s x : Operand) (t : TypeId)
    (ho : o.op = .call { callee := .builtin .append, args := #[s, x], argTypes := #[t, t] }) (ht : Tryz.prog.underlying t = some (.slice T))
    (base : Nat) (v : Value) (n : Nat) (l : List Value) (hs : a.eval s = v) (hown : w.ownsRow base T size v n l)
    (ad : Addr) (c : Nat) (news : List Value) (hx : a.eval x = .slice (some ad) 1 c) (hl : news.length = 1 * size) (hnews : ∀ j u, news[j]? = some u → w.cell? (ad.add j) = some u) (h1 : ∀ u ∈ news, u.oneCell' = true)
    (hlen : n ≤ 1000000) (hbase : base ≤ w.heap.size)
    (h : ∀ g cap w', w'.ownsRow base T size (.slice (some ⟨g, 0, none⟩) (n + 1) cap) (n + 1) (l ++ news) → w.grownBy w' v.ownBlock → wpList Tryz.prog ops Q rest (a.put o.dst (.slice (some ⟨g, 0, none⟩) (n + 1) cap)) w') : wpList Tryz.prog ops Q (o :: rest) a w := by
  obtain ⟨i0, hi, hz0, hz1, hz2⟩ := info_parts hinfo
  refine wpList_plain hgd fun _ hK => wp_append_lies w s x t ho base T i0 z size bytes ht hi hz0 hz1 hz2 hzs hsz v n l hs hown ad 1 c news hx hl hnews h1 (by decide) (by unfold maxLen; omega) ?_ hbase _ rfl ?_
  · have := Nat.mul_le_mul (show n + 1 ≤ 1000001 by omega) hby
    omega
  · intro g cap w' hown' hg _ _
    exact hK _ _ (h g cap w' hown' hg)
theorem news_of (w : World) (l : List Value) (T : TypeId) (C : Array Value) (hC : C = l.toArray) : ∀ j u, l[j]? = some u → (w.alloc (.cells C T)).cell? ((⟨w.heap.size, 0, none⟩ : Addr).add j) = some u := by
  subst hC
  exact World.news_of_block (heap_alloc_new w _)
theorem S_beq (l m : List UInt8) : ((S l).toList == m) = decide (l = m) := by rw [S_toList]; by_cases h : l = m <;> simp [h]
theorem cTake_b (b : Nat) (s : ByteArray) (k : Nat) (hk : k ≤ s.size) (hs : s.size ≤ 1000000) (c : Int) (h0 : 0 ≤ c) (h1 : c ≤ 255) (w : World) (hc : Cur w b s k) (t : Bool) (ht : t = decide (∃ hlt : k < s.size, (s[k].toNat : Int) = c)) :
    Calls Tryz.prog 30 #[.pointer (some ⟨b, 0, none⟩), .int .u8 c] w fun e w' => e = .returned (.bool t) ∧ Cur w' b s (if t then k + 1 else k) ∧ Only b w w' := by
  refine (cTake_c b s k hk hs c h0 h1 w hc).mono ?_
  rintro e w' ⟨t', rfl, hT, hF, ho⟩
  subst ht
  cases t' with
  | true =>
    obtain ⟨h, he, hcur⟩ := hT rfl
    have hd : decide (∃ hlt : k < s.size, (s[k].toNat : Int) = c) = true := decide_eq_true ⟨h, he⟩
    rw [hd]; exact ⟨rfl, hcur, ho⟩
  | false =>
    obtain ⟨h, hcur⟩ := hF rfl
    have hd : decide (∃ hlt : k < s.size, (s[k].toNat : Int) = c) = false := decide_eq_false fun ⟨h', he⟩ => h h' he
    rw [hd]; exact ⟨rfl, hcur, ho⟩
end Go.Proofs.YtaopehogpdgkgaaGreat
