/- strings.NewReplacer at the four strings of grammar.Write. -/
import Derived.Test.YtaopehogpdgkgaaGreatMdWrite
namespace Go.Proofs.YtaopehogpdgkgaaGreat
open Go.RowKit
def onL : List (List UInt8) := [[92], [92, 92], [34], [92, 34]]
theorem wpList_append_rows {ops : Array Oper} {rest : List Oper} {o : Oper} {a : Act} {w : World} {Q : Exit → Act → World → Prop} {T size bytes : Nat} {z : Value} (m : Nat) (hm : 0 < m) (hm9 : m ≤ 1000)
    (hinfo : (Tryz.prog.info? T).map (fun i => (i.zero, i.size, i.bytes)) = some (some z, size, bytes)) (hzs : z.cells.size = size) (hsz : 0 < size) (hby : bytes ≤ 64)
    (hgd : o.guard = none) (s x : Operand) (t : TypeId)
    (ho : o.op = .call { callee := .builtin .append, args := #[s, x], argTypes := #[t, t] }) (ht : Tryz.prog.underlying t = some (.slice T))
    (base : Nat) (v : Value) (n : Nat) (l : List Value) (hs : a.eval s = v) (hown : w.ownsRow base T size v n l)
    (ad : Addr) (c : Nat) (news : List Value) (hx : a.eval x = .slice (some ad) m c) (hl : news.length = m * size) (hnews : ∀ j u, news[j]? = some u → w.cell? (ad.add j) = some u) (h1 : ∀ u ∈ news, u.oneCell' = true)
    (hlen : n ≤ 1000000) (hbase : base ≤ w.heap.size)
    (h : ∀ g cap w', w'.ownsRow base T size (.slice (some ⟨g, 0, none⟩) (n + m) cap) (n + m) (l ++ news) → w.grownBy w' v.ownBlock → wpList Tryz.prog ops Q rest (a.put o.dst (.slice (some ⟨g, 0, none⟩) (n + m) cap)) w') : wpList Tryz.prog ops Q (o :: rest) a w := by
  obtain ⟨i0, hi, hz0, hz1, hz2⟩ := info_parts hinfo
  refine wpList_plain hgd fun _ hK => wp_append_lies w s x t ho base T i0 z size bytes ht hi hz0 hz1 hz2 hzs hsz v n l hs hown ad m c news hx hl hnews h1 hm (by unfold maxLen; omega) ?_ hbase _ rfl ?_
  · have := Nat.mul_le_mul (show n + m ≤ 1001000 by omega) hby
    omega
  · intro g cap w' hown' hg _ _
    exact hK _ _ (h g cap w' hown' hg)
/-- a Replacer in memory, not built -/
def Rp0 (w : World) (g h cap : Nat) : Prop := w.heap[g]? = some (.cells #[.int .u32 0, .int .i32 0, .int .u32 0, .nilIface, .slice (some ⟨h, 0, none⟩) 4 cap] 102 (0, 0)) ∧ ∀ j u, (strsV onL)[j]? = some u → w.cell? ⟨h, j, none⟩ = some u
set_option maxRecDepth 100000 in
set_option maxHeartbeats 2000000 in
theorem newRep_c (c : Nat) (ad : Addr) (w : World) (h : ∀ j u, (strsV onL)[j]? = some u → w.cell? (ad.add j) = some u) :
    Calls Tryz.prog 54 #[.slice (some ad) 4 c] w fun e w' => ∃ g h cap, e = .returned (.pointer (some ⟨g, 0, none⟩)) ∧ Rp0 w' g h cap ∧ w.heap.size ≤ g ∧ w.heap.size ≤ h ∧ g ≠ h ∧ Below w.heap.size w w' := by
  have HC := Lib.hid h
  clear h
  go_enter Tryz.func54, Tryz.ntmps54
  go_wp2_with (at_builtin; refine wpList_append_rows 4 (by decide) (by decide) infoS (by decide) (by decide) (by decide) rfl (.const (.slice none 0 0)) (.tmp 8) 57 rfl Tryz.underlying57 w.heap.size (.slice none 0 0) 0 [] rfl (World.ownsRow_nil _ _ _ _) ad c (strsV onL) rfl (by simp [strsV, onL]) HC.out (by intro u hu; simp [strsV] at hu; obtain ⟨x, _, rfl⟩ := hu; rfl) (by decide) (Nat.le_refl _) ?_)
  intro g cap w1 hown hgr
  have hbel : Below w.heap.size w w1 := ⟨hgr.os, hgr.tape, hgr.output, hgr.size, fun j hj => hgr.block j hj (by simp [Value.ownBlock])⟩
  have hlt := World.ownsRow.lt hown g rfl
  have hcell := fun j (u : Value) (hj : j < 4 * 1) (hu : ([] ++ strsV onL)[j]? = some u) => (World.ownsRow.cellAt hown j hj).trans hu
  have HCL := Lib.hid hcell
  clear hcell hown hgr
  go_wp2_with fail
  go_ret
  refine ⟨w1.heap.size, g, cap, rfl, ⟨heap_alloc_new w1 _, fun j u hu => ?_⟩, hbel.size, hlt.1, by omega, hbel.alloc hbel.size _⟩
  have hj : j < 4 * 1 := by
    have := (List.getElem?_eq_some_iff.1 hu).1
    simpa [strsV, onL] using this
  exact (((Below.refl _ w1).alloc (Nat.le_refl _) _).cell (p := ⟨g, j, none⟩) hlt.2).trans (HCL.out j u hj hu)
end Go.Proofs.YtaopehogpdgkgaaGreat
