/- Contracts: the escape of a byte (program's method, reference's function), digits, escapes read at an offset. -/
import Derived.Test.YtgkcjpidekefoaaPctMem
namespace Go.Proofs.Ytgkcjpidekefoaa
open Go.RowKit

theorem hexS_all : ∀ n : Fin 16, ((⟨#[48, 49, 50, 51, 52, 53, 54, 55, 56, 57, 65, 66, 67, 68, 69, 70]⟩ : ByteArray).data.toList[n.val]'(by simp)).toNat = (hexU n.val).toNat := by decide +kernel
theorem ix_hex (w : World) (i : Int) (h0 : 0 ≤ i) (h1 : i < 16) : (Instr.index 9 (.string ⟨#[48, 49, 50, 51, 52, 53, 54, 55, 56, 57, 65, 66, 67, 68, 69, 70]⟩) (.int .u8 i)).run Try.prog w = .ok (.int .u8 ((hexU i.toNat).toNat : Int)) w := by
  rw [run_index_string (P := Try.prog) w 9 _ .u8 i Try.underlying9, dif_pos ⟨h0, h1⟩]
  have h := hexS_all ⟨i.toNat, by omega⟩
  show Result.ok (Value.int .u8 _) w = Result.ok (Value.int .u8 ((hexU i.toNat).toNat : Int)) w
  rw [← h]; rfl
theorem own_block {w : World} {base : Nat} {v : Value} {l : List UInt8} (h : Own w base v l) {k : Nat} (hk : v.ownBlock = some k) : base ≤ k := (World.ownsRow.lt h k hk).1
theorem esc_keep {w w2 : World} {g : Nat} {v : Value} {l : List UInt8} {o X : Obj} (hg : w.heap[g]? = some o) (ho : Own w (g + 1) v l) (h : ((w.alloc X).drew).grownBy w2 v.ownBlock) : w2.heap[g]? = some o := by
  rw [h.block g (by have := heap_lt hg; simp; omega) (fun e => by have := own_block ho e.symm; omega)]
  exact (Below.heap_alloc w X g (heap_lt hg)).trans hg
theorem esc_below {w w2 : World} {g : Nat} {v : Value} {l : List UInt8} {o X : Obj} (hg : w.heap[g]? = some o) (ho : Own w (g + 1) v l) (h : ((w.alloc X).drew).grownBy w2 v.ownBlock) : Below g w w2 := by
  have hlt := heap_lt hg
  exact (((Below.refl g w).alloc (by omega) X).drew).grown h (by simp; omega) (fun k hk => by have := own_block ho hk; omega)
theorem escL_of {c : Int} (h0 : 0 ≤ c) (h1 : c ≤ 255) : (escL (UInt8.ofNat c.toNat)).map bv = [.int .u8 37, .int .u8 ((hexU (c / 16).toNat).toNat : Int), .int .u8 ((hexU (c % 16).toNat).toNat : Int)] := by
  have e : (UInt8.ofNat c.toNat).toNat = c.toNat := UInt8.toNat_ofNat_of_lt' (by show c.toNat < 256; omega)
  simp only [escL, List.map_cons, List.map_nil, bv, e]
  rw [show (c / 16).toNat = c.toNat / 16 by omega, show (c % 16).toNat = c.toNat % 16 by omega]
  rfl
theorem escL_len (c : UInt8) : (escL c).length = 3 := rfl
theorem esc_fin {w w2 : World} {g : Nat} {v : Value} {l : List UInt8} {X : Obj} {c : Int} (h0 : 0 ≤ c) (h1 : c ≤ 255) (hg : w.heap[g]? = some (.cells #[v] 47 (0, 0))) (ho : Own w (g + 1) v l) (h : ((w.alloc X).drew).grownBy w2 v.ownBlock)
    {g2 cap : Nat} (hown : w2.ownsRow (g + 1) 5 1 (.slice (some ⟨g2, 0, none⟩) (l.length + 3) cap) (l.length + 3) (l.map bv ++ [.int .u8 37, .int .u8 ((hexU (c / 16).toNat).toNat : Int), .int .u8 ((hexU (c % 16).toNat).toNat : Int)])) :
    ∃ v', (w2.setCell ⟨g, 0, none⟩ (.slice (some ⟨g2, 0, none⟩) (l.length + 3) cap)).heap[g]? = some (.cells #[v'] 47 (0, 0)) ∧
      Own (w2.setCell ⟨g, 0, none⟩ (.slice (some ⟨g2, 0, none⟩) (l.length + 3) cap)) (g + 1) v' (l ++ escL (UInt8.ofNat c.toNat)) ∧ Below g w (w2.setCell ⟨g, 0, none⟩ (.slice (some ⟨g2, 0, none⟩) (l.length + 3) cap)) := by
  refine ⟨_, one_setCell (esc_keep hg ho h), ?_, (esc_below hg ho h).setCell (Nat.le_refl g) _⟩
  unfold Own
  rw [List.map_append, escL_of h0 h1, List.length_append, escL_len]
  exact ownsRow_setCell_below hown (Nat.lt_succ_self g) _
set_option maxHeartbeats 1000000 in
theorem esc_c (g : Nat) (v : Value) (l : List UInt8) (c : Int) (h0 : 0 ≤ c) (h1 : c ≤ 255) (w : World) (hg : w.heap[g]? = some (.cells #[v] 47 (0, 0))) (ho : Own w (g + 1) v l) (hl : l.length ≤ 1000000) :
    Calls Try.prog 66 #[.pointer (some ⟨g, 0, none⟩), .int .u8 c] w fun e w' => e = .returned (.tuple #[]) ∧
      ∃ v', w'.heap[g]? = some (.cells #[v'] 47 (0, 0)) ∧ Own w' (g + 1) v' (l ++ escL (UInt8.ofNat c.toNat)) ∧ Below g w w' := by
  have hc := cell_of_one hg
  have hf := free_of_one hg
  have hca : ∀ o, (w.alloc o).cell? ⟨g, 0, none⟩ = some v := fun o => cell_of_one ((Below.heap_alloc w o g (heap_lt hg)).trans hg)
  have ix1 := fun w => ix_hex w (c / 16) (by omega) (by omega)
  have e15 : bits .and .u8 c 15 = c % 16 := u8_and15 (x := c) h0 (by omega)
  have ix2 := fun w => ix_hex w (c % 16) (by omega) (by omega)
  have hone : ∀ u ∈ ([.int .u8 37, .int .u8 ((hexU (c / 16).toNat).toNat : Int), .int .u8 ((hexU (c % 16).toNat).toNat : Int)] : List Value), u.oneCell' = true := by intro u hu; simp at hu; rcases hu with rfl | rfl | rfl <;> rfl
  have hm1 : l.length + 3 ≤ maxLen := by unfold maxLen; omega
  have hm2 : (l.length + 3) * 1 ≤ 140737488355328 := by omega
  have hbase : ∀ o, g + 1 ≤ (w.alloc o).drew.heap.size := fun o => by have := heap_lt hg; simp; omega
  obtain ⟨i0, hi, hz0, hz1, hz2⟩ := info_parts info5
  go_enter Try.func66, Try.ntmps66
  go_wp2_with fail
  go_region_law ((refine step_append_lies _ rfl _ _ 47 rfl (g + 1) 5 i0 (.int .u8 0) 1 1 Try.underlying47 hi hz0 hz1 hz2 rfl (by decide) v l.length (l.map bv) rfl (ho.alloc _) ⟨w.heap.size, 0, none⟩ 3 3 [.int .u8 37, .int .u8 ((hexU (c / 16).toNat).toNat : Int), .int .u8 ((hexU (c % 16).toNat).toNat : Int)] rfl rfl (World.news_of_block (heap_alloc_new w _)) hone (by decide) hm1 hm2 (hbase _) _ rfl ?_; intro g2 cap w2 hown2 hgr2 hwh2 hlt2; have hc2 := cell_of_one (esc_keep hg ho hgr2); have hf2 := free_of_one (esc_keep hg ho hgr2)))
  all_goals
    go_end0
    exact ⟨rfl, esc_fin h0 h1 hg ho ‹_› ‹_›⟩

set_option maxHeartbeats 1000000 in
theorem rEsc_c (c : Int) (h0 : 0 ≤ c) (h1 : c ≤ 255) (w : World) :
    Calls Try.prog 67 #[.int .u8 c] w fun e w' => e = .returned (.string (S (escL (UInt8.ofNat c.toNat)))) ∧ Below w.heap.size w w' := by
  have ix1 := fun w => ix_hex w (c / 16) (by omega) (by omega)
  have ix2 := fun w => ix_hex w (c % 16) (by omega) (by omega)
  have hcv : (convert 42 9 (.slice (some ⟨w.heap.size, 0, none⟩) 3 3)).run Try.prog (w.alloc (.cells #[.int .u8 37, .int .u8 ((hexU (c / 16).toNat).toNat : Int), .int .u8 ((hexU (c % 16).toNat).toNat : Int)] 5)).drew = .ok (.string (S (escL (UInt8.ofNat c.toNat)))) (w.alloc (.cells #[.int .u8 37, .int .u8 ((hexU (c / 16).toNat).toNat : Int), .int .u8 ((hexU (c % 16).toNat).toNat : Int)] 5)).drew := by
    have e := escL_of h0 h1
    refine run_convert_bytes_back (P := Try.prog) _ 42 9 5 _ _ (escL (UInt8.ofNat c.toNat)) Try.underlying42 Try.underlying5 Try.underlying9 fun j hj => ?_
    refine World.news_of_block (w := (w.alloc (.cells #[.int .u8 37, .int .u8 ((hexU (c / 16).toNat).toNat : Int), .int .u8 ((hexU (c % 16).toNat).toNat : Int)] 5))) (heap_alloc_new w _) j _ ?_
    show [_, _, _][j]? = _
    rw [← e, List.getElem?_map, List.getElem?_eq_getElem hj]; rfl
  go_enter Try.func67, Try.ntmps67
  go_wp2_with fail
  go_region
  all_goals
    go_wp2
    go_ret
    exact ⟨rfl, ((Below.refl _ _).alloc (Nat.le_refl _) _).drew⟩
end Go.Proofs.Ytgkcjpidekefoaa
