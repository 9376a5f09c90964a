/- (*strings.Replacer).build at the four strings of grammar.Write. -/
import Derived.Test.YtaopehogpdgkgaaGreatRpNew
import Derived.Deep.WholeRow
import Derived.LoopN
import Derived.WalkSpells
namespace Go.Proofs.YtaopehogpdgkgaaGreat
open Go.RowKit
theorem rp_cells {w : World} {g : Nat} {x0 x1 x2 x3 x4 : Value} {T : TypeId} (h : w.heap[g]? = some (.cells #[x0, x1, x2, x3, x4] T (0, 0))) :
    w.cell? ⟨g, 0, none⟩ = some x0 ∧ w.cell? ⟨g, 1, none⟩ = some x1 ∧ w.cell? ⟨g, 2, none⟩ = some x2 ∧ w.cell? ⟨g, 3, none⟩ = some x3 ∧ w.cell? ⟨g, 4, none⟩ = some x4 ∧ (∀ j, w.frozen? ⟨g, j, none⟩ = false) := by
  refine ⟨?_, ?_, ?_, ?_, ?_, fun j => ?_⟩ <;> simp [World.cell?, World.frozen?, h]
/-- the fresh byteStringReplacer's cells -/
def setA (Z : Array Value) (v : Value) : Array Value := (Z.toList.set 256 v).toArray
theorem zero_len : Tryz.zeroCells129.toList.length = 257 := by kernel_rfl
theorem bsrC_size (v : Value) : (setA Tryz.zeroCells129 v).size = 257 := by unfold setA; rw [List.size_toArray, List.length_set]; exact zero_len
theorem bsrC_256 (v : Value) : (setA Tryz.zeroCells129 v)[256]? = some v := by
  unfold setA; rw [List.getElem?_toArray, List.getElem?_set_self (by rw [zero_len]; decide)]
theorem zero_at : ∀ j : Fin 256, Tryz.zeroCells129.toList[j.val]? = some (.slice none 0 0) := by
  have h : (Tryz.zeroCells129.toList.take 256) = List.replicate 256 (.slice none 0 0) := by kernel_rfl
  intro j
  have h1 : (Tryz.zeroCells129.toList.take 256)[j.val]? = Tryz.zeroCells129.toList[j.val]? := by rw [List.getElem?_take, if_pos j.isLt]
  rw [← h1, h, List.getElem?_replicate, if_pos j.isLt]
theorem bsrC_at (v : Value) {j : Nat} (h : j < 256) : (setA Tryz.zeroCells129 v)[j]? = some (.slice none 0 0) := by
  unfold setA; rw [List.getElem?_toArray, List.getElem?_set_ne (by omega)]
  exact zero_at ⟨j, h⟩
theorem bsr_store (W : World) (v : Value) (hv : v.oneCell' = true) : (storeCells ⟨W.heap.size, 0, none⟩ (Tryz.zeroCells129.toList.set 256 v)).run Tryz.prog (W.alloc (.cells Tryz.zeroCells129 129)) = .ok () (W.alloc (.cells (setA Tryz.zeroCells129 v) 129)) := by
  have h := run_storeCells_new (P := Tryz.prog) W 129 Tryz.zeroCells129 (setA Tryz.zeroCells129 v) (by rw [bsrC_size]; kernel_rfl) (by rw [bsrC_size]; kernel_rfl) (by
    unfold setA
    rw [List.all_toArray, List.all_eq_true]
    intro x hx
    rcases List.mem_or_eq_of_mem_set hx with hx | rfl
    · have : (Tryz.zeroCells129.toList.all (·.oneCell')) = true := by kernel_rfl
      exact List.all_eq_true.1 this x hx
    · exact hv)
  have e : (setA Tryz.zeroCells129 v).toList = Tryz.zeroCells129.toList.set 256 v := by unfold setA; rw [List.toList_toArray]
  rw [e] at h
  exact h
theorem conv1r (w : World) (d : UInt8) : (convert 67 9 (.slice (some ⟨w.heap.size, 0, none⟩) 1 1)).run Tryz.prog (w.alloc (.cells #[.int .u8 (d.toNat : Int)] 5)) = .ok (.string (S [d])) (w.alloc (.cells #[.int .u8 (d.toNat : Int)] 5)) := by
  refine run_convert_bytes_back (P := Tryz.prog) _ 67 9 5 _ _ [d] Tryz.underlying67 Tryz.underlying5 Tryz.underlying9 fun j hj => ?_
  have : (⟨w.heap.size, 0, none⟩ : Addr).add j = ⟨w.heap.size, j, none⟩ := by unfold Addr.add; split <;> simp_all
  rw [this, cell_of_row _ _ j _ _ _ (heap_alloc_new w _)]
  match j, hj with
  | 0, _ => rfl
theorem setCell_blk {w : World} {g : Nat} {C : Array Value} {T : TypeId} {m : Nat × Nat} (h : w.heap[g]? = some (.cells C T m)) (i : Nat) (u : Value) : (w.setCell ⟨g, i, none⟩ u).heap[g]? = some (.cells (C.setIfInBounds i u) T m) := by
  simp [World.setCell, Array.getElem?_modify, h]
/-- the byteStringReplacer under way -/
structure BS (w wr : World) (b : Nat) (C : Array Value) (rv : Value) (tr : List (List UInt8)) : Prop where
  bel : Below w.heap.size w wr
  blk : wr.heap[b]? = some (.cells C 129 (0, 0))
  own : Strs wr w.heap.size rv tr
  ge : w.heap.size ≤ b
theorem BS.ne {w wr : World} {b : Nat} {C : Array Value} {rv : Value} {tr : List (List UInt8)} (h : BS w wr b C rv tr) : rv.ownBlock ≠ some b := fun e => by
  obtain ⟨C', hC'⟩ := own_off h.own e
  rw [h.blk] at hC'; injection hC' with hC'; injection hC' with _ hC' _; revert hC'; decide
theorem bs_app {w wr w3 : World} {b : Nat} {C : Array Value} {rv : Value} {tr : List (List UInt8)} (h : BS w wr b C rv tr) {o1 o2 : Obj} (hgr : ((wr.alloc o1).alloc o2).grownBy w3 rv.ownBlock) :
    (∀ j, j < wr.heap.size → rv.ownBlock ≠ some j → w3.heap[j]? = wr.heap[j]?) ∧ Below w.heap.size w w3 ∧ wr.heap.size < w3.heap.size := by
  have hs := h.bel.size
  have hg := hgr.size
  have keep : ∀ j, j < wr.heap.size → rv.ownBlock ≠ some j → w3.heap[j]? = wr.heap[j]? := fun j hj hn =>
    (hgr.block j (by simp; omega) (fun e => hn e.symm)).trans ((Below.heap_alloc _ _ _ (by simp; omega)).trans (Below.heap_alloc _ _ _ hj))
  refine ⟨keep, ⟨hgr.os.trans h.bel.os, hgr.tape.trans h.bel.tape, hgr.output.trans h.bel.output, by simp at hg; omega, fun j hj => ?_⟩, by simp at hg; omega⟩
  exact (keep j (by omega) (fun e => by have := (World.ownsRow.lt h.own j e).1; omega)).trans (h.bel.block j hj)
theorem bs_step {w wr w3 : World} {b oi gg capn : Nat} {C : Array Value} {rv u : Value} {tr : List (List UInt8)} {x : List UInt8} (h : BS w wr b C rv tr) {o1 o2 : Obj} (hgr : ((wr.alloc o1).alloc o2).grownBy w3 rv.ownBlock)
    (hown : w3.ownsRow w.heap.size 9 1 (.slice (some ⟨gg, 0, none⟩) (tr.length + 1) capn) (tr.length + 1) (strsV tr ++ [.string (S x)])) (n : ByteArray) :
    BS w ((Lib.bytesWorld (w3.setCell ⟨b, 256, none⟩ (.slice (some ⟨gg, 0, none⟩) (tr.length + 1) capn)) 5 n).setCell ⟨b, oi, none⟩ u) b ((C.setIfInBounds 256 (.slice (some ⟨gg, 0, none⟩) (tr.length + 1) capn)).setIfInBounds oi u) (.slice (some ⟨gg, 0, none⟩) (tr.length + 1) capn) (tr ++ [x]) ∧
      BytesAt ((Lib.bytesWorld (w3.setCell ⟨b, 256, none⟩ (.slice (some ⟨gg, 0, none⟩) (tr.length + 1) capn)) 5 n).setCell ⟨b, oi, none⟩ u) w3.heap.size 5 n.data.toList ∧
      (∀ j, j < wr.heap.size → rv.ownBlock ≠ some j → j ≠ b → ((Lib.bytesWorld (w3.setCell ⟨b, 256, none⟩ (.slice (some ⟨gg, 0, none⟩) (tr.length + 1) capn)) 5 n).setCell ⟨b, oi, none⟩ u).heap[j]? = wr.heap[j]?) := by
  obtain ⟨keep, hbel, hlt⟩ := bs_app h hgr
  have hbl := heap_lt h.blk
  have hb3 := (keep b hbl h.ne).trans h.blk
  have hsz : (w3.setCell ⟨b, 256, none⟩ (.slice (some ⟨gg, 0, none⟩) (tr.length + 1) capn)).heap.size = w3.heap.size := by simp
  have hbb := below_bytes (w3.setCell ⟨b, 256, none⟩ (.slice (some ⟨gg, 0, none⟩) (tr.length + 1) capn)) 5 n
  have hba := BytesAt.new (w3.setCell ⟨b, 256, none⟩ (.slice (some ⟨gg, 0, none⟩) (tr.length + 1) capn)) 5 n
  rw [hsz] at hbb hba
  have hbs := hbb.size
  have hge := h.ge
  have hb4 : (w3.setCell ⟨b, 256, none⟩ (.slice (some ⟨gg, 0, none⟩) (tr.length + 1) capn)).heap[b]? = some (.cells (C.setIfInBounds 256 (.slice (some ⟨gg, 0, none⟩) (tr.length + 1) capn)) 129 (0, 0)) := by
    simp [World.setCell, Array.getElem?_modify, hb3]
  have hb5 := (hbb.block b (by omega)).trans hb4
  refine ⟨⟨?_, ?_, ?_, hge⟩, ?_, ?_⟩
  · exact ((hbel.setCell hge _).trans (hbb.mono (by have := hbel.size; omega))).setCell hge _
  · exact setCell_blk hb5 oi u
  · unfold Strs
    rw [List.length_append, show strsV (tr ++ [x]) = strsV tr ++ [.string (S x)] by simp [strsV]]
    have hneb : (Value.slice (some ⟨gg, 0, none⟩) (tr.length + 1) capn).ownBlock ≠ some b := fun e => by
      obtain ⟨C', hC'⟩ := own_off hown e
      rw [hb3] at hC'; injection hC' with hC'; injection hC' with _ hC' _; revert hC'; decide
    have hgl := World.ownsRow.lt hown gg rfl
    have k1 := World.ownsRow.kept (row := some b) hown (Only.set (b := b) (j := 256) (.slice (some ⟨gg, 0, none⟩) (tr.length + 1) capn)) (.inr hneb)
    have k2 := World.ownsRow.kept (row := none) k1 (grown_below (by rw [hsz]; exact hbb) none) (.inr (by simp [Value.ownBlock]))
    exact World.ownsRow.kept (row := some b) k2 (Only.set (b := b) (j := oi) u) (.inr hneb)
  · obtain ⟨C', h1, h2⟩ := hba
    exact ⟨C', (Below.heap_setCell _ _ _ _ (by simp; omega)).trans h1, h2⟩
  · intro j hj hn hne
    rw [Below.heap_setCell _ _ _ _ (by simpa using hne), hbb.block j (by omega), Below.heap_setCell _ _ _ _ (by simpa using hne)]
    exact keep j hj hn
/-- a byteStringReplacer that is built, in blocks from B on -/
def RB (w : World) (B b : Nat) : Prop := ∃ p q r cp cq cr : Nat, (∀ j, j < 256 → w.cell? ⟨b, j, none⟩ = some (if j = 34 then .slice (some ⟨p, 0, none⟩) 2 cp else if j = 92 then .slice (some ⟨q, 0, none⟩) 2 cq else .slice none 0 0)) ∧
  w.cell? ⟨b, 256, none⟩ = some (.slice (some ⟨r, 0, none⟩) 2 cr) ∧ BytesAt w p 5 [92, 34] ∧ BytesAt w q 5 [92, 92] ∧ w.cell? ⟨r, 0, none⟩ = some (.string (S [34])) ∧ w.cell? ⟨r, 1, none⟩ = some (.string (S [92])) ∧ (B ≤ b ∧ b < w.heap.size) ∧ (B ≤ p ∧ p < w.heap.size) ∧ (B ≤ q ∧ q < w.heap.size) ∧ (B ≤ r ∧ r < w.heap.size)
theorem RB.keep {w w' : World} {B b : Nat} (h : RB w B b) (hs : w.heap.size ≤ w'.heap.size) (hk : ∀ j, B ≤ j → j < w.heap.size → w'.heap[j]? = w.heap[j]?) : RB w' B b := by
  obtain ⟨p, q, r, cp, cq, cr, h1, h2, h3, h4, h5, h6, l1, l2, l3, l4⟩ := h
  have kc : ∀ j i, B ≤ j → j < w.heap.size → w'.cell? ⟨j, i, none⟩ = w.cell? ⟨j, i, none⟩ := fun j i hj hn => by simp [World.cell?, hk j hj hn]
  refine ⟨p, q, r, cp, cq, cr, fun j hj => (kc _ _ l1.1 l1.2).trans (h1 j hj), (kc _ _ l1.1 l1.2).trans h2, ?_, ?_, (kc _ _ l4.1 l4.2).trans h5, (kc _ _ l4.1 l4.2).trans h6, by omega, by omega, by omega, by omega⟩
  · obtain ⟨C, k1, k2⟩ := h3; exact ⟨C, (hk _ l2.1 l2.2).trans k1, k2⟩
  · obtain ⟨C, k1, k2⟩ := h4; exact ⟨C, (hk _ l3.1 l3.2).trans k1, k2⟩
theorem RB.later {w w' : World} {B b : Nat} (h : RB w B b) (hb : Below w.heap.size w w') : RB w' B b := h.keep hb.size fun j _ hj => hb.block j hj
theorem RB.only {w w' : World} {B b g : Nat} (h : RB w B b) (ho : Only g w w') (hg : g < B) : RB w' B b := h.keep ho.size fun j hB hj => ho.block j hj (by simp; omega)
theorem bytes_ne {w : World} {B n size g : Nat} {v : Value} {xs : List Value} {l : List UInt8} (h : w.ownsRow B 9 size v n xs) (hb : BytesAt w g 5 l) : v.ownBlock ≠ some g := fun e => by
  obtain ⟨C', hC'⟩ := own_off h e
  obtain ⟨C, hC, _⟩ := hb
  rw [hC] at hC'; injection hC' with hC'; injection hC' with _ hC' _; revert hC'; decide
set_option maxRecDepth 100000 in
set_option maxHeartbeats 4000000 in
theorem repBuild_c (g h cap : Nat) (w : World) (c4 : w.cell? ⟨g, 4, none⟩ = some (.slice (some ⟨h, 0, none⟩) 4 cap)) (hc : ∀ j u, (strsV onL)[j]? = some u → w.cell? ⟨h, j, none⟩ = some u) (hh : h < w.heap.size) :
    Calls Tryz.prog 84 #[.pointer (some ⟨g, 0, none⟩)] w fun e w' => ∃ b, e = .returned (.iface 130 (.pointer (some ⟨b, 0, none⟩))) ∧ RB w' w.heap.size b ∧ Below w.heap.size w w' := by
  have s0 : w.cell? ⟨h, 0, none⟩ = some (.string ⟨#[92]⟩) := hc 0 _ rfl
  have s1 : w.cell? ⟨h, 1, none⟩ = some (.string ⟨#[92, 92]⟩) := hc 1 _ rfl
  have s2 : w.cell? ⟨h, 2, none⟩ = some (.string ⟨#[34]⟩) := hc 2 _ rfl
  have s3 : w.cell? ⟨h, 3, none⟩ = some (.string ⟨#[92, 34]⟩) := hc 3 _ rfl
  have hmk : ∀ W : World, (Instr.makeSlice 57 (.int .i64 0) (.int .i64 2)).run Tryz.prog W = .ok (.slice (some ⟨W.heap.size, 0, none⟩) 0 2) (W.alloc (.cells #[.string ⟨#[]⟩, .string ⟨#[]⟩] 9)) := fun _ => by kernel_rfl
  have hst := bsr_store (w.alloc (.cells #[.string ⟨#[]⟩, .string ⟨#[]⟩] 9)) (.slice (some ⟨w.heap.size, 0, none⟩) 0 2) rfl
  have hsz : (w.alloc (.cells #[.string ⟨#[]⟩, .string ⟨#[]⟩] 9)).heap.size = w.heap.size + 1 := by simp
  rw [hsz] at hst
  have hB0 : Below w.heap.size w ((w.alloc (.cells #[.string ⟨#[]⟩, .string ⟨#[]⟩] 9)).alloc (.cells (setA Tryz.zeroCells129 (.slice (some ⟨w.heap.size, 0, none⟩) 0 2)) 129)) := ((Below.refl _ w).alloc (Nat.le_refl _) _).alloc (by simp) _
  have hb0 : ((w.alloc (.cells #[.string ⟨#[]⟩, .string ⟨#[]⟩] 9)).alloc (.cells (setA Tryz.zeroCells129 (.slice (some ⟨w.heap.size, 0, none⟩) 0 2)) 129)).heap[w.heap.size + 1]? = some (.cells (setA Tryz.zeroCells129 (.slice (some ⟨w.heap.size, 0, none⟩) 0 2)) 129 (0, 0)) := by
    have := heap_alloc_new (w.alloc (.cells #[.string ⟨#[]⟩, .string ⟨#[]⟩] 9)) (.cells (setA Tryz.zeroCells129 (.slice (some ⟨w.heap.size, 0, none⟩) 0 2)) 129)
    rw [hsz] at this; exact this
  have ho0 : ((w.alloc (.cells #[.string ⟨#[]⟩, .string ⟨#[]⟩] 9)).alloc (.cells (setA Tryz.zeroCells129 (.slice (some ⟨w.heap.size, 0, none⟩) 0 2)) 129)).ownsRow w.heap.size 9 1 (.slice (some ⟨w.heap.size, 0, none⟩) 0 2) 0 [] :=
    (World.ownsRow_made w #[.string ⟨#[]⟩, .string ⟨#[]⟩] 2 (Nat.le_refl _) (by decide) rfl).alloc _
  have HB0 := Lib.hid hB0
  have HO := Lib.hid ho0
  have HBB := Lib.hid hb0
  have HSZ := Lib.hid hsz
  clear hc hB0 ho0 hsz
  have ix34 : ∀ W, (Instr.index 9 (.string ⟨#[34]⟩) (.int .i64 0)).run Tryz.prog W = .ok (.int .u8 34) W := fun _ => by kernel_rfl
  have ix92 : ∀ W, (Instr.index 9 (.string ⟨#[92]⟩) (.int .i64 0)).run Tryz.prog W = .ok (.int .u8 92) W := fun _ => by kernel_rfl
  have hnl : ∀ W, (binOp .eql 67 (.slice none 0 0) (.slice none 0 0)).run Tryz.prog W = .ok (.bool true) W := fun W => Lib.run_eql_slice_nil W _ 5 none 0 0 0 0 Tryz.underlying67
  have cv34 := fun W => conv1r W 34
  have cv92 := fun W => conv1r W 92
  rw [show ((34 : UInt8).toNat : Int) = 34 from rfl] at cv34
  rw [show ((92 : UInt8).toNat : Int) = 92 from rfl] at cv92
  have hcb := fun W s => Lib.run_convert_string_bytes (P := Tryz.prog) W 9 67 5 s Tryz.underlying9 Tryz.underlying67 Tryz.underlying5
  have S0 := Lib.hid s0
  have S1 := Lib.hid s1
  have S2 := Lib.hid s2
  have S3 := Lib.hid s3
  go_enter Tryz.func84, Tryz.ntmps84
  go_wp2_with fail
  go_loop [4, 5] (fun u4 u5 => ∃ k : Nat, k ≤ 2 ∧ u5 = .int .i64 ((2 * k : Nat) : Int) ∧ u4 = .bool (k == 0)) (fun _ u5 => 6 - (intOf u5).toNat)
  case atStart => exact ⟨0, by decide, rfl, rfl⟩
  case round =>
    obtain ⟨k, hk, rfl, rfl⟩ := hrel
    have hk3 : k = 0 ∨ k = 1 ∨ k = 2 := by omega
    rcases hk3 with rfl | rfl | rfl
    · rw [show ((2 * 0 : Nat) : Int) = 0 from rfl, show ((0 : Nat) == 0) = true from rfl]
      go_wp2_with fail
      go_round
      case rel => exact ⟨1, by decide, rfl, rfl⟩
      case measure => simp [intOf]
    · rw [show ((2 * 1 : Nat) : Int) = 2 from rfl, show ((1 : Nat) == 0) = false from rfl]
      go_wp2_with fail
      go_round
      case rel => exact ⟨2, by decide, rfl, rfl⟩
      case measure => simp [intOf]
    · rw [show ((2 * 2 : Nat) : Int) = 4 from rfl, show ((2 : Nat) == 0) = false from rfl]
      clear hk
      go_wp2_with fail
      generalize (w.alloc (.cells #[.string ⟨#[]⟩, .string ⟨#[]⟩] 9)).alloc (.cells (setA Tryz.zeroCells129 (.slice (some ⟨w.heap.size, 0, none⟩) 0 2)) 129) = w2 at *
      clear hst hmk s0 s1 s2 s3 c4
      have s2 := (HB0.out.cell (p := ⟨h, 2, none⟩) hh).trans S2.out
      have s3 := (HB0.out.cell (p := ⟨h, 3, none⟩) hh).trans S3.out
      have s0 := (HB0.out.cell (p := ⟨h, 0, none⟩) hh).trans S0.out
      have s1 := (HB0.out.cell (p := ⟨h, 1, none⟩) hh).trans S1.out
      have p34 : w2.cell? ⟨w.heap.size + 1, 34, none⟩ = some (.slice none 0 0) := by rw [cell_of_row _ _ _ _ _ _ HBB.out]; exact bsrC_at _ (by decide)
      have p92 : w2.cell? ⟨w.heap.size + 1, 92, none⟩ = some (.slice none 0 0) := by rw [cell_of_row _ _ _ _ _ _ HBB.out]; exact bsrC_at _ (by decide)
      have p256 : w2.cell? ⟨w.heap.size + 1, 256, none⟩ = some (.slice (some ⟨w.heap.size, 0, none⟩) 0 2) := by rw [cell_of_row _ _ _ _ _ _ HBB.out]; exact bsrC_256 _
      have HBS := Lib.hid (show BS w w2 (w.heap.size + 1) _ _ [] from ⟨HB0.out, HBB.out, HO.out, by omega⟩)
      refine wp_loop_rounds 3 ?_
      rw [rounds_succ]
      go_wp2_with (at_builtin; refine wpList_append_row infoS (by decide) (by decide) (by decide) rfl (.tmp 119) (.tmp 123) 57 rfl Tryz.underlying57 w.heap.size _ 0 [] rfl ((HO.out.alloc _).alloc _) ⟨w2.heap.size + 1, 0, none⟩ 1 [.string (S [34])] rfl rfl ?c1 ?c2 (by decide) ?c4 ?_)
      case c1 => have := news_of (w2.alloc (.cells #[.int .u8 34] 5)) [.string (S [34])] 9 #[.string (S [34])] rfl; simpa using this
      case c2 => intro u hu; simp at hu; subst hu; rfl
      case c4 => have := HB0.out.size; simp; omega
      intro gg capn w3 hown3 hgr3
      obtain ⟨keep3, hB3, hlt3⟩ := bs_app HBS.out hgr3
      have hb3 := (keep3 _ (heap_lt HBS.out.blk) HBS.out.ne).trans HBS.out.blk
      have c3 : w3.cell? ⟨w.heap.size + 1, 256, none⟩ = some (.slice (some ⟨w.heap.size, 0, none⟩) 0 2) := by rw [cell_of_row _ _ _ _ _ _ hb3]; exact bsrC_256 _
      have z3 : w3.frozen? ⟨w.heap.size + 1, 256, none⟩ = false := by simp [World.frozen?, hb3]
      have hb4 := setCell_blk hb3 256 (.slice (some ⟨gg, 0, none⟩) (0 + 1) capn)
      have hb5 := ((below_bytes (w3.setCell ⟨w.heap.size + 1, 256, none⟩ (.slice (some ⟨gg, 0, none⟩) (0 + 1) capn)) 5 ⟨#[92, 34]⟩).block (w.heap.size + 1) (heap_lt hb4)).trans hb4
      have c5 : (Lib.bytesWorld (w3.setCell ⟨w.heap.size + 1, 256, none⟩ (.slice (some ⟨gg, 0, none⟩) (0 + 1) capn)) 5 ⟨#[92, 34]⟩).cell? ⟨w.heap.size + 1, 34, none⟩ = some (.slice none 0 0) := by
        rw [cell_of_row _ _ _ _ _ _ hb5, Array.getElem?_setIfInBounds_ne (by decide)]; exact bsrC_at _ (by decide)
      have z5 : (Lib.bytesWorld (w3.setCell ⟨w.heap.size + 1, 256, none⟩ (.slice (some ⟨gg, 0, none⟩) (0 + 1) capn)) 5 ⟨#[92, 34]⟩).frozen? ⟨w.heap.size + 1, 34, none⟩ = false := by simp [World.frozen?, hb5]
      have HBS2 := Lib.hid (fun u => bs_step (oi := 34) (u := u) HBS.out hgr3 hown3 ⟨#[92, 34]⟩)
      clear hb3 hb4 hb5 hgr3 hown3 keep3
      go_wp2_with fail
      obtain ⟨u4, hu4⟩ : ∃ u, u = Value.slice (some ⟨w3.heap.size, 0, none⟩) 2 (grownCap (w3.setCell ⟨w.heap.size + 1, 256, none⟩ (.slice (some ⟨gg, 0, none⟩) 1 capn)) 2 0 5) := ⟨_, rfl⟩
      rw [← hu4]
      obtain ⟨hA0, hT0, hK0⟩ := HBS2.out u4
      have HA := Lib.hid (show BS w ((Lib.bytesWorld (w3.setCell ⟨w.heap.size + 1, 256, none⟩ (.slice (some ⟨gg, 0, none⟩) 1 capn)) 5 ⟨#[92, 34]⟩).setCell ⟨w.heap.size + 1, 34, none⟩ u4) (w.heap.size + 1) (((setA Tryz.zeroCells129 (.slice (some ⟨w.heap.size, 0, none⟩) 0 2)).setIfInBounds 256 (.slice (some ⟨gg, 0, none⟩) 1 capn)).setIfInBounds 34 u4) (.slice (some ⟨gg, 0, none⟩) 1 capn) [[34]] from hA0)
      have HT := Lib.hid (show BytesAt ((Lib.bytesWorld (w3.setCell ⟨w.heap.size + 1, 256, none⟩ (.slice (some ⟨gg, 0, none⟩) 1 capn)) 5 ⟨#[92, 34]⟩).setCell ⟨w.heap.size + 1, 34, none⟩ u4) w3.heap.size 5 [92, 34] from hT0)
      clear hA0 hT0 hK0 HBS2 HBS c3 z3 c5 z5 p34 p92 p256 s0 s1 s2 s3
      generalize (Lib.bytesWorld (w3.setCell ⟨w.heap.size + 1, 256, none⟩ (.slice (some ⟨gg, 0, none⟩) 1 capn)) 5 ⟨#[92, 34]⟩).setCell ⟨w.heap.size + 1, 34, none⟩ u4 = w4 at *
      obtain ⟨C1, hC1⟩ : ∃ C, ((setA Tryz.zeroCells129 (.slice (some ⟨w.heap.size, 0, none⟩) 0 2)).setIfInBounds 256 (.slice (some ⟨gg, 0, none⟩) 1 capn)).setIfInBounds 34 u4 = C := ⟨_, rfl⟩
      have q34 : C1[34]? = some u4 := by rw [← hC1, Array.getElem?_setIfInBounds_self_of_lt (by rw [Array.size_setIfInBounds, bsrC_size]; decide)]
      have q256 : C1[256]? = some (.slice (some ⟨gg, 0, none⟩) 1 capn) := by rw [← hC1, Array.getElem?_setIfInBounds_ne (by decide), Array.getElem?_setIfInBounds_self_of_lt (by rw [bsrC_size]; decide)]
      have qj : ∀ j, j < 256 → j ≠ 34 → C1[j]? = some (.slice none 0 0) := fun j hj hn => by rw [← hC1, Array.getElem?_setIfInBounds_ne (by omega), Array.getElem?_setIfInBounds_ne (by omega)]; exact bsrC_at _ hj
      have hC1s : C1.size = 257 := by rw [← hC1, Array.size_setIfInBounds, Array.size_setIfInBounds, bsrC_size]
      rw [hC1] at HA
      have HQ := Lib.hid (show C1[34]? = some u4 ∧ C1[256]? = some (.slice (some ⟨gg, 0, none⟩) 1 capn) ∧ (∀ j, j < 256 → j ≠ 34 → C1[j]? = some (.slice none 0 0)) ∧ C1.size = 257 from ⟨q34, q256, qj, hC1s⟩)
      clear hC1 q34 q256 qj hC1s
      have s0 := (HA.out.bel.cell (p := ⟨h, 0, none⟩) hh).trans S0.out
      have s1 := (HA.out.bel.cell (p := ⟨h, 1, none⟩) hh).trans S1.out
      have p92 : w4.cell? ⟨w.heap.size + 1, 92, none⟩ = some (.slice none 0 0) := by rw [cell_of_row _ _ _ _ _ _ HA.out.blk]; exact HQ.out.2.2.1 92 (by decide) (by decide)
      have p256 : w4.cell? ⟨w.heap.size + 1, 256, none⟩ = some (.slice (some ⟨gg, 0, none⟩) 1 capn) := by rw [cell_of_row _ _ _ _ _ _ HA.out.blk]; exact HQ.out.2.1
      have HU4 := Lib.hid hu4
      have HB3 := Lib.hid hB3
      clear hu4 hB3 hlt3
      rw [rounds_succ]
      go_wp2_with (at_builtin; refine wpList_append_row infoS (by decide) (by decide) (by decide) rfl (.tmp 119) (.tmp 123) 57 rfl Tryz.underlying57 w.heap.size _ 1 (strsV [[34]]) rfl ((HA.out.own.alloc _).alloc _) ⟨w4.heap.size + 1, 0, none⟩ 1 [.string (S [92])] rfl rfl ?d1 ?d2 (by decide) ?d4 ?_)
      case d1 => have := news_of (w4.alloc (.cells #[.int .u8 92] 5)) [.string (S [92])] 9 #[.string (S [92])] rfl; simpa using this
      case d2 => intro u hu; simp at hu; subst hu; rfl
      case d4 => have := HA.out.bel.size; simp; omega
      intro gg5 capn5 w5 hown5 hgr5
      obtain ⟨keep5, hB5, hlt5⟩ := bs_app HA.out hgr5
      have hb3 := (keep5 _ (heap_lt HA.out.blk) HA.out.ne).trans HA.out.blk
      have c3 : w5.cell? ⟨w.heap.size + 1, 256, none⟩ = some (.slice (some ⟨gg, 0, none⟩) 1 capn) := by rw [cell_of_row _ _ _ _ _ _ hb3]; exact HQ.out.2.1
      have z3 : w5.frozen? ⟨w.heap.size + 1, 256, none⟩ = false := by simp [World.frozen?, hb3]
      have hb4 := setCell_blk hb3 256 (.slice (some ⟨gg5, 0, none⟩) (1 + 1) capn5)
      have hb5 := ((below_bytes (w5.setCell ⟨w.heap.size + 1, 256, none⟩ (.slice (some ⟨gg5, 0, none⟩) (1 + 1) capn5)) 5 ⟨#[92, 92]⟩).block (w.heap.size + 1) (heap_lt hb4)).trans hb4
      have c5 : (Lib.bytesWorld (w5.setCell ⟨w.heap.size + 1, 256, none⟩ (.slice (some ⟨gg5, 0, none⟩) (1 + 1) capn5)) 5 ⟨#[92, 92]⟩).cell? ⟨w.heap.size + 1, 92, none⟩ = some (.slice none 0 0) := by
        rw [cell_of_row _ _ _ _ _ _ hb5, Array.getElem?_setIfInBounds_ne (by decide)]; exact HQ.out.2.2.1 92 (by decide) (by decide)
      have z5 : (Lib.bytesWorld (w5.setCell ⟨w.heap.size + 1, 256, none⟩ (.slice (some ⟨gg5, 0, none⟩) (1 + 1) capn5)) 5 ⟨#[92, 92]⟩).frozen? ⟨w.heap.size + 1, 92, none⟩ = false := by simp [World.frozen?, hb5]
      have HB5 := Lib.hid hB5
      have HBS2 := Lib.hid (fun u => bs_step (oi := 92) (u := u) (x := [92]) HA.out hgr5 hown5 ⟨#[92, 92]⟩)
      clear hb3 hb4 hb5 hgr5 hown5 keep5
      go_wp2_with fail
      obtain ⟨u6, hu6⟩ : ∃ u, u = Value.slice (some ⟨w5.heap.size, 0, none⟩) 2 (grownCap (w5.setCell ⟨w.heap.size + 1, 256, none⟩ (.slice (some ⟨gg5, 0, none⟩) 2 capn5)) 2 0 5) := ⟨_, rfl⟩
      rw [← hu6]
      obtain ⟨hA0, hT0, hK0⟩ := HBS2.out u6
      have HA6 := Lib.hid (show BS w ((Lib.bytesWorld (w5.setCell ⟨w.heap.size + 1, 256, none⟩ (.slice (some ⟨gg5, 0, none⟩) 2 capn5)) 5 ⟨#[92, 92]⟩).setCell ⟨w.heap.size + 1, 92, none⟩ u6) (w.heap.size + 1) ((C1.setIfInBounds 256 (.slice (some ⟨gg5, 0, none⟩) 2 capn5)).setIfInBounds 92 u6) (.slice (some ⟨gg5, 0, none⟩) 2 capn5) [[34], [92]] from hA0)
      have HT6 := Lib.hid (show BytesAt ((Lib.bytesWorld (w5.setCell ⟨w.heap.size + 1, 256, none⟩ (.slice (some ⟨gg5, 0, none⟩) 2 capn5)) 5 ⟨#[92, 92]⟩).setCell ⟨w.heap.size + 1, 92, none⟩ u6) w5.heap.size 5 [92, 92] from hT0)
      have HK6 := Lib.hid (show BytesAt ((Lib.bytesWorld (w5.setCell ⟨w.heap.size + 1, 256, none⟩ (.slice (some ⟨gg5, 0, none⟩) 2 capn5)) 5 ⟨#[92, 92]⟩).setCell ⟨w.heap.size + 1, 92, none⟩ u6) w3.heap.size 5 [92, 34] by
        obtain ⟨C, k1, k2⟩ := HT.out
        refine ⟨C, (hK0 _ HT.out.lt (bytes_ne HA.out.own HT.out) (fun e => ?_)).trans k1, k2⟩
        have := HA.out.blk
        rw [← e, k1] at this; injection this with this; injection this with _ this _; revert this; decide)
      clear hA0 hT0 hK0 HBS2 c3 z3 c5 z5 p92 p256 s0 s1
      generalize (Lib.bytesWorld (w5.setCell ⟨w.heap.size + 1, 256, none⟩ (.slice (some ⟨gg5, 0, none⟩) 2 capn5)) 5 ⟨#[92, 92]⟩).setCell ⟨w.heap.size + 1, 92, none⟩ u6 = w6 at *
      have HU6 := Lib.hid hu6
      clear hu6
      rw [rounds_succ]
      go_wp2_with fail
      go_ret
      refine ⟨w.heap.size + 1, rfl, ?_, HA6.out.bel⟩
      obtain ⟨cp4, hu4⟩ : ∃ c, u4 = .slice (some ⟨w3.heap.size, 0, none⟩) 2 c := ⟨_, HU4.out⟩
      obtain ⟨cp6, hu6⟩ : ∃ c, u6 = .slice (some ⟨w5.heap.size, 0, none⟩) 2 c := ⟨_, HU6.out⟩
      obtain ⟨e34, e256, ej, es⟩ := HQ.out
      have hcr := fun j (u : Value) (hj : j < 2 * 1) (hu : (strsV [[34], [92]])[j]? = some u) => (World.ownsRow.cellAt HA6.out.own j hj).trans hu
      refine ⟨w3.heap.size, w5.heap.size, gg5, cp4, cp6, capn5, fun j hj => ?_, ?_, HK6.out, HT6.out, hcr 0 _ (by decide) rfl, hcr 1 _ (by decide) rfl, ⟨by omega, heap_lt HA6.out.blk⟩, ⟨HB3.out.size, HK6.out.lt⟩, ⟨HB5.out.size, HT6.out.lt⟩, World.ownsRow.lt HA6.out.own gg5 rfl⟩
      · rw [cell_of_row _ _ _ _ _ _ HA6.out.blk]
        by_cases h92 : j = 92
        · subst h92
          rw [Array.getElem?_setIfInBounds_self_of_lt (by rw [Array.size_setIfInBounds, es]; decide), if_neg (by decide), if_pos rfl, hu6]
        · rw [Array.getElem?_setIfInBounds_ne (by omega), Array.getElem?_setIfInBounds_ne (by omega)]
          by_cases h34 : j = 34
          · subst h34; rw [e34, if_pos rfl, hu4]
          · rw [ej j hj h34, if_neg h34, if_neg h92]
      · rw [cell_of_row _ _ _ _ _ _ HA6.out.blk, Array.getElem?_setIfInBounds_ne (by decide), Array.getElem?_setIfInBounds_self_of_lt (by rw [es]; decide)]
end Go.Proofs.YtaopehogpdgkgaaGreat
