/- Contracts of Encode of chapter 2 (program and reference). -/
import Derived.LoopN
import Derived.Test.YtgkcjpidekefoaaDoorU8Walks
namespace Go.Proofs.YtgkcjpidekefoaaDoor
open Go.RowKit

theorem Forms.cell {w : World} (h : Forms w) (i : Nat) : w.cell? ⟨0, i, none⟩ = formCells[i]? := by
  obtain ⟨t, fr, h⟩ := h
  exact cell_of_row w _ i _ t fr h
theorem Forms.alloc {w : World} (h : Forms w) (o : Obj) : Forms (w.alloc o) := by
  obtain ⟨t, fr, h⟩ := h
  exact ⟨t, fr, (Below.heap_alloc w o _ (heap_lt h)).trans h⟩
theorem Forms.below {w w' : World} {n : Nat} (h : Forms w) (hb : Below n w w') (hn : 0 < n) : Forms w' := by
  obtain ⟨t, fr, h⟩ := h
  exact ⟨t, fr, (hb.block _ hn).trans h⟩
theorem Forms.lt {w : World} (h : Forms w) : 0 < w.heap.size := by
  obtain ⟨t, fr, h⟩ := h
  exact heap_lt h
theorem Forms.go {w w' : World} (h : Forms w) (hb : Below w.heap.size w w') : Forms w' := h.below hb h.lt
theorem i64_and63 (x : Nat) (hx : x < 4611686018427387904) : bits .and .i64 (x : Int) 63 = ((x % 64 : Nat) : Int) := by
  have h := bits_mask .i64 62 (by decide) (fun n h0 h1 => by rw [IntKind.wrap_i64]; omega) 6 (by decide) (x : Int) (by omega) (by omega)
  simp at h ⊢; exact h
theorem or_and (x : Nat) (hx : x < 4611686018427387904) : bits .or .u8 128 (bits .and .i64 (x : Int) 63 % 256) = ((128 + x % 64 : Nat) : Int) := by
  have h := u8_or128 (y := ((x % 64 : Nat) : Int) % 256) (by omega) (by omega)
  rw [i64_and63 x hx, h]; omega
theorem i64_or (a x j : Nat) (hx : x < 2 ^ j) (ha : a % 2 ^ j = 0) (ha' : a < 256) (hx' : x < 256) : bits .or .i64 (a : Int) (x : Int) = ((a + x : Nat) : Int) := by
  rw [(bits_nat .i64 62 (by decide) (fun n h0 h1 => by rw [IntKind.wrap_i64]; omega) a x (by omega) (by omega)).2, nat_join j a x ha hx]
theorem ior_and (x : Nat) (hx : x < 4611686018427387904) : bits .or .i64 128 (bits .and .i64 (x : Int) 63) = ((128 + x % 64 : Nat) : Int) := by
  rw [i64_and63 x hx]; exact i64_or 128 (x % 64) 6 (by omega) (by decide) (by decide) (by omega)
/-- a new row of bytes as a string -/
theorem conv_new (w : World) (l : List UInt8) (cap : Nat) (C : Array Value) (hC : C = (l.map fun b => Value.int .u8 (b.toNat : Int)).toArray) :
    (convert 38 9 (.slice (some ⟨w.heap.size, 0, none⟩) l.length cap)).run Tryd.prog (w.alloc (.cells C 5)) = .ok (.string (S l)) (w.alloc (.cells C 5)) := by
  subst hC
  refine run_convert_bytes_back (P := Tryd.prog) _ 38 9 5 _ cap l Tryd.underlying38 Tryd.underlying5 Tryd.underlying9 fun j hj => ?_
  have : (⟨w.heap.size, 0, none⟩ : Addr).add j = ⟨w.heap.size, j, none⟩ := by unfold Addr.add; split <;> simp_all
  rw [this, cell_of_row _ _ j _ _ _ (heap_alloc_new w _)]
  simp [hj]
theorem Bc {n : Nat} (h : n < 256) : ((B n).toNat : Int) = (n : Int) := by rw [B_toNat h]

theorem encL_0 (r : Nat)  (h1 : (r : Int) < 128) : encL r = [B (r)] := by
  unfold encL
  rw [if_pos (by omega)]
theorem conv0 (r : Nat)  (h1 : (r : Int) < 128) (w : World) : (convert 38 9 (.slice (some ⟨w.heap.size, 0, none⟩) 1 1)).run Tryd.prog (w.alloc (.cells #[.int .u8 ((r : Int))] 5)) = .ok (.string (S (encL r))) (w.alloc (.cells #[.int .u8 ((r : Int))] 5)) := by
  rw [encL_0 r h1]
  refine conv_new w [B (r)] 1 _ ?_
  simp only [List.map_cons, List.map_nil]
  rw [Bc (n := r) (by omega), show ((r : Nat) : Int) = (r : Int) by omega]

set_option maxRecDepth 100000 in
set_option maxHeartbeats 1000000 in
theorem encode0_c (r : Nat)  (h1 : (r : Int) < 128) (hp : pointN r = true) (w : World) (hf : Forms w) :
    Calls Tryd.prog 11 #[.int .i64 r] w fun e w' => e = .returned (.tuple #[.string (S (encL r)), .int .i64 0]) ∧ Below w.heap.size w w' := by
  have c5 : w.cell? ⟨0, 5, none⟩ = some (.int .i64 128) := hf.cell 5
  have m0 : ∀ o, (w.alloc o).cell? ⟨0, 0, none⟩ = some (.int .u8 0) := fun o => (hf.alloc o).cell 0
  have hmk : ∀ w, (Instr.makeSlice 38 (.int .i64 1) (.int .i64 1)).run Tryd.prog w = .ok (.slice (some ⟨w.heap.size, 0, none⟩) 1 1) (w.alloc (.cells #[.int .u8 0] 5)) := fun _ => by kernel_rfl
  have om : bits .or .u8 0 ((r : Int)) = ((r : Nat) : Int) := by have h := u8_or_nat 0 r (by omega) (by omega); simpa using h
  have hcv := conv0 r h1 w
  go_enter Tryd.func11, Tryd.ntmps11
  go_wp2_with (go_at_call 17; refine (point_n _ _).mono ?_; rintro e w' ⟨rfl, rfl⟩)
  refine wp_loop_rounds 1 ?_
  rw [rounds_succ]
  go_wp2
  refine wp_loop_rounds 1 ?_
  rw [rounds_succ]
  go_wp2
  go_ret2
  exact ⟨rfl, (Below.refl _ _).alloc (Nat.le_refl _) _⟩

set_option maxRecDepth 100000 in
set_option maxHeartbeats 1000000 in
theorem rEncode0_c (r : Nat)  (h1 : (r : Int) < 128) (hp : pointN r = true) (w : World) :
    Calls Tryd.prog 12 #[.int .i64 r] w fun e w' => e = .returned (.tuple #[.string (S (encL r)), .int .i64 0]) ∧ Below w.heap.size w w' := by
  have hcv := conv0 r h1 w
  go_enter Tryd.func12, Tryd.ntmps12
  go_wp2_with (go_at_call 19; refine (rpoint_n _ _).mono ?_; rintro e w' ⟨rfl, rfl⟩)
  go_ret2
  exact ⟨rfl, (Below.refl _ _).alloc (Nat.le_refl _) _⟩

theorem encL_1 (r : Nat) (h0 : 128 ≤ (r : Int)) (h1 : (r : Int) < 2048) : encL r = [B (192 + r / 64), B (128 + r % 64)] := by
  unfold encL
  rw [if_neg (by omega), if_pos (by omega)]
theorem conv1 (r : Nat) (h0 : 128 ≤ (r : Int)) (h1 : (r : Int) < 2048) (w : World) : (convert 38 9 (.slice (some ⟨w.heap.size, 0, none⟩) 2 2)).run Tryd.prog (w.alloc (.cells #[.int .u8 (192 + (r : Int) / 64), .int .u8 (128 + (r : Int) % 64)] 5)) = .ok (.string (S (encL r))) (w.alloc (.cells #[.int .u8 (192 + (r : Int) / 64), .int .u8 (128 + (r : Int) % 64)] 5)) := by
  rw [encL_1 r h0 h1]
  refine conv_new w [B (192 + r / 64), B (128 + r % 64)] 2 _ ?_
  simp only [List.map_cons, List.map_nil]
  rw [Bc (n := 192 + r / 64) (by omega), Bc (n := 128 + r % 64) (by omega), show ((192 + r / 64 : Nat) : Int) = 192 + (r : Int) / 64 by omega, show ((128 + r % 64 : Nat) : Int) = 128 + (r : Int) % 64 by omega]

set_option maxRecDepth 100000 in
set_option maxHeartbeats 1000000 in
theorem encode1_c (r : Nat) (h0 : 128 ≤ (r : Int)) (h1 : (r : Int) < 2048) (hp : pointN r = true) (w : World) (hf : Forms w) :
    Calls Tryd.prog 11 #[.int .i64 r] w fun e w' => e = .returned (.tuple #[.string (S (encL r)), .int .i64 0]) ∧ Below w.heap.size w w' := by
  have c5 : w.cell? ⟨0, 5, none⟩ = some (.int .i64 128) := hf.cell 5
  have c8 : w.cell? ⟨0, 8, none⟩ = some (.int .i64 2048) := hf.cell 8
  have m0 : ∀ o, (w.alloc o).cell? ⟨0, 3, none⟩ = some (.int .u8 192) := fun o => (hf.alloc o).cell 3
  have hmk : ∀ w, (Instr.makeSlice 38 (.int .i64 2) (.int .i64 2)).run Tryd.prog w = .ok (.slice (some ⟨w.heap.size, 0, none⟩) 2 2) (w.alloc (.cells #[.int .u8 0, .int .u8 0] 5)) := fun _ => by kernel_rfl
  have o0 : bits .or .u8 128 (bits .and .i64 (r : Int) 63 % 256) = 128 + (r : Int) % 64 := by
    have h := or_and (r) (by omega)
    rw [show ((r : Nat) : Int) = (r : Int) by omega] at h; exact h.trans (by omega)
  have om : bits .or .u8 192 (((r : Int) / 64)) = 192 + (r : Int) / 64 := by
    have h := u8_or192 (y := ((r : Int) / 64)) (by omega) (by omega)
    exact h.trans (by omega)
  have hcv := conv1 r h0 h1 w
  have qn : ((r : Int) / 64) ≤ 255 := by omega
  have q0 : 0 ≤ (r : Int) := by omega
  have d1 : decide ((128 : Int) ≤ (r : Int)) = true := by simp; omega
  have d2 : decide ((2048 : Int) ≤ (r : Int)) = false := by simp; omega
  clear h0 h1
  go_enter Tryd.func11, Tryd.ntmps11
  go_wp2_with (go_at_call 17; refine (point_n _ _).mono ?_; rintro e w' ⟨rfl, rfl⟩)
  refine wp_loop_rounds 2 ?_
  rw [rounds_succ]
  go_wp2
  rw [rounds_succ]
  go_wp2
  refine wp_loop_rounds 2 ?_
  rw [rounds_succ]
  go_wp2
  rw [rounds_succ]
  go_wp2
  go_ret2
  exact ⟨rfl, (Below.refl _ _).alloc (Nat.le_refl _) _⟩

set_option maxRecDepth 100000 in
set_option maxHeartbeats 1000000 in
theorem rEncode1_c (r : Nat) (h0 : 128 ≤ (r : Int)) (h1 : (r : Int) < 2048) (hp : pointN r = true) (w : World) :
    Calls Tryd.prog 12 #[.int .i64 r] w fun e w' => e = .returned (.tuple #[.string (S (encL r)), .int .i64 0]) ∧ Below w.heap.size w w' := by
  have o0 : bits .or .i64 128 (bits .and .i64 (r : Int) 63) = 128 + (r : Int) % 64 := by
    have h := ior_and (r) (by omega)
    rw [show ((r : Nat) : Int) = (r : Int) by omega] at h; exact h.trans (by omega)
  have om : bits .or .i64 192 ((r : Int) / 64) = 192 + (r : Int) / 64 := by
    have h := i64_or 192 (r / 64) 5 (by omega) (by decide) (by decide) (by omega)
    rw [show ((r / 64 : Nat) : Int) = (r : Int) / 64 by omega] at h; exact h.trans (by omega)
  have hcv := conv1 r h0 h1 w
  have qn : (r : Int) / 64 ≤ 31 := by omega
  have q0 : 0 ≤ (r : Int) := by omega
  have qm : 192 + (r : Int) / 64 ≤ 255 := by omega
  have d1 : decide ((r : Int) < (128 : Int)) = false := by simp; omega
  have d2 : decide ((r : Int) < (2048 : Int)) = true := by simp; omega
  clear h0 h1
  go_enter Tryd.func12, Tryd.ntmps12
  go_wp2_with (go_at_call 19; refine (rpoint_n _ _).mono ?_; rintro e w' ⟨rfl, rfl⟩)
  go_ret2
  exact ⟨rfl, (Below.refl _ _).alloc (Nat.le_refl _) _⟩

theorem encL_2 (r : Nat) (h0 : 2048 ≤ (r : Int)) (h1 : (r : Int) < 65536) : encL r = [B (224 + r / 4096), B (128 + r / 64 % 64), B (128 + r % 64)] := by
  unfold encL
  rw [if_neg (by omega), if_neg (by omega), if_pos (by omega)]
theorem conv2 (r : Nat) (h0 : 2048 ≤ (r : Int)) (h1 : (r : Int) < 65536) (w : World) : (convert 38 9 (.slice (some ⟨w.heap.size, 0, none⟩) 3 3)).run Tryd.prog (w.alloc (.cells #[.int .u8 (224 + (r : Int) / 4096), .int .u8 (128 + (r : Int) / 64 % 64), .int .u8 (128 + (r : Int) % 64)] 5)) = .ok (.string (S (encL r))) (w.alloc (.cells #[.int .u8 (224 + (r : Int) / 4096), .int .u8 (128 + (r : Int) / 64 % 64), .int .u8 (128 + (r : Int) % 64)] 5)) := by
  rw [encL_2 r h0 h1]
  refine conv_new w [B (224 + r / 4096), B (128 + r / 64 % 64), B (128 + r % 64)] 3 _ ?_
  simp only [List.map_cons, List.map_nil]
  rw [Bc (n := 224 + r / 4096) (by omega), Bc (n := 128 + r / 64 % 64) (by omega), Bc (n := 128 + r % 64) (by omega), show ((224 + r / 4096 : Nat) : Int) = 224 + (r : Int) / 4096 by omega, show ((128 + r / 64 % 64 : Nat) : Int) = 128 + (r : Int) / 64 % 64 by omega, show ((128 + r % 64 : Nat) : Int) = 128 + (r : Int) % 64 by omega]

set_option maxRecDepth 100000 in
set_option maxHeartbeats 1000000 in
theorem encode2_c (r : Nat) (h0 : 2048 ≤ (r : Int)) (h1 : (r : Int) < 65536) (hp : pointN r = true) (w : World) (hf : Forms w) :
    Calls Tryd.prog 11 #[.int .i64 r] w fun e w' => e = .returned (.tuple #[.string (S (encL r)), .int .i64 0]) ∧ Below w.heap.size w w' := by
  have c5 : w.cell? ⟨0, 5, none⟩ = some (.int .i64 128) := hf.cell 5
  have c8 : w.cell? ⟨0, 8, none⟩ = some (.int .i64 2048) := hf.cell 8
  have c11 : w.cell? ⟨0, 11, none⟩ = some (.int .i64 65536) := hf.cell 11
  have m0 : ∀ o, (w.alloc o).cell? ⟨0, 6, none⟩ = some (.int .u8 224) := fun o => (hf.alloc o).cell 6
  have hmk : ∀ w, (Instr.makeSlice 38 (.int .i64 3) (.int .i64 3)).run Tryd.prog w = .ok (.slice (some ⟨w.heap.size, 0, none⟩) 3 3) (w.alloc (.cells #[.int .u8 0, .int .u8 0, .int .u8 0] 5)) := fun _ => by kernel_rfl
  have o0 : bits .or .u8 128 (bits .and .i64 (r : Int) 63 % 256) = 128 + (r : Int) % 64 := by
    have h := or_and (r) (by omega)
    rw [show ((r : Nat) : Int) = (r : Int) by omega] at h; exact h.trans (by omega)
  have o1 : bits .or .u8 128 (bits .and .i64 ((r : Int) / 64) 63 % 256) = 128 + (r : Int) / 64 % 64 := by
    have h := or_and (r / 64) (by omega)
    rw [show ((r / 64 : Nat) : Int) = ((r : Int) / 64) by omega] at h; exact h.trans (by omega)
  have om : bits .or .u8 224 ((((r : Int) / 64) / 64)) = 224 + (r : Int) / 4096 := by
    have h := u8_or224 (y := (((r : Int) / 64) / 64)) (by omega) (by omega)
    exact h.trans (by omega)
  have hcv := conv2 r h0 h1 w
  have qn : (((r : Int) / 64) / 64) ≤ 255 := by omega
  have q0 : 0 ≤ (r : Int) := by omega
  have d1 : decide ((128 : Int) ≤ (r : Int)) = true := by simp; omega
  have d2 : decide ((2048 : Int) ≤ (r : Int)) = true := by simp; omega
  have d3 : decide ((65536 : Int) ≤ (r : Int)) = false := by simp; omega
  clear h0 h1
  go_enter Tryd.func11, Tryd.ntmps11
  go_wp2_with (go_at_call 17; refine (point_n _ _).mono ?_; rintro e w' ⟨rfl, rfl⟩)
  refine wp_loop_rounds 3 ?_
  rw [rounds_succ]
  go_wp2
  rw [rounds_succ]
  go_wp2
  rw [rounds_succ]
  go_wp2
  refine wp_loop_rounds 3 ?_
  rw [rounds_succ]
  go_wp2
  rw [rounds_succ]
  go_wp2
  rw [rounds_succ]
  go_wp2
  go_ret2
  exact ⟨rfl, (Below.refl _ _).alloc (Nat.le_refl _) _⟩

set_option maxRecDepth 100000 in
set_option maxHeartbeats 1000000 in
theorem rEncode2_c (r : Nat) (h0 : 2048 ≤ (r : Int)) (h1 : (r : Int) < 65536) (hp : pointN r = true) (w : World) :
    Calls Tryd.prog 12 #[.int .i64 r] w fun e w' => e = .returned (.tuple #[.string (S (encL r)), .int .i64 0]) ∧ Below w.heap.size w w' := by
  have o0 : bits .or .i64 128 (bits .and .i64 (r : Int) 63) = 128 + (r : Int) % 64 := by
    have h := ior_and (r) (by omega)
    rw [show ((r : Nat) : Int) = (r : Int) by omega] at h; exact h.trans (by omega)
  have o1 : bits .or .i64 128 (bits .and .i64 ((r : Int) / 64) 63) = 128 + (r : Int) / 64 % 64 := by
    have h := ior_and (r / 64) (by omega)
    rw [show ((r / 64 : Nat) : Int) = ((r : Int) / 64) by omega] at h; exact h.trans (by omega)
  have om : bits .or .i64 224 ((r : Int) / 4096) = 224 + (r : Int) / 4096 := by
    have h := i64_or 224 (r / 4096) 4 (by omega) (by decide) (by decide) (by omega)
    rw [show ((r / 4096 : Nat) : Int) = (r : Int) / 4096 by omega] at h; exact h.trans (by omega)
  have hcv := conv2 r h0 h1 w
  have qn : (r : Int) / 4096 ≤ 31 := by omega
  have q0 : 0 ≤ (r : Int) := by omega
  have qm : 224 + (r : Int) / 4096 ≤ 255 := by omega
  have d1 : decide ((r : Int) < (128 : Int)) = false := by simp; omega
  have d2 : decide ((r : Int) < (2048 : Int)) = false := by simp; omega
  have d3 : decide ((r : Int) < (65536 : Int)) = true := by simp; omega
  clear h0 h1
  go_enter Tryd.func12, Tryd.ntmps12
  go_wp2_with (go_at_call 19; refine (rpoint_n _ _).mono ?_; rintro e w' ⟨rfl, rfl⟩)
  go_ret2
  exact ⟨rfl, (Below.refl _ _).alloc (Nat.le_refl _) _⟩

theorem encL_3 (r : Nat) (h0 : 65536 ≤ (r : Int)) (h1 : (r : Int) ≤ 1114111) : encL r = [B (240 + r / 262144), B (128 + r / 4096 % 64), B (128 + r / 64 % 64), B (128 + r % 64)] := by
  unfold encL
  rw [if_neg (by omega), if_neg (by omega), if_neg (by omega)]
theorem conv3 (r : Nat) (h0 : 65536 ≤ (r : Int)) (h1 : (r : Int) ≤ 1114111) (w : World) : (convert 38 9 (.slice (some ⟨w.heap.size, 0, none⟩) 4 4)).run Tryd.prog (w.alloc (.cells #[.int .u8 (240 + (r : Int) / 262144), .int .u8 (128 + (r : Int) / 4096 % 64), .int .u8 (128 + (r : Int) / 64 % 64), .int .u8 (128 + (r : Int) % 64)] 5)) = .ok (.string (S (encL r))) (w.alloc (.cells #[.int .u8 (240 + (r : Int) / 262144), .int .u8 (128 + (r : Int) / 4096 % 64), .int .u8 (128 + (r : Int) / 64 % 64), .int .u8 (128 + (r : Int) % 64)] 5)) := by
  rw [encL_3 r h0 h1]
  refine conv_new w [B (240 + r / 262144), B (128 + r / 4096 % 64), B (128 + r / 64 % 64), B (128 + r % 64)] 4 _ ?_
  simp only [List.map_cons, List.map_nil]
  rw [Bc (n := 240 + r / 262144) (by omega), Bc (n := 128 + r / 4096 % 64) (by omega), Bc (n := 128 + r / 64 % 64) (by omega), Bc (n := 128 + r % 64) (by omega), show ((240 + r / 262144 : Nat) : Int) = 240 + (r : Int) / 262144 by omega, show ((128 + r / 4096 % 64 : Nat) : Int) = 128 + (r : Int) / 4096 % 64 by omega, show ((128 + r / 64 % 64 : Nat) : Int) = 128 + (r : Int) / 64 % 64 by omega, show ((128 + r % 64 : Nat) : Int) = 128 + (r : Int) % 64 by omega]

set_option maxRecDepth 100000 in
set_option maxHeartbeats 1000000 in
theorem encode3_c (r : Nat) (h0 : 65536 ≤ (r : Int)) (h1 : (r : Int) ≤ 1114111) (hp : pointN r = true) (w : World) (hf : Forms w) :
    Calls Tryd.prog 11 #[.int .i64 r] w fun e w' => e = .returned (.tuple #[.string (S (encL r)), .int .i64 0]) ∧ Below w.heap.size w w' := by
  have c5 : w.cell? ⟨0, 5, none⟩ = some (.int .i64 128) := hf.cell 5
  have c8 : w.cell? ⟨0, 8, none⟩ = some (.int .i64 2048) := hf.cell 8
  have c11 : w.cell? ⟨0, 11, none⟩ = some (.int .i64 65536) := hf.cell 11
  have m0 : ∀ o, (w.alloc o).cell? ⟨0, 9, none⟩ = some (.int .u8 240) := fun o => (hf.alloc o).cell 9
  have hmk : ∀ w, (Instr.makeSlice 38 (.int .i64 4) (.int .i64 4)).run Tryd.prog w = .ok (.slice (some ⟨w.heap.size, 0, none⟩) 4 4) (w.alloc (.cells #[.int .u8 0, .int .u8 0, .int .u8 0, .int .u8 0] 5)) := fun _ => by kernel_rfl
  have o0 : bits .or .u8 128 (bits .and .i64 (r : Int) 63 % 256) = 128 + (r : Int) % 64 := by
    have h := or_and (r) (by omega)
    rw [show ((r : Nat) : Int) = (r : Int) by omega] at h; exact h.trans (by omega)
  have o1 : bits .or .u8 128 (bits .and .i64 ((r : Int) / 64) 63 % 256) = 128 + (r : Int) / 64 % 64 := by
    have h := or_and (r / 64) (by omega)
    rw [show ((r / 64 : Nat) : Int) = ((r : Int) / 64) by omega] at h; exact h.trans (by omega)
  have o2 : bits .or .u8 128 (bits .and .i64 (((r : Int) / 64) / 64) 63 % 256) = 128 + (r : Int) / 4096 % 64 := by
    have h := or_and (r / 4096) (by omega)
    rw [show ((r / 4096 : Nat) : Int) = (((r : Int) / 64) / 64) by omega] at h; exact h.trans (by omega)
  have om : bits .or .u8 240 (((((r : Int) / 64) / 64) / 64)) = 240 + (r : Int) / 262144 := by
    have h := u8_or240 (y := ((((r : Int) / 64) / 64) / 64)) (by omega) (by omega)
    exact h.trans (by omega)
  have hcv := conv3 r h0 h1 w
  have qn : ((((r : Int) / 64) / 64) / 64) ≤ 255 := by omega
  have q0 : 0 ≤ (r : Int) := by omega
  have d1 : decide ((128 : Int) ≤ (r : Int)) = true := by simp; omega
  have d2 : decide ((2048 : Int) ≤ (r : Int)) = true := by simp; omega
  have d3 : decide ((65536 : Int) ≤ (r : Int)) = true := by simp; omega
  clear h0 h1
  go_enter Tryd.func11, Tryd.ntmps11
  go_wp2_with (go_at_call 17; refine (point_n _ _).mono ?_; rintro e w' ⟨rfl, rfl⟩)
  refine wp_loop_rounds 4 ?_
  rw [rounds_succ]
  go_wp2
  rw [rounds_succ]
  go_wp2
  rw [rounds_succ]
  go_wp2
  rw [rounds_succ]
  go_wp2
  refine wp_loop_rounds 4 ?_
  rw [rounds_succ]
  go_wp2
  rw [rounds_succ]
  go_wp2
  rw [rounds_succ]
  go_wp2
  rw [rounds_succ]
  go_wp2
  go_ret2
  exact ⟨rfl, (Below.refl _ _).alloc (Nat.le_refl _) _⟩

set_option maxRecDepth 100000 in
set_option maxHeartbeats 1000000 in
theorem rEncode3_c (r : Nat) (h0 : 65536 ≤ (r : Int)) (h1 : (r : Int) ≤ 1114111) (hp : pointN r = true) (w : World) :
    Calls Tryd.prog 12 #[.int .i64 r] w fun e w' => e = .returned (.tuple #[.string (S (encL r)), .int .i64 0]) ∧ Below w.heap.size w w' := by
  have o0 : bits .or .i64 128 (bits .and .i64 (r : Int) 63) = 128 + (r : Int) % 64 := by
    have h := ior_and (r) (by omega)
    rw [show ((r : Nat) : Int) = (r : Int) by omega] at h; exact h.trans (by omega)
  have o1 : bits .or .i64 128 (bits .and .i64 ((r : Int) / 64) 63) = 128 + (r : Int) / 64 % 64 := by
    have h := ior_and (r / 64) (by omega)
    rw [show ((r / 64 : Nat) : Int) = ((r : Int) / 64) by omega] at h; exact h.trans (by omega)
  have o2 : bits .or .i64 128 (bits .and .i64 ((r : Int) / 4096) 63) = 128 + (r : Int) / 4096 % 64 := by
    have h := ior_and (r / 4096) (by omega)
    rw [show ((r / 4096 : Nat) : Int) = ((r : Int) / 4096) by omega] at h; exact h.trans (by omega)
  have om : bits .or .i64 240 ((r : Int) / 262144) = 240 + (r : Int) / 262144 := by
    have h := i64_or 240 (r / 262144) 3 (by omega) (by decide) (by decide) (by omega)
    rw [show ((r / 262144 : Nat) : Int) = (r : Int) / 262144 by omega] at h; exact h.trans (by omega)
  have hcv := conv3 r h0 h1 w
  have qn : (r : Int) / 262144 ≤ 31 := by omega
  have q0 : 0 ≤ (r : Int) := by omega
  have qm : 240 + (r : Int) / 262144 ≤ 255 := by omega
  have d1 : decide ((r : Int) < (128 : Int)) = false := by simp; omega
  have d2 : decide ((r : Int) < (2048 : Int)) = false := by simp; omega
  have d3 : decide ((r : Int) < (65536 : Int)) = false := by simp; omega
  clear h0 h1
  go_enter Tryd.func12, Tryd.ntmps12
  go_wp2_with (go_at_call 19; refine (rpoint_n _ _).mono ?_; rintro e w' ⟨rfl, rfl⟩)
  go_ret2
  exact ⟨rfl, (Below.refl _ _).alloc (Nat.le_refl _) _⟩
end Go.Proofs.YtgkcjpidekefoaaDoor
