/- Values as tokens or quoted strings; the texts of media types, program and reference (chapter 20). -/
import Derived.Test.YtaopehogpdgkgaaGreatMdKind
namespace Go.Proofs.YtaopehogpdgkgaaGreat
open Go.RowKit
def tokB (l : List UInt8) : Bool := allB tokenN l && !l.isEmpty
def quoteL (l : List UInt8) : List UInt8 := l.flatMap fun c => if c.toNat = 34 ∨ c.toNat = 92 then [92, c] else [c]
def writeL (l : List UInt8) : List UInt8 := if tokB l then l else 34 :: (quoteL l ++ [34])
theorem quoteL_len (l : List UInt8) : (quoteL l).length ≤ 2 * l.length := by
  induction l with
  | nil => simp [quoteL]
  | cons c l ih =>
    have e : quoteL (c :: l) = (if c.toNat = 34 ∨ c.toNat = 92 then [92, c] else [c]) ++ quoteL l := by simp [quoteL]
    rw [e, List.length_append]
    split <;> simp <;> omega
theorem writeL_len (l : List UInt8) : (writeL l).length ≤ 2 * l.length + 2 := by
  have := quoteL_len l
  unfold writeL
  split
  · omega
  · simp; omega
def parL (f : Fld) : List UInt8 := 59 :: 32 :: (f.1 ++ 61 :: writeL f.2)
def parsL (fs : List Fld) : List UInt8 := fs.flatMap parL
def fmtML (a b : List UInt8) (fs : List Fld) : List UInt8 := a ++ 47 :: b ++ parsL fs
theorem parsL_take (fs : List Fld) (k : Nat) (h : k < fs.length) : parsL (fs.take (k + 1)) = parsL (fs.take k) ++ parL fs[k] := by
  rw [List.take_succ_eq_append_getElem h]; unfold parsL; rw [List.flatMap_append]; simp
theorem parsL_len (fs : List Fld) (h : ∀ f ∈ fs, f.1.length ≤ 2000 ∧ f.2.length ≤ 2000) : (parsL fs).length ≤ 7000 * fs.length := by
  induction fs with
  | nil => simp [parsL]
  | cons f t ih =>
    have h1 := h f (by simp)
    have h2 := ih fun x hx => h x (by simp [hx])
    have h3 := writeL_len f.2
    have e : parsL (f :: t) = parL f ++ parsL t := by simp [parsL]
    rw [e, List.length_append]
    simp only [parL, List.length_cons, List.length_append] at *
    omega
theorem cat3 (a b : List UInt8) : S a ++ ⟨#[47]⟩ ++ S b = S (a ++ 47 :: b) := by
  apply ByteArray.ext; apply Array.toList_inj.1; simp [S]
theorem par_str (T : ByteArray) (l : List UInt8) (f : Fld) (m : List UInt8) (hT : T = S l) (hm : m = l ++ parL f) : T ++ (⟨#[59, 32]⟩ ++ S f.1 ++ ⟨#[61]⟩ ++ S (writeL f.2)) = S m := by
  subst hT hm; apply ByteArray.ext; apply Array.toList_inj.1; simp [S, parL]
theorem held_last2 {A1 A2 B : Prop} (h : A1 ∧ A2 ∧ B) : B := h.2.2
theorem below_thenM {B : Nat} {a w w1 : World} (h : Below B a w) (hb : Below w.heap.size w w1) (hs : a.heap.size = B) : Below B a w1 := h.trans (hb.mono (by rw [← hs]; exact h.size))
theorem below_drewM {B : Nat} {a w : World} (h : Below B a w) : Below B a w.drew := ⟨h.os, h.tape, h.output, h.size, h.block⟩
set_option maxRecDepth 100000 in
set_option maxHeartbeats 4000000 in
theorem mFormat_c (a b : List UInt8) (fv : Value) (fs : List Fld) (ha : a.length + b.length ≤ 100000) (hn : fs.length ≤ 1001) (hl : ∀ f ∈ fs, f.1.length ≤ 2000 ∧ f.2.length ≤ 2000) (hWr : ∀ f ∈ fs, ∀ W, Calls Tryz.prog 37 #[.string (S f.2)] W fun e w' => e = .returned (.string (S (writeL f.2))) ∧ Below W.heap.size W w') (w : World) (h : Rd w 2 fv fs.length (fldsV fs)) :
    Calls Tryz.prog 16 #[medV a b fv] w fun e w' => e = .returned (.string (S (fmtML a b fs))) ∧ Below w.heap.size w w' := by
  unfold medV
  obtain ⟨A, c, rfl⟩ := h.slice
  have hB0 : Below w.heap.size w (w.alloc (.cells #[.string (S a), .string (S b), .slice A fs.length c] 25)) := (Below.refl _ w).alloc (Nat.le_refl _) _
  have hg0 : (w.alloc (.cells #[.string (S a), .string (S b), .slice A fs.length c] 25)).heap[w.heap.size]? = some (.cells #[.string (S a), .string (S b), .slice A fs.length c] 25 (0, 0)) := heap_alloc_new w _
  have HR := Lib.hid (h.later hB0)
  have HL := Lib.hid hl
  have HWr := Lib.hid hWr
  obtain ⟨m0, m1, m2, g0, g1, g2⟩ := cells3m hg0
  have sa := S_size a
  have sb := S_size b
  have HC3 := Lib.hid (cat3 a b)
  clear h hl hWr
  go_enter Tryz.func16, Tryz.ntmps16
  go_wp2_with fail
  generalize w.alloc (.cells #[.string (S a), .string (S b), .slice A fs.length c] 25) = w0 at *
  go_loopw [3, 15] (fun u3 u15 wr => ∃ (k : Nat) (T : ByteArray), k ≤ fs.length ∧ u15 = .int .i64 (k : Int) ∧ u3 = .string T ∧ T = S (a ++ 47 :: b ++ parsL (fs.take k)) ∧ Below w0.heap.size w0 wr) (fun _ u15 _ => fs.length - (intOf u15).toNat)
  case atStart => exact ⟨0, _, Nat.zero_le _, rfl, rfl, by rw [HC3.out]; simp [parsL], Below.refl _ _⟩
  case round =>
    clear m0 m1 m2 g0 g1 g2 hg0 HC3
    obtain ⟨k, T, hk, rfl, rfl, hT, hB⟩ := hrel
    have hpl := parsL_len (fs.take k) (fun f hf => HL.out f (List.mem_of_mem_take hf))
    have htk : (fs.take k).length ≤ 1001 := by rw [List.length_take]; omega
    have hTs : T.size ≤ 8000000 := by
      rw [hT, S_size]; simp only [List.length_append, List.length_cons]; omega
    have HT := Lib.hid hT
    clear hT hpl htk
    by_cases hkn : k < fs.length
    · obtain ⟨ad, c2, hv, hab, hcc⟩ := (HR.out.later hB).at_ (by omega)
      obtain rfl : A = some ad := by injection hv
      obtain ⟨f0, f1⟩ := fld_at hcc hkn
      have hszf := HL.out fs[k] (List.getElem_mem hkn)
      have hwl := writeL_len fs[k].2
      have sf1 : (S fs[k].1).size ≤ 2000 := by rw [S_size]; omega
      have sf2 : (S (writeL fs[k].2)).size ≤ 5000 := by rw [S_size]; omega
      have HW := Lib.hid (HWr.out fs[k] (List.getElem_mem hkn))
      have HPS := Lib.hid (par_str T _ fs[k] (a ++ 47 :: b ++ parsL (fs.take (k + 1))) HT.out (by rw [parsL_take fs k hkn, List.append_assoc, List.append_assoc, List.append_assoc]))
      have hsz := hB.size
      have hB' : Below w0.heap.size w0 (wr.alloc (.cells #[.string (S fs[k].1), .string (S fs[k].2)] 52)) := hB.alloc hsz _
      have hfa := heap_alloc_new wr (.cells #[.string (S fs[k].1), .string (S fs[k].2)] 52)
      obtain ⟨d0, d1, _, _⟩ := fcells hfa
      have hfl := heap_lt hfa
      have e2 : (⟨#[59, 32]⟩ : ByteArray).size = 2 := rfl
      have e1 : (⟨#[61]⟩ : ByteArray).size = 1 := rfl
      have hA1 := fun W => run_string_add_sum (P := Tryz.prog) W ⟨#[59, 32]⟩ (S fs[k].1) (by omega)
      have hA2 := fun W => run_string_add_sum (P := Tryz.prog) W (⟨#[59, 32]⟩ ++ S fs[k].1) ⟨#[61]⟩ (by rw [ByteArray.size_append]; omega)
      have hA3 := fun W => run_string_add_sum (P := Tryz.prog) W (⟨#[59, 32]⟩ ++ S fs[k].1 ++ ⟨#[61]⟩) (S (writeL fs[k].2)) (by rw [ByteArray.size_append, ByteArray.size_append]; omega)
      have hA4 := fun W => run_string_add_sum (P := Tryz.prog) W T (⟨#[59, 32]⟩ ++ S fs[k].1 ++ ⟨#[61]⟩ ++ S (writeL fs[k].2)) (by rw [ByteArray.size_append, ByteArray.size_append, ByteArray.size_append]; omega)
      clear e1 e2
      clear hcc hv hszf hwl hfa
      go_wp2_with fail
      generalize wr.alloc (.cells #[.string (S fs[k].1), .string (S fs[k].2)] 52) = w1 at *
      generalize hgb : wr.heap.size = gb at *
      clear hgb
      have hW1 : Below w1.heap.size w1 w1 := Below.refl _ _
      have HKP := Lib.hid (show ∀ W, Below w1.heap.size w1 W → W.cell? ⟨gb, 0, none⟩ = some (.string (S fs[k].1)) ∧ W.cell? ⟨gb, 1, none⟩ = some (.string (S fs[k].2)) ∧ Below w1.heap.size w1 W from
        fun W h => ⟨(h.cell (p := ⟨gb, 0, none⟩) hfl).trans d0, (h.cell (p := ⟨gb, 1, none⟩) hfl).trans d1, h⟩)
      clear hfl f0 f1
      go_region_held3 (fun W => W.cell? ⟨gb, 0, none⟩ = some (.string (S fs[k].1)) ∧ W.cell? ⟨gb, 1, none⟩ = some (.string (S fs[k].2)) ∧ Below w1.heap.size w1 W) (first | exact HKP.out _ (by assumption) | exact HKP.out _ (below_drewM (by assumption))) (first | (go_at_call 37; ((with_reducible refine (HW.out _).mono ?_); rintro e w' ⟨rfl, hb⟩; have hbb := below_thenM (held_last2 (by assumption)) hb rfl)))
      all_goals
        have hq := held_last2 (by assumption)
        clear hA1 hA2 hA3 hA4
        go_wp2_with fail
        go_roundw
        case rel => exact ⟨k + 1, _, by omega, by go_num, rfl, HPS.out, hB'.trans (hq.mono hB'.size)⟩
        case measure => simp [intOf]; omega
    · have hkk : k = fs.length := by omega
      have HT2 := Lib.hid (show T = S (fmtML a b fs) by rw [HT.out, hkk, List.take_length]; rfl)
      go_wp2_with fail
      go_ret
      exact ⟨ret_s HT2.out, hB0.trans (hB.mono hB0.size)⟩
set_option maxRecDepth 100000 in
set_option maxHeartbeats 4000000 in
theorem rmFormat_c (a b : List UInt8) (fv : Value) (fs : List Fld) (ha : a.length + b.length ≤ 100000) (hn : fs.length ≤ 1001) (hl : ∀ f ∈ fs, f.1.length ≤ 2000 ∧ f.2.length ≤ 2000) (hWr : ∀ f ∈ fs, ∀ W, Calls Tryz.prog 38 #[.string (S f.2)] W fun e w' => e = .returned (.string (S (writeL f.2))) ∧ Below W.heap.size W w') (w : World) (h : Rd w 2 fv fs.length (fldsV fs)) :
    Calls Tryz.prog 17 #[medV a b fv] w fun e w' => e = .returned (.string (S (fmtML a b fs))) ∧ Below w.heap.size w w' := by
  unfold medV
  obtain ⟨A, c, rfl⟩ := h.slice
  have hB0 : Below w.heap.size w (w.alloc (.cells #[.string (S a), .string (S b), .slice A fs.length c] 25)) := (Below.refl _ w).alloc (Nat.le_refl _) _
  have hg0 : (w.alloc (.cells #[.string (S a), .string (S b), .slice A fs.length c] 25)).heap[w.heap.size]? = some (.cells #[.string (S a), .string (S b), .slice A fs.length c] 25 (0, 0)) := heap_alloc_new w _
  have HR := Lib.hid (h.later hB0)
  have HL := Lib.hid hl
  have HWr := Lib.hid hWr
  obtain ⟨m0, m1, m2, g0, g1, g2⟩ := cells3m hg0
  have sa := S_size a
  have sb := S_size b
  have HC3 := Lib.hid (cat3 a b)
  clear h hl hWr
  go_enter Tryz.func17, Tryz.ntmps17
  go_wp2_with fail
  generalize w.alloc (.cells #[.string (S a), .string (S b), .slice A fs.length c] 25) = w0 at *
  go_loopw [3, 15] (fun u3 u15 wr => ∃ (k : Nat) (T : ByteArray), k ≤ fs.length ∧ u15 = .int .i64 (k : Int) ∧ u3 = .string T ∧ T = S (a ++ 47 :: b ++ parsL (fs.take k)) ∧ Below w0.heap.size w0 wr) (fun _ u15 _ => fs.length - (intOf u15).toNat)
  case atStart => exact ⟨0, _, Nat.zero_le _, rfl, rfl, by rw [HC3.out]; simp [parsL], Below.refl _ _⟩
  case round =>
    clear m0 m1 m2 g0 g1 g2 hg0 HC3
    obtain ⟨k, T, hk, rfl, rfl, hT, hB⟩ := hrel
    have hpl := parsL_len (fs.take k) (fun f hf => HL.out f (List.mem_of_mem_take hf))
    have htk : (fs.take k).length ≤ 1001 := by rw [List.length_take]; omega
    have hTs : T.size ≤ 8000000 := by
      rw [hT, S_size]; simp only [List.length_append, List.length_cons]; omega
    have HT := Lib.hid hT
    clear hT hpl htk
    by_cases hkn : k < fs.length
    · obtain ⟨ad, c2, hv, hab, hcc⟩ := (HR.out.later hB).at_ (by omega)
      obtain rfl : A = some ad := by injection hv
      obtain ⟨f0, f1⟩ := fld_at hcc hkn
      have hszf := HL.out fs[k] (List.getElem_mem hkn)
      have hwl := writeL_len fs[k].2
      have sf1 : (S fs[k].1).size ≤ 2000 := by rw [S_size]; omega
      have sf2 : (S (writeL fs[k].2)).size ≤ 5000 := by rw [S_size]; omega
      have HW := Lib.hid (HWr.out fs[k] (List.getElem_mem hkn))
      have HPS := Lib.hid (par_str T _ fs[k] (a ++ 47 :: b ++ parsL (fs.take (k + 1))) HT.out (by rw [parsL_take fs k hkn, List.append_assoc, List.append_assoc, List.append_assoc]))
      have hsz := hB.size
      have hB' : Below w0.heap.size w0 (wr.alloc (.cells #[.string (S fs[k].1), .string (S fs[k].2)] 52)) := hB.alloc hsz _
      have hfa := heap_alloc_new wr (.cells #[.string (S fs[k].1), .string (S fs[k].2)] 52)
      obtain ⟨d0, d1, _, _⟩ := fcells hfa
      have hfl := heap_lt hfa
      have e2 : (⟨#[59, 32]⟩ : ByteArray).size = 2 := rfl
      have e1 : (⟨#[61]⟩ : ByteArray).size = 1 := rfl
      have hA1 := fun W => run_string_add_sum (P := Tryz.prog) W ⟨#[59, 32]⟩ (S fs[k].1) (by omega)
      have hA2 := fun W => run_string_add_sum (P := Tryz.prog) W (⟨#[59, 32]⟩ ++ S fs[k].1) ⟨#[61]⟩ (by rw [ByteArray.size_append]; omega)
      have hA3 := fun W => run_string_add_sum (P := Tryz.prog) W (⟨#[59, 32]⟩ ++ S fs[k].1 ++ ⟨#[61]⟩) (S (writeL fs[k].2)) (by rw [ByteArray.size_append, ByteArray.size_append]; omega)
      have hA4 := fun W => run_string_add_sum (P := Tryz.prog) W T (⟨#[59, 32]⟩ ++ S fs[k].1 ++ ⟨#[61]⟩ ++ S (writeL fs[k].2)) (by rw [ByteArray.size_append, ByteArray.size_append, ByteArray.size_append]; omega)
      clear e1 e2
      clear hcc hv hszf hwl hfa
      go_wp2_with fail
      generalize wr.alloc (.cells #[.string (S fs[k].1), .string (S fs[k].2)] 52) = w1 at *
      generalize hgb : wr.heap.size = gb at *
      clear hgb
      have hW1 : Below w1.heap.size w1 w1 := Below.refl _ _
      have HKP := Lib.hid (show ∀ W, Below w1.heap.size w1 W → W.cell? ⟨gb, 0, none⟩ = some (.string (S fs[k].1)) ∧ W.cell? ⟨gb, 1, none⟩ = some (.string (S fs[k].2)) ∧ Below w1.heap.size w1 W from
        fun W h => ⟨(h.cell (p := ⟨gb, 0, none⟩) hfl).trans d0, (h.cell (p := ⟨gb, 1, none⟩) hfl).trans d1, h⟩)
      clear hfl f0 f1
      go_region_held3 (fun W => W.cell? ⟨gb, 0, none⟩ = some (.string (S fs[k].1)) ∧ W.cell? ⟨gb, 1, none⟩ = some (.string (S fs[k].2)) ∧ Below w1.heap.size w1 W) (first | exact HKP.out _ (by assumption) | exact HKP.out _ (below_drewM (by assumption))) (first | (go_at_call 38; ((with_reducible refine (HW.out _).mono ?_); rintro e w' ⟨rfl, hb⟩; have hbb := below_thenM (held_last2 (by assumption)) hb rfl)))
      all_goals
        have hq := held_last2 (by assumption)
        clear hA1 hA2 hA3 hA4
        go_wp2_with fail
        go_roundw
        case rel => exact ⟨k + 1, _, by omega, by go_num, rfl, HPS.out, hB'.trans (hq.mono hB'.size)⟩
        case measure => simp [intOf]; omega
    · have hkk : k = fs.length := by omega
      have HT2 := Lib.hid (show T = S (fmtML a b fs) by rw [HT.out, hkk, List.take_length]; rfl)
      go_wp2_with fail
      go_ret
      exact ⟨ret_s HT2.out, hB0.trans (hB.mono hB0.size)⟩
end Go.Proofs.YtaopehogpdgkgaaGreat
