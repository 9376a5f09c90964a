/- Contracts of Format (head) and of its reference (chapter 18). -/
import Derived.Test.YtegejmbkpdlekaaHdDec
import Derived.Test.YtegejmbkpdlekaaGet
import Derived.Shelf.Strings.BuilderK
namespace Go.Proofs.Ytegejmbkpdlekaa
open Go.Shelf Go.RowKit
theorem bws_c (B b : Nat) (bs : List Value) (s : ByteArray) (w : World) (h : Lib.IsBuilderF 82 5 B b bs w) (hlen : bs.length + s.size ≤ 140737488355328) (hBw : B ≤ w.heap.size) :
    Calls Try.prog 64 #[.pointer (some ⟨b, 0, none⟩), .string s] w fun e w' => e = .returned (.tuple #[.int .i64 s.size, .nilIface]) ∧ (Lib.BuilderAtF 82 5 B b (.pointer (some ⟨b, 0, none⟩)) (bs ++ Lib.strCells s) w' ∧ Below B w w' ∧ Lib.OthersKept 5 (some b) w w') :=
  Any.Builder_WriteString_k { lays156 with } Builder_Extra_156 B b bs s w h hlen hBw
theorem bstr_c (B b : Nat) (l : List UInt8) (w : World) (h : Lib.IsBuilderF 82 5 B b (Lib.byteCells l) w) (hBw : B ≤ w.heap.size) :
    Calls Try.prog 66 #[.pointer (some ⟨b, 0, none⟩)] w fun e w' => e = .returned (.string ⟨l.toArray⟩) ∧ (Lib.IsBuilderF 82 5 B b (Lib.byteCells l) w' ∧ Below B w w' ∧ Lib.OthersKept 5 (some b) w w') :=
  Any.Builder_String_any_k { lays156 with } Builder_Extra_156 B b l w h hBw
/-- the loop's words -/
theorem fldsL_len : ∀ fs : List Fld, (fldsL fs).length = wtF fs + 4 * fs.length
  | [] => rfl
  | f :: fs => by
    have ih := fldsL_len fs
    have e2 : fldsL (f :: fs) = fldL f ++ (13 :: 10 :: fldsL fs) := by simp [fldsL, crlfL]
    rw [e2]
    simp only [List.length_cons, List.length_append, ih, wtF, List.map_cons, List.sum_cons, fldL]
    omega
theorem fldsL_take (fs : List Fld) (k : Nat) (h : k < fs.length) : fldsL (fs.take (k + 1)) = fldsL (fs.take k) ++ (fldL fs[k] ++ crlfL) := by
  rw [List.take_succ_eq_append_getElem h]; unfold fldsL; rw [List.flatMap_append]; simp
theorem wtF_take (fs : List Fld) (k : Nat) (h : k < fs.length) : wtF (fs.take k) + (fs[k].1.length + fs[k].2.length) ≤ wtF fs := by
  have e : wtF fs = wtF (fs.take k) + wtF (fs.drop k) := by
    conv => lhs; rw [← List.take_append_drop k fs]
    simp only [wtF, List.map_append, List.sum_append]
  rw [e, List.drop_eq_getElem_cons h]
  simp only [wtF, List.map_cons, List.sum_cons]; omega
theorem stL_0 {mi st : Int} (h : mi = 0) : (⟨#[72, 84, 84, 80, 47, 49, 46]⟩ : ByteArray) ++ ⟨#[48]⟩ ++ ⟨#[32]⟩ ++ S (decL st) ++ ⟨#[32, 45]⟩ ++ ⟨#[13, 10]⟩ = S (stL mi st ++ crlfL) := by
  unfold stL; rw [if_pos h]; apply ByteArray.ext; apply Array.toList_inj.1; simp [S, preL, crlfL]
theorem stL_1 {mi st : Int} (h : ¬ mi = 0) : (⟨#[72, 84, 84, 80, 47, 49, 46]⟩ : ByteArray) ++ ⟨#[49]⟩ ++ ⟨#[32]⟩ ++ S (decL st) ++ ⟨#[32, 45]⟩ ++ ⟨#[13, 10]⟩ = S (stL mi st ++ crlfL) := by
  unfold stL; rw [if_neg h]; apply ByteArray.ext; apply Array.toList_inj.1; simp [S, preL, crlfL]
theorem fld_str (f : Fld) : S f.1 ++ ⟨#[58, 32]⟩ ++ S f.2 ++ ⟨#[13, 10]⟩ = S (fldL f ++ crlfL) := by
  apply ByteArray.ext; apply Array.toList_inj.1; simp [S, fldL, crlfL]
theorem stL_len (mi st : Int) : (stL mi st).length ≤ 40 := by
  have := decL_len st
  unfold stL; simp [preL]; omega
theorem isB_new {w : World} {B : Nat} (h : w.heap[B]? = some (.cells #[.pointer none, .slice none 0 0] 82 (0, 0))) : Lib.IsBuilderF 82 5 B B (Lib.byteCells []) w :=
  Lib.IsBuilderF.of (Or.inl ⟨Nat.le_refl _, .slice none 0 0, h, World.ownsRow_nil _ _ _ _, by simp [Value.ownBlock]⟩)
theorem head_lt {w w' : World} {o : Obj} (h : Below (w.alloc o).heap.size (w.alloc o) w') : w.heap.size < w'.heap.size := by have := h.size; simp at this; omega
set_option maxRecDepth 100000 in
set_option maxHeartbeats 4000000 in
theorem hFormat_c (mi st : Int) (h0 : -9223372036854775808 ≤ st) (h1 : st ≤ 9223372036854775807) (fv : Value) (fs : List Fld) (w : World) (hn : fs.length ≤ 1000) (hw : wtF fs ≤ 1000000) (h : Rd w 2 fv fs.length (fldsV fs)) :
    Calls Try.prog 31 #[.agg #[.int .i64 mi, .int .i64 st, fv]] w fun e w' => e = .returned (.string (S (fmtHL mi st fs))) ∧ Below w.heap.size w w' := by
  obtain ⟨A, c, rfl⟩ := h.slice
  have hB0 : Below w.heap.size w (w.alloc (.cells #[.int .i64 mi, .int .i64 st, .slice A fs.length c] 29)) := (Below.refl _ w).alloc (Nat.le_refl _) _
  have hB1 : Below w.heap.size w ((w.alloc (.cells #[.int .i64 mi, .int .i64 st, .slice A fs.length c] 29)).alloc (.cells #[.pointer none, .slice none 0 0] 82)) := hB0.alloc hB0.size _
  have q0 : ((w.alloc (.cells #[.int .i64 mi, .int .i64 st, .slice A fs.length c] 29)).alloc (.cells #[.pointer none, .slice none 0 0] 82)).heap[w.heap.size]? = some (.cells #[.int .i64 mi, .int .i64 st, .slice A fs.length c] 29 (0, 0)) :=
    (Below.heap_alloc _ _ _ (by simp)).trans (heap_alloc_new w _)
  have hI0 : ((w.alloc (.cells #[.int .i64 mi, .int .i64 st, .slice A fs.length c] 29)).alloc (.cells #[.pointer none, .slice none 0 0] 82)).heap[w.heap.size + 1]? = some (.cells #[.pointer none, .slice none 0 0] 82 (0, 0)) := by
    have := heap_alloc_new (w.alloc (.cells #[.int .i64 mi, .int .i64 st, .slice A fs.length c] 29)) (.cells #[.pointer none, .slice none 0 0] 82)
    simpa using this
  have hsz1 : w.heap.size + 1 < ((w.alloc (.cells #[.int .i64 mi, .int .i64 st, .slice A fs.length c] 29)).alloc (.cells #[.pointer none, .slice none 0 0] 82)).heap.size := by simp
  obtain ⟨a0, a1, a2⟩ := cells3' q0
  have HQ0 := Lib.hid q0
  have HD := Lib.hid (decimal_c st h0 h1)
  have hsl : (S (decL st)).size ≤ 21 := by rw [S_size]; exact decL_len st
  have HR := Lib.hid h
  have HB1 := Lib.hid hB1
  have HI0 := Lib.hid hI0
  have HSZ1 := Lib.hid hsz1
  have hstl := stL_len mi st
  have hfl := fldsL_len fs
  have hcr : crlfL.length = 2 := rfl
  clear h hB0 hB1 q0 hI0 hsz1 hfl hcr
  by_cases hmi : mi = 0
  · have HT := Lib.hid (stL_0 (mi := mi) (st := st) hmi)
    have hmi0 : (mi == 0) = true := by simpa using hmi
    clear hmi
    go_enter Try.func31, Try.ntmps31
    go_wp2_with fail
    generalize (w.alloc (.cells #[.int .i64 mi, .int .i64 st, .slice A fs.length c] 29)).alloc (.cells #[.pointer none, .slice none 0 0] 82) = W1 at *
    refine (HD.out _).mono ?_
    rintro e w2 ⟨rfl, hb2⟩
    have hlt1 := HSZ1.out
    have HI2 := Lib.hid (isB_new ((hb2.block _ hlt1).trans HI0.out))
    have q2 := (hb2.block _ (heap_lt HQ0.out)).trans HQ0.out
    have hB2 := HB1.out.trans (hb2.mono HB1.out.size)
    have hs2 := hb2.size
    have hlt2 : w.heap.size + 1 < w2.heap.size := by omega
    clear HI0 HQ0 HB1 HSZ1 hb2 a0 a1 a2 hlt1 hs2 HD
    obtain ⟨a0, a1, a2⟩ := cells3' q2
    have HQ2 := Lib.hid q2
    clear q2
    go_wp2_with fail
    rw [HT.out]
    refine (bws_c (w.heap.size + 1) (w.heap.size + 1) _ (S (stL mi st ++ crlfL)) _ HI2.out (by simp [S_size, Lib.byteCells, crlfL]; omega) (by omega)).mono ?_
    rintro e w3 ⟨rfl, hK3, hb3, ho3⟩
    have q3 := (hb3.block _ (by omega)).trans HQ2.out
    have hB3 : Below w.heap.size w w3 := hB2.trans (hb3.mono (by omega))
    have hs3 := hb3.size
    have hlt3 : w.heap.size + 1 < w3.heap.size := by omega
    have HI3 := Lib.hid (show Lib.IsBuilderF 82 5 (w.heap.size + 1) (w.heap.size + 1) (Lib.byteCells (stL mi st ++ crlfL ++ fldsL (fs.take 0))) w3 by
      have e : Lib.byteCells (stL mi st ++ crlfL ++ fldsL (fs.take 0)) = Lib.byteCells [] ++ Lib.strCells (S (stL mi st ++ crlfL)) := by rw [Lib.strCells_eq, S_list]; simp [fldsL, Lib.byteCells]
      rw [e]; exact .inr hK3)
    clear HI2 HQ2 hK3 hb3 ho3 hs3 a0 a1 a2 hB2 hlt2 HT
    obtain ⟨a0, a1, a2⟩ := cells3' q3
    clear q3
    go_wp2_with fail
    go_loopw [23] (fun u23 wr => ∃ k : Nat, k ≤ fs.length ∧ u23 = .int .i64 (k : Int) ∧ Lib.IsBuilderF 82 5 (w.heap.size + 1) (w.heap.size + 1) (Lib.byteCells (stL mi st ++ crlfL ++ fldsL (fs.take k))) wr ∧ Below w.heap.size w wr ∧ w.heap.size + 1 < wr.heap.size) (fun u23 _ => fs.length - (intOf u23).toNat)
    case atStart => exact ⟨0, Nat.zero_le _, rfl, HI3.out, hB3, hlt3⟩
    case round =>
      clear HI3 hB3 hlt3 a0 a1 a2
      obtain ⟨k, hk, rfl, hI, hB, hlt⟩ := hrel
      have HI := Lib.hid hI
      clear hI
      by_cases hkn : k < fs.length
      · obtain ⟨ad, c', hv, hab, hcc⟩ := (HR.out.later hB).at_ (by omega)
        obtain rfl : A = some ad := by injection hv
        obtain ⟨f0, f1⟩ := fld_at hcc hkn
        have hwt := wtF_take fs k hkn
        have hfl := fldsL_len (fs.take k)
        have hlk : (fs.take k).length ≤ 1000 := by rw [List.length_take]; omega
        have hsa : (S fs[k].1).size ≤ 1000000 := by rw [S_size]; omega
        have hsb : (S fs[k].2).size ≤ 1000000 := by rw [S_size]; omega
        have hlen : (Lib.byteCells (stL mi st ++ crlfL ++ fldsL (fs.take k))).length + (S (fldL fs[k] ++ crlfL)).size ≤ 140737488355328 := by
          rw [Lib.byteCells_length, S_size]; simp only [List.length_append, fldL, List.length_cons, crlfL, List.length_nil]; omega
        have HF := Lib.hid (fld_str fs[k])
        have HL := Lib.hid hlen
        clear hcc hwt hfl hlen hv
        go_wp2_with fail
        rw [HF.out]
        refine (bws_c (w.heap.size + 1) (w.heap.size + 1) _ (S (fldL fs[k] ++ crlfL)) _ (HI.out.alloc _) HL.out (by simp; omega)).mono ?_
        rintro e w5 ⟨rfl, hK5, hb5, ho5⟩
        have hs5 := hb5.size
        have hs5' : wr.heap.size + 1 ≤ w5.heap.size := by simpa using hs5
        have hB5 : Below w.heap.size w w5 := (hB.alloc (by omega) _).trans (hb5.mono (by omega))
        have HI5 := Lib.hid (show Lib.IsBuilderF 82 5 (w.heap.size + 1) (w.heap.size + 1) (Lib.byteCells (stL mi st ++ crlfL ++ fldsL (fs.take (k + 1)))) w5 by
          have e : Lib.byteCells (stL mi st ++ crlfL ++ fldsL (fs.take (k + 1))) = Lib.byteCells (stL mi st ++ crlfL ++ fldsL (fs.take k)) ++ Lib.strCells (S (fldL fs[k] ++ crlfL)) := by
            rw [fldsL_take fs k hkn, Lib.strCells_eq, S_list, ← Lib.byteCells_append, List.append_assoc, List.append_assoc, List.append_assoc]
          rw [e]; exact .inr hK5)
        clear hK5 hb5 ho5 hs5 HI HF HL f0 f1
        go_wp2_with fail
        go_roundw
        case rel => exact ⟨k + 1, by omega, by go_num, HI5.out, hB5, by omega⟩
        case measure => simp [intOf]; omega
      · obtain rfl : k = fs.length := by omega
        have hfl := fldsL_len (fs.take fs.length)
        rw [List.take_length] at hfl
        have hI' := HI.out
        rw [List.take_length] at hI'
        have HI' := Lib.hid hI'
        clear hI' HI
        go_wp2_with fail
        refine (bws_c (w.heap.size + 1) (w.heap.size + 1) _ ⟨#[13, 10]⟩ _ HI'.out (by rw [Lib.byteCells_length]; simp only [List.length_append, crlfL, List.length_cons, List.length_nil, show (⟨#[13, 10]⟩ : ByteArray).size = 2 from rfl]; omega) (by omega)).mono ?_
        rintro e w5 ⟨rfl, hK5, hb5, ho5⟩
        have hs5 := hb5.size
        have hB5 : Below w.heap.size w w5 := hB.trans (hb5.mono (by omega))
        have HI5 := Lib.hid (show Lib.IsBuilderF 82 5 (w.heap.size + 1) (w.heap.size + 1) (Lib.byteCells (fmtHL mi st fs)) w5 by
          have e : Lib.byteCells (fmtHL mi st fs) = Lib.byteCells (stL mi st ++ crlfL ++ fldsL fs) ++ Lib.strCells ⟨#[13, 10]⟩ := by
            rw [Lib.strCells_eq, ← Lib.byteCells_append]; rfl
          rw [e]; exact .inr hK5)
        clear hK5 ho5 HI'
        go_wp2_with fail
        refine (bstr_c (w.heap.size + 1) (w.heap.size + 1) (fmtHL mi st fs) _ HI5.out (by omega)).mono ?_
        rintro e w6 ⟨rfl, _, hb6, _⟩
        go_wp2_with fail
        go_ret
        exact ⟨rfl, hB5.trans (hb6.mono (by omega))⟩
  · have HT := Lib.hid (stL_1 (mi := mi) (st := st) hmi)
    have hmi0 : (mi == 0) = false := by simpa using hmi
    clear hmi
    go_enter Try.func31, Try.ntmps31
    go_wp2_with fail
    generalize (w.alloc (.cells #[.int .i64 mi, .int .i64 st, .slice A fs.length c] 29)).alloc (.cells #[.pointer none, .slice none 0 0] 82) = W1 at *
    refine (HD.out _).mono ?_
    rintro e w2 ⟨rfl, hb2⟩
    have hlt1 := HSZ1.out
    have HI2 := Lib.hid (isB_new ((hb2.block _ hlt1).trans HI0.out))
    have q2 := (hb2.block _ (heap_lt HQ0.out)).trans HQ0.out
    have hB2 := HB1.out.trans (hb2.mono HB1.out.size)
    have hs2 := hb2.size
    have hlt2 : w.heap.size + 1 < w2.heap.size := by omega
    clear HI0 HQ0 HB1 HSZ1 hb2 a0 a1 a2 hlt1 hs2 HD
    obtain ⟨a0, a1, a2⟩ := cells3' q2
    have HQ2 := Lib.hid q2
    clear q2
    go_wp2_with fail
    rw [HT.out]
    refine (bws_c (w.heap.size + 1) (w.heap.size + 1) _ (S (stL mi st ++ crlfL)) _ HI2.out (by simp [S_size, Lib.byteCells, crlfL]; omega) (by omega)).mono ?_
    rintro e w3 ⟨rfl, hK3, hb3, ho3⟩
    have q3 := (hb3.block _ (by omega)).trans HQ2.out
    have hB3 : Below w.heap.size w w3 := hB2.trans (hb3.mono (by omega))
    have hs3 := hb3.size
    have hlt3 : w.heap.size + 1 < w3.heap.size := by omega
    have HI3 := Lib.hid (show Lib.IsBuilderF 82 5 (w.heap.size + 1) (w.heap.size + 1) (Lib.byteCells (stL mi st ++ crlfL ++ fldsL (fs.take 0))) w3 by
      have e : Lib.byteCells (stL mi st ++ crlfL ++ fldsL (fs.take 0)) = Lib.byteCells [] ++ Lib.strCells (S (stL mi st ++ crlfL)) := by rw [Lib.strCells_eq, S_list]; simp [fldsL, Lib.byteCells]
      rw [e]; exact .inr hK3)
    clear HI2 HQ2 hK3 hb3 ho3 hs3 a0 a1 a2 hB2 hlt2 HT
    obtain ⟨a0, a1, a2⟩ := cells3' q3
    clear q3
    go_wp2_with fail
    go_loopw [23] (fun u23 wr => ∃ k : Nat, k ≤ fs.length ∧ u23 = .int .i64 (k : Int) ∧ Lib.IsBuilderF 82 5 (w.heap.size + 1) (w.heap.size + 1) (Lib.byteCells (stL mi st ++ crlfL ++ fldsL (fs.take k))) wr ∧ Below w.heap.size w wr ∧ w.heap.size + 1 < wr.heap.size) (fun u23 _ => fs.length - (intOf u23).toNat)
    case atStart => exact ⟨0, Nat.zero_le _, rfl, HI3.out, hB3, hlt3⟩
    case round =>
      clear HI3 hB3 hlt3 a0 a1 a2
      obtain ⟨k, hk, rfl, hI, hB, hlt⟩ := hrel
      have HI := Lib.hid hI
      clear hI
      by_cases hkn : k < fs.length
      · obtain ⟨ad, c', hv, hab, hcc⟩ := (HR.out.later hB).at_ (by omega)
        obtain rfl : A = some ad := by injection hv
        obtain ⟨f0, f1⟩ := fld_at hcc hkn
        have hwt := wtF_take fs k hkn
        have hfl := fldsL_len (fs.take k)
        have hlk : (fs.take k).length ≤ 1000 := by rw [List.length_take]; omega
        have hsa : (S fs[k].1).size ≤ 1000000 := by rw [S_size]; omega
        have hsb : (S fs[k].2).size ≤ 1000000 := by rw [S_size]; omega
        have hlen : (Lib.byteCells (stL mi st ++ crlfL ++ fldsL (fs.take k))).length + (S (fldL fs[k] ++ crlfL)).size ≤ 140737488355328 := by
          rw [Lib.byteCells_length, S_size]; simp only [List.length_append, fldL, List.length_cons, crlfL, List.length_nil]; omega
        have HF := Lib.hid (fld_str fs[k])
        have HL := Lib.hid hlen
        clear hcc hwt hfl hlen hv
        go_wp2_with fail
        rw [HF.out]
        refine (bws_c (w.heap.size + 1) (w.heap.size + 1) _ (S (fldL fs[k] ++ crlfL)) _ (HI.out.alloc _) HL.out (by simp; omega)).mono ?_
        rintro e w5 ⟨rfl, hK5, hb5, ho5⟩
        have hs5 := hb5.size
        have hs5' : wr.heap.size + 1 ≤ w5.heap.size := by simpa using hs5
        have hB5 : Below w.heap.size w w5 := (hB.alloc (by omega) _).trans (hb5.mono (by omega))
        have HI5 := Lib.hid (show Lib.IsBuilderF 82 5 (w.heap.size + 1) (w.heap.size + 1) (Lib.byteCells (stL mi st ++ crlfL ++ fldsL (fs.take (k + 1)))) w5 by
          have e : Lib.byteCells (stL mi st ++ crlfL ++ fldsL (fs.take (k + 1))) = Lib.byteCells (stL mi st ++ crlfL ++ fldsL (fs.take k)) ++ Lib.strCells (S (fldL fs[k] ++ crlfL)) := by
            rw [fldsL_take fs k hkn, Lib.strCells_eq, S_list, ← Lib.byteCells_append, List.append_assoc, List.append_assoc, List.append_assoc]
          rw [e]; exact .inr hK5)
        clear hK5 hb5 ho5 hs5 HI HF HL f0 f1
        go_wp2_with fail
        go_roundw
        case rel => exact ⟨k + 1, by omega, by go_num, HI5.out, hB5, by omega⟩
        case measure => simp [intOf]; omega
      · obtain rfl : k = fs.length := by omega
        have hfl := fldsL_len (fs.take fs.length)
        rw [List.take_length] at hfl
        have hI' := HI.out
        rw [List.take_length] at hI'
        have HI' := Lib.hid hI'
        clear hI' HI
        go_wp2_with fail
        refine (bws_c (w.heap.size + 1) (w.heap.size + 1) _ ⟨#[13, 10]⟩ _ HI'.out (by rw [Lib.byteCells_length]; simp only [List.length_append, crlfL, List.length_cons, List.length_nil, show (⟨#[13, 10]⟩ : ByteArray).size = 2 from rfl]; omega) (by omega)).mono ?_
        rintro e w5 ⟨rfl, hK5, hb5, ho5⟩
        have hs5 := hb5.size
        have hB5 : Below w.heap.size w w5 := hB.trans (hb5.mono (by omega))
        have HI5 := Lib.hid (show Lib.IsBuilderF 82 5 (w.heap.size + 1) (w.heap.size + 1) (Lib.byteCells (fmtHL mi st fs)) w5 by
          have e : Lib.byteCells (fmtHL mi st fs) = Lib.byteCells (stL mi st ++ crlfL ++ fldsL fs) ++ Lib.strCells ⟨#[13, 10]⟩ := by
            rw [Lib.strCells_eq, ← Lib.byteCells_append]; rfl
          rw [e]; exact .inr hK5)
        clear hK5 ho5 HI'
        go_wp2_with fail
        refine (bstr_c (w.heap.size + 1) (w.heap.size + 1) (fmtHL mi st fs) _ HI5.out (by omega)).mono ?_
        rintro e w6 ⟨rfl, _, hb6, _⟩
        go_wp2_with fail
        go_ret
        exact ⟨rfl, hB5.trans (hb6.mono (by omega))⟩
end Go.Proofs.Ytegejmbkpdlekaa
