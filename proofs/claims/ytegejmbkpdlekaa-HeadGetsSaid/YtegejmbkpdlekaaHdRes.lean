/- What the two Parse answer, in parts; the reference's Same; the sanity check of chapter 18; the text of HeadMany. -/
import Derived.Test.YtegejmbkpdlekaaHdRParse
import Derived.Test.YtegejmbkpdlekaaGet
namespace Go.Proofs.Ytegejmbkpdlekaa
open Go.RowKit
/-- error, minor number, status, fields, where the head ends -/
def hrP (X : Except Nat (Nat × Nat × List Fld × Nat)) : Nat × Nat × Nat × List Fld × Nat := match X with
  | .error c => (c, 0, 0, [], 0)
  | .ok (mi, st, fs, to) => (0, mi, st, fs, to)
theorem hr_parts {w w' : World} {X : Except Nat (Nat × Nat × List Fld × Nat)} {e : Ending} (h : HR w w' X e) : ∃ (c mi st : Nat) (fs : List Fld) (to : Nat) (v : Value),
    e = .returned (.tuple #[.agg #[.int .i64 (mi : Int), .int .i64 (st : Int), v], .int .i64 (to : Int), .int .i64 (c : Int)]) ∧ hrP X = (c, mi, st, fs, to) ∧ Rd w' 2 v fs.length (fldsV fs) ∧ fs.length ≤ 9223372036854775807 := by
  rcases h with ⟨c, rfl, rfl⟩ | ⟨mi, st, fs, to, v, rfl, rfl, hL⟩
  · exact ⟨c, 0, 0, [], 0, _, rfl, rfl, Rd.nil _ _, by simp⟩
  · exact ⟨0, mi, st, fs, to, v, rfl, rfl, Rd.of_own hL, own_big hL⟩
theorem hr_same {X : Except Nat (Nat × Nat × List Fld × Nat)} {c c' mi mi' st st' to to' : Nat} {fs fs' : List Fld} (h : hrP X = (c, mi, st, fs, to)) (h' : hrP X = (c', mi', st', fs', to')) : c = c' ∧ mi = mi' ∧ st = st' ∧ fs = fs' ∧ to = to' := by
  rw [h] at h'
  simpa using h'
set_option maxRecDepth 100000 in
set_option maxHeartbeats 1000000 in
theorem rSameH_c (mi st : Int) (v1 v2 : Value) (l : List Fld) (hn : l.length ≤ 9223372036854775807) (w : World) (h1 : Rd w 2 v1 l.length (fldsV l)) (h2 : Rd w 2 v2 l.length (fldsV l)) :
    Calls Try.prog 25 #[.agg #[.int .i64 mi, .int .i64 st, v1], .agg #[.int .i64 mi, .int .i64 st, v2]] w fun e w' => e = .returned (.bool true) ∧ Below w.heap.size w w' := by
  have hB : Below w.heap.size w ((w.alloc (.cells #[.int .i64 mi, .int .i64 st, v1] 29)).alloc (.cells #[.int .i64 mi, .int .i64 st, v2] 29)) := ((Below.refl _ w).alloc (Nat.le_refl _) _).alloc (by simp) _
  have q0 : ((w.alloc (.cells #[.int .i64 mi, .int .i64 st, v1] 29)).alloc (.cells #[.int .i64 mi, .int .i64 st, v2] 29)).heap[w.heap.size]? = some (.cells #[.int .i64 mi, .int .i64 st, v1] 29 (0, 0)) :=
    (Below.heap_alloc _ _ _ (by simp)).trans (heap_alloc_new w _)
  have q1 : ((w.alloc (.cells #[.int .i64 mi, .int .i64 st, v1] 29)).alloc (.cells #[.int .i64 mi, .int .i64 st, v2] 29)).heap[w.heap.size + 1]? = some (.cells #[.int .i64 mi, .int .i64 st, v2] 29 (0, 0)) := by
    have := heap_alloc_new (w.alloc (.cells #[.int .i64 mi, .int .i64 st, v1] 29)) (.cells #[.int .i64 mi, .int .i64 st, v2] 29); simpa using this
  have HS := Lib.hid (rSameFields_c _ v1 v2 l hn (h1.later hB) (h2.later hB))
  obtain ⟨A, c, rfl⟩ := h1.slice
  obtain ⟨A', c', rfl⟩ := h2.slice
  clear h1 h2
  obtain ⟨a0, a1, a2⟩ := cells3' q0
  obtain ⟨b0, b1, b2⟩ := cells3' q1
  clear q0 q1
  go_enter Try.func25, Try.ntmps25
  go_wp2_with fail
  refine HS.out.mono ?_
  rintro e w' ⟨rfl, m, rfl⟩
  go_wp2_with fail
  go_ret
  exact ⟨rfl, ⟨hB.os, hB.tape, hB.output, hB.size, hB.block⟩⟩
def saneT : List UInt8 := [72, 84, 84, 80, 47, 49, 46, 49, 32, 50, 48, 48, 32, 79, 75, 13, 10, 65, 58, 32, 32, 98, 32, 13, 10, 13, 10, 120, 121, 122]
theorem sane18_p : headL (S [72, 84, 84, 80, 47, 49, 46, 49, 32, 50, 48, 48, 32, 79, 75, 13, 10, 65, 58, 32, 32, 98, 32, 13, 10, 13, 10, 120, 121, 122]).data.toList = .ok (1, 200, [([97], [98])], 27) := by kernel_rfl
theorem sane18_g : joinG [([97], [98])] (S [65]).data.toList = [98] ∧ decide (0 < (valuesL [([97], [98])] (S [65]).data.toList).length) = true := ⟨by kernel_rfl, by kernel_rfl⟩
theorem own_cells1 {w : World} {B n size : Nat} {e : TypeId} {v : Value} {xs : List Value} (h : w.ownsRow B e size v n xs) (hn : 0 < n) : ∃ g cap, v = .slice (some ⟨g, 0, none⟩) n cap ∧ g < w.heap.size ∧ ∀ j u, j < n * size → xs[j]? = some u → w.cell? ⟨g, j, none⟩ = some u := by
  rcases own_form h with ⟨_, h0⟩ | ⟨g, cap, rfl, _, hg⟩
  · omega
  · exact ⟨g, cap, rfl, hg, fun j u hj hu => (World.ownsRow.cellAt h j hj).trans hu⟩
set_option maxRecDepth 100000 in
set_option maxHeartbeats 1000000 in
theorem sane18_c (M : Int) (w : World) (hm : MaxAt M w) : Calls Try.prog 22 #[] w fun e w' => e = .returned (.bool true) ∧ Below w.heap.size w w' := by
  have HP := Lib.hid (hParse_c (S [72, 84, 84, 80, 47, 49, 46, 49, 32, 50, 48, 48, 32, 79, 75, 13, 10, 65, 58, 32, 32, 98, 32, 13, 10, 13, 10, 120, 121, 122]) (by decide) M w hm)
  clear hm
  go_enter Try.func22, Try.ntmps22
  go_wp2_with fail
  refine HP.out.mono ?_
  rintro e w1 ⟨hHR, hb1⟩
  rw [sane18_p] at hHR
  obtain ⟨v, he, hL⟩ : ∃ v, e = .returned (.tuple #[.agg #[.int .i64 1, .int .i64 200, v], .int .i64 27, .int .i64 0]) ∧ Flds w1 w.heap.size v [([97], [98])] := by
    rcases hHR with ⟨c, hc, _⟩ | ⟨mi, st, fs, to, v, hl, he, hL⟩
    · cases hc
    · injection hl with hl
      simp only [Prod.mk.injEq] at hl
      obtain ⟨rfl, rfl, rfl, rfl⟩ := hl
      exact ⟨v, he, hL⟩
  subst he
  have hR := Rd.of_own hL
  obtain ⟨g, cap, rfl, hg, hc⟩ := own_cells1 hL (by decide)
  have e0 := hc 0 _ (by decide) rfl
  have hB2 : Below w.heap.size w (w1.alloc (.cells #[.int .i64 1, .int .i64 200, .slice (some ⟨g, 0, none⟩) 1 cap] 29)) := hb1.alloc hb1.size _
  have hb2 : Below w1.heap.size w1 (w1.alloc (.cells #[.int .i64 1, .int .i64 200, .slice (some ⟨g, 0, none⟩) 1 cap] 29)) := (Below.refl _ _).alloc (Nat.le_refl _) _
  have q0 : (w1.alloc (.cells #[.int .i64 1, .int .i64 200, .slice (some ⟨g, 0, none⟩) 1 cap] 29)).heap[w1.heap.size]? = some (.cells #[.int .i64 1, .int .i64 200, .slice (some ⟨g, 0, none⟩) 1 cap] 29 (0, 0)) := heap_alloc_new w1 _
  have HG := Lib.hid (get_c (w1.alloc (.cells #[.int .i64 1, .int .i64 200, .slice (some ⟨g, 0, none⟩) 1 cap] 29)) 1 200 _ [([97], [98])] (S [65]) (by decide) (by decide) (by decide) (by decide) (hR.later hb2))
  have e1 := (hb2.cell (p := ⟨g, 0, none⟩) hg).trans e0
  obtain ⟨a0, a1, a2⟩ := cells3' q0
  have HQ := Lib.hid q0
  clear hHR hR hL hc e0 q0
  go_wp2_with fail
  refine HG.out.mono ?_
  rintro e w3 ⟨he, hb3⟩
  rw [sane18_g.1, sane18_g.2] at he
  subst he
  have q3 := (hb3.block _ (heap_lt HQ.out)).trans HQ.out
  have e3 := (hb3.cell (p := ⟨g, 0, none⟩) (by simp; omega)).trans e1
  clear a0 a1 a2 e1 HQ HG
  obtain ⟨a0, a1, a2⟩ := cells3' q3
  have s1 : ((S [98]).toList == [98]) = true := by rw [S_beq]; exact decide_eq_true rfl
  have s2 : ((S [97]).toList == [97]) = true := by rw [S_beq]; exact decide_eq_true rfl
  clear q3
  go_wp2_with fail
  go_ret
  exact ⟨rfl, hB2.trans (hb3.mono hB2.size)⟩
/-- the text of HeadMany -/
def many0 : List UInt8 := [72, 84, 84, 80, 47, 49, 46, 48, 32, 52, 48, 52, 32, 13, 10]
def manyL : Nat → List UInt8
  | 0 => many0
  | k + 1 => manyL k ++ [120, 58, 32, 49, 13, 10]
theorem manyL_len (k : Nat) : (manyL k).length = 15 + 6 * k := by
  induction k with
  | zero => rfl
  | succ k ih => simp [manyL, ih]; omega
theorem many_snoc (k : Nat) : Value.string (S (manyL k) ++ ⟨#[120, 58, 32, 49, 13, 10]⟩) = .string (S (manyL (k + 1))) := by congr 1
def manyT (k : Nat) (b : Bool) : List UInt8 := (if b then manyL k ++ [32, 102, 111, 108, 100, 101, 100, 13, 10] else manyL k) ++ [13, 10]
theorem manyT_len (k : Nat) (b : Bool) : (manyT k b).length ≤ 6 * k + 30 := by
  have := manyL_len k
  unfold manyT
  cases b <;> simp <;> omega
theorem many18 : ∀ (q : Fin 5) (b : Bool), (hrP (headL (manyT (62 + q.val) b))).1 = (if 2 < q.val ∨ (b = true ∧ q.val = 2) then 161 else if b = true then 180 else 0) ∧
    (hrP (headL (manyT (62 + q.val) b))).2.2.2.1.length = (if 2 < q.val ∨ b = true then 0 else 62 + q.val) ∧ (hrP (headL (manyT (62 + q.val) b))).2.1 = 0 := by decide +kernel
theorem hdr_err : ∀ (n k : Nat) (r : List UInt8) (m : Bool) (c : Nat), r.length + 2 ≤ n → hdrF n k r m = .error c → c ≠ 0
  | 0, _, _, _, _, hn, _ => by omega
  | n + 1, k, r, m, c, hn, h => by
    rw [hdrF] at h
    split at h
    · cases h
    · split at h
      · injection h with h; omega
      · split at h
        · injection h with h; omega
        · have hl := line_lenR r
          split at h
          · rename_i c' hc'
            injection h with h
            subst h
            by_cases hm : moreL r = true
            · rw [hm] at hl; simp at hl
              exact hdr_err n (k + 1) (restL r) (moreL r) _ (by omega) hc'
            · have hm' : moreL r = false := by simpa using hm
              rw [hm'] at hc'
              obtain ⟨j, rfl⟩ : ∃ j, n = j + 1 := ⟨n - 1, by omega⟩
              rw [hdrF, if_pos rfl] at hc'
              cases hc'
          · cases h
theorem head_err {s : List UInt8} {c : Nat} (h : headL s = .error c) : c ≠ 0 := by
  unfold headL at h
  split at h
  · injection h with h
    subst h
    split <;> omega
  · split at h
    · injection h with h; omega
    · unfold finH at h
      split at h
      · rename_i c' hc
        injection h with h
        subst h
        refine hdr_err _ _ _ _ _ ?_ hc
        have := line_lenR (s.take (Lib.index (s.take 16384) endL).toNat)
        rw [List.length_take] at this
        omega
      · cases h
end Go.Proofs.Ytegejmbkpdlekaa
