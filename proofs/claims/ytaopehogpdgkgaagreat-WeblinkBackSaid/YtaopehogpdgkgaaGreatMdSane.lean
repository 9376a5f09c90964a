/- The reference's Parse and Same of media types; the sanity check of chapter 20. -/
import Derived.Test.YtaopehogpdgkgaaGreatMdWrite
namespace Go.Proofs.YtaopehogpdgkgaaGreat
open Go.RowKit
/-- error, type, subtype, parameters -/
def mdP (X : MX) : Nat × List UInt8 × List UInt8 × List Fld := match X with
  | none => (200, [], [], [])
  | some (a, b, fs) => (0, a, b, fs)
theorem md_parts {w w' : World} {X : MX} {e : Ending} (h : MDR w w' X e) : ∃ (c : Nat) (a b : List UInt8) (fs : List Fld) (v : Value), e = .returned (.tuple #[medV a b v, .int .i64 (c : Int)]) ∧ mdP X = (c, a, b, fs) ∧ Rd w' 2 v fs.length (fldsV fs) ∧ fs.length ≤ 9223372036854775807 := by
  rcases h with ⟨rfl, rfl⟩ | ⟨a, b, fs, v, rfl, rfl, hL⟩
  · exact ⟨200, [], [], [], _, rfl, rfl, ⟨none, 0, rfl, by simp [fldsV], fun h => absurd h (by simp)⟩, by simp⟩
  · refine ⟨0, a, b, fs, v, rfl, rfl, Rd.of_own hL, ?_⟩
    rcases hL.2 with ⟨_, h0⟩ | ⟨g, cap, cur, _, _, _, hnc, hcm, _⟩
    · omega
    · unfold maxLen at hcm; omega
theorem md_same {X : MX} {c c' : Nat} {a a' b b' : List UInt8} {fs fs' : List Fld} (h : mdP X = (c, a, b, fs)) (h' : mdP X = (c', a', b', fs')) : c = c' ∧ a = a' ∧ b = b' ∧ fs = fs' := by
  rw [h] at h'; simpa using h'
set_option maxRecDepth 100000 in
set_option maxHeartbeats 2000000 in
theorem rMParse_c (s : ByteArray) (hs : s.size ≤ 1000000) (w : World) :
    Calls Tryz.prog 9 #[.string s] w fun e w' => MDR w w' (mediaL s.data.toList) e ∧ Below w.heap.size w w' := by
  have hB0 : Below w.heap.size w (w.alloc (.cells #[.string ⟨#[]⟩, .string ⟨#[]⟩, .slice none 0 0] 25)) := (Below.refl _ w).alloc (Nat.le_refl _) _
  have hg0 := heap_alloc_new w (.cells #[.string ⟨#[]⟩, .string ⟨#[]⟩, .slice none 0 0] 25)
  have HP := Lib.hid (rmParse_c s hs (w.alloc (.cells #[.string ⟨#[]⟩, .string ⟨#[]⟩, .slice none 0 0] 25)))
  go_enter Tryz.func9, Tryz.ntmps9
  go_wp2_with fail
  refine HP.out.mono ?_
  have hsz : (w.alloc (.cells #[.string ⟨#[]⟩, .string ⟨#[]⟩, .slice none 0 0] 25)).heap.size = w.heap.size + 1 := by simp
  generalize w.alloc (.cells #[.string ⟨#[]⟩, .string ⟨#[]⟩, .slice none 0 0] 25) = w0 at *
  rintro e w1 ⟨hR, hb1⟩
  have hB1 := hB0.trans (hb1.mono hB0.size)
  have hg1 := (hb1.block _ (heap_lt hg0)).trans hg0
  have hlt := heap_lt hg1
  clear HP hB0 hg0 hb1
  rcases hR with ⟨hx, rfl⟩ | ⟨a, b, fs, v, hx, rfl, hL⟩
  · have hB2 := hB1.alloc hB1.size (.cells #[.string ⟨#[]⟩, .string ⟨#[]⟩, .slice none 0 0] 25)
    have hg2 := (Below.heap_alloc w1 (.cells #[.string ⟨#[]⟩, .string ⟨#[]⟩, .slice none 0 0] 25) _ hlt).trans hg1
    obtain ⟨r0, r1, r2, y0, y1, y2⟩ := cells3m hg2
    have HX := Lib.hid hx
    clear hx hg2 hsz hlt
    go_wp2_with fail
    refine bodyPost_ret (v := .tuple #[.agg #[.string ⟨#[]⟩, .string ⟨#[]⟩, .slice none 0 0], .int .i64 200]) (by simp [results, Tryz.results9, go_sem, r0, r1, r2]) rfl ⟨mdr_err HX.out rfl, below3m hB2 _ _ _⟩
  · obtain ⟨A, c, rfl⟩ : ∃ A c, v = .slice A fs.length c := own_sl hL
    have hB2 := hB1.alloc hB1.size (.cells #[.string (S a), .string (S b), .slice A fs.length c] 25)
    have hg2 := (Below.heap_alloc w1 (.cells #[.string (S a), .string (S b), .slice A fs.length c] 25) _ hlt).trans hg1
    have hm2 := heap_alloc_new w1 (.cells #[.string (S a), .string (S b), .slice A fs.length c] 25)
    have hL2 := hL.later ((Below.refl w1.heap.size w1).alloc (Nat.le_refl _) (.cells #[.string (S a), .string (S b), .slice A fs.length c] 25))
    obtain ⟨r0, r1, r2, y0, y1, y2⟩ := cells3m hg2
    obtain ⟨m0, m1, m2, g0, g1, g2⟩ := cells3m hm2
    have HX := Lib.hid hx
    have HL := Lib.hid hL2
    rw [hsz] at HL
    have HLT := Lib.hid hlt
    clear hx hg2 hm2 hL2 hL hsz hlt
    go_wp2_with fail
    refine bodyPost_ret (v := .tuple #[.agg #[.string (S a), .string (S b), .slice A fs.length c], .int .i64 0]) (by simp [results, Tryz.results9, go_sem, r0, r1, r2]) rfl ⟨.inr ⟨a, b, fs, _, HX.out, rfl, ?_⟩, below3m hB2 _ _ _⟩
    exact ((HL.out.off (row := some w.heap.size) (((Only.set (b := w.heap.size) _).trans (Only.set _)).trans (Only.set _)) (fun g hg => by cases hg; exact .inl (by have := HLT.out; omega))).base (by omega))
set_option maxRecDepth 100000 in
set_option maxHeartbeats 1000000 in
theorem rMSame_c (a b : List UInt8) (v1 v2 : Value) (l : List Fld) (hn : l.length ≤ 9223372036854775807) (w : World) (h1 : Rd w 2 v1 l.length (fldsV l)) (h2 : Rd w 2 v2 l.length (fldsV l)) :
    Calls Tryz.prog 10 #[medV a b v1, medV a b v2] w fun e w' => e = .returned (.bool true) ∧ Below w.heap.size w w' := by
  unfold medV
  have hB : Below w.heap.size w ((w.alloc (.cells #[.string (S a), .string (S b), v1] 25)).alloc (.cells #[.string (S a), .string (S b), v2] 25)) := ((Below.refl _ w).alloc (Nat.le_refl _) _).alloc (by simp) _
  have q0 : ((w.alloc (.cells #[.string (S a), .string (S b), v1] 25)).alloc (.cells #[.string (S a), .string (S b), v2] 25)).heap[w.heap.size]? = some (.cells #[.string (S a), .string (S b), v1] 25 (0, 0)) :=
    (Below.heap_alloc _ _ _ (by simp)).trans (heap_alloc_new w _)
  have q1 : ((w.alloc (.cells #[.string (S a), .string (S b), v1] 25)).alloc (.cells #[.string (S a), .string (S b), v2] 25)).heap[w.heap.size + 1]? = some (.cells #[.string (S a), .string (S b), v2] 25 (0, 0)) := by
    have := heap_alloc_new (w.alloc (.cells #[.string (S a), .string (S b), v1] 25)) (.cells #[.string (S a), .string (S b), v2] 25); simpa using this
  have HS := Lib.hid (rSameFields_c _ v1 v2 l hn (h1.later hB) (h2.later hB))
  obtain ⟨A, c, rfl⟩ := h1.slice
  obtain ⟨A', c', rfl⟩ := h2.slice
  clear h1 h2
  obtain ⟨a0, a1, a2, _, _, _⟩ := cells3m q0
  obtain ⟨b0, b1, b2, _, _, _⟩ := cells3m q1
  clear q0 q1
  go_enter Tryz.func10, Tryz.ntmps10
  go_wp2_with fail
  refine HS.out.mono ?_
  rintro e w' ⟨rfl, m, rfl⟩
  go_wp2_with fail
  go_ret
  exact ⟨rfl, ⟨hB.os, hB.tape, hB.output, hB.size, hB.block⟩⟩
def saneF : List Fld := [([99, 104, 97, 114, 115, 101, 116], [85, 84, 70, 45, 56])]
theorem sane20_p : mediaL (S [32, 65, 112, 112, 108, 105, 99, 97, 116, 105, 111, 110, 47, 74, 82, 68, 43, 106, 115, 111, 110, 32, 59, 32, 99, 104, 97, 114, 115, 101, 116, 61, 34, 85, 84, 70, 45, 56, 34]).data.toList = some (appW, jrdW, saneF) := by kernel_rfl
theorem sane20_j : jrdB appW jrdW saneF = true ∧ didB appW jrdW saneF = false ∧ fmtML appW jrdW saneF = [97, 112, 112, 108, 105, 99, 97, 116, 105, 111, 110, 47, 106, 114, 100, 43, 106, 115, 111, 110, 59, 32, 99, 104, 97, 114, 115, 101, 116, 61, 85, 84, 70, 45, 56] := ⟨by kernel_rfl, by kernel_rfl, by kernel_rfl⟩
theorem saneF_l : ∀ f ∈ saneF, f.1.length ≤ 1000000 ∧ f.2.length ≤ 1000000 := by decide
theorem saneF_l2 : ∀ f ∈ saneF, f.1.length ≤ 2000 ∧ f.2.length ≤ 2000 := by decide
set_option maxRecDepth 100000 in
set_option maxHeartbeats 2000000 in
theorem sane20_c (w : World) : Calls Tryz.prog 7 #[] w fun e w' => e = .returned (.bool true) ∧ Below w.heap.size w w' := by
  have HP := Lib.hid (mParse_c (S [32, 65, 112, 112, 108, 105, 99, 97, 116, 105, 111, 110, 47, 74, 82, 68, 43, 106, 115, 111, 110, 32, 59, 32, 99, 104, 97, 114, 115, 101, 116, 61, 34, 85, 84, 70, 45, 56, 34]) (by decide) w)
  go_enter Tryz.func7, Tryz.ntmps7
  go_wp2_with fail
  refine HP.out.mono ?_
  rintro e w1 ⟨hR, hb1⟩
  rw [sane20_p] at hR
  obtain ⟨v, he, hL⟩ : ∃ v, e = .returned (.tuple #[.agg #[.string (S appW), .string (S jrdW), v], .int .i64 0]) ∧ Flds w1 w.heap.size v saneF := by
    rcases hR with ⟨hc, _⟩ | ⟨a, b, fs, v, hl, he, hL⟩
    · cases hc
    · injection hl with hl
      simp only [Prod.mk.injEq] at hl
      obtain ⟨rfl, rfl, rfl⟩ := hl
      exact ⟨v, he, hL⟩
  subst he
  have hR1 := Rd.of_own hL
  obtain ⟨A, c, rfl⟩ : ∃ A c, v = .slice A 1 c := hR1.slice
  have hb2 : Below w1.heap.size w1 (w1.alloc (.cells #[.string (S appW), .string (S jrdW), .slice A 1 c] 25)) := (Below.refl _ _).alloc (Nat.le_refl _) _
  have hB2 := hb1.trans (hb2.mono hb1.size)
  have q2 := heap_alloc_new w1 (.cells #[.string (S appW), .string (S jrdW), .slice A 1 c] 25)
  have HR2 := Lib.hid (hR1.later hb2)
  obtain ⟨m0, m1, m2, g0, g1, g2⟩ := cells3m q2
  have s1 : ((S jrdW).toList == [106, 114, 100, 43, 106, 115, 111, 110]) = true := by rw [S_beq]; exact decide_eq_true rfl
  clear hR hL hR1 hb2 hb1
  go_wp2_with fail
  generalize w1.alloc (.cells #[.string (S appW), .string (S jrdW), .slice A 1 c] 25) = w2 at *
  have hJ := isJRD_c appW jrdW (.slice A 1 c) saneF (by decide) (by decide) (by decide) saneF_l w2 HR2.out
  rw [sane20_j.1] at hJ
  refine hJ.mono ?_
  rintro e w3 ⟨rfl, hb3⟩
  have hB3 := hB2.trans (hb3.mono hB2.size)
  have q3 := (hb3.block _ (heap_lt q2)).trans q2
  have HR3 := Lib.hid (HR2.out.later hb3)
  clear m0 m1 m2 g0 g1 g2 q2 HR2 hB2 hb3
  obtain ⟨m0, m1, m2, g0, g1, g2⟩ := cells3m q3
  go_wp2_with fail
  have hJ := isDID_c appW jrdW (.slice A 1 c) saneF (by decide) (by decide) (by decide) saneF_l w3 HR3.out
  rw [sane20_j.2.1] at hJ
  refine hJ.mono ?_
  rintro e w4 ⟨rfl, hb4⟩
  have hB4 := hB3.trans (hb4.mono hB3.size)
  have q4 := (hb4.block _ (heap_lt q3)).trans q3
  have HR4 := Lib.hid (HR3.out.later hb4)
  clear m0 m1 m2 g0 g1 g2 q3 HR3 hB3 hb4
  obtain ⟨m0, m1, m2, g0, g1, g2⟩ := cells3m q4
  go_wp2_with fail
  have hJ := mFormat_c appW jrdW (.slice A 1 c) saneF (by decide) (by decide) saneF_l2 (fun f hf W => by
    have hf' : f = ([99, 104, 97, 114, 115, 101, 116], [85, 84, 70, 45, 56]) := by simpa [saneF] using hf
    subst hf'
    have h := write_tok_c (S [85, 84, 70, 45, 56]) (by decide) (by kernel_rfl) W
    exact h) w4 HR4.out
  rw [sane20_j.2.2] at hJ
  refine hJ.mono ?_
  rintro e w5 ⟨rfl, hb5⟩
  have s2 : ((S [97, 112, 112, 108, 105, 99, 97, 116, 105, 111, 110, 47, 106, 114, 100, 43, 106, 115, 111, 110, 59, 32, 99, 104, 97, 114, 115, 101, 116, 61, 85, 84, 70, 45, 56]).toList == [97, 112, 112, 108, 105, 99, 97, 116, 105, 111, 110, 47, 106, 114, 100, 43, 106, 115, 111, 110, 59, 32, 99, 104, 97, 114, 115, 101, 116, 61, 85, 84, 70, 45, 56]) = true := by rw [S_beq]; exact decide_eq_true rfl
  go_wp2_with fail
  go_ret
  exact ⟨rfl, hB4.trans (hb5.mono hB4.size)⟩
end Go.Proofs.YtaopehogpdgkgaaGreat
