/- The contracts of IsJRD, IsDID, both (chapter 20). -/
import Derived.Test.YtaopehogpdgkgaaGreatMdKind
namespace Go.Proofs.YtaopehogpdgkgaaGreat
open Go.RowKit
set_option maxRecDepth 100000 in
set_option maxHeartbeats 2000000 in
theorem isJRD_c (a b : List UInt8) (fv : Value) (fs : List Fld) (ha : a.length ≤ 1000000) (hb : b.length ≤ 1000000) (hn : fs.length ≤ 1000000) (hl : ∀ f ∈ fs, f.1.length ≤ 1000000 ∧ f.2.length ≤ 1000000) (w : World) (h : Rd w 2 fv fs.length (fldsV fs)) :
    Calls Tryz.prog 11 #[medV a b fv] w fun e w' => e = .returned (.bool (jrdB a b fs)) ∧ Below w.heap.size w w' := by
  unfold jrdB
  rw [← jrd_eq]
  unfold medV
  obtain ⟨A, c, rfl⟩ := h.slice
  have hB0 : Below w.heap.size w (w.alloc (.cells #[.string (S a), .string (S b), .slice A fs.length c] 25)) := (Below.refl _ w).alloc (Nat.le_refl _) _
  have hg0 : (w.alloc (.cells #[.string (S a), .string (S b), .slice A fs.length c] 25)).heap[w.heap.size]? = some (.cells #[.string (S a), .string (S b), .slice A fs.length c] 25 (0, 0)) := heap_alloc_new w _
  have HR := Lib.hid (h.later hB0)
  have HL := Lib.hid hl
  obtain ⟨m0, m1, m2, g0, g1, g2⟩ := cells3m hg0
  have HSZ := Lib.hid (show (w.alloc (.cells #[.string (S a), .string (S b), .slice A fs.length c] 25)).heap.size = w.heap.size + 1 by simp)
  clear h hl
  go_enter Tryz.func11, Tryz.ntmps11
  go_wp2_with fail
  generalize w.alloc (.cells #[.string (S a), .string (S b), .slice A fs.length c] 25) = w0 at *
  have hb1 : Below w0.heap.size w0 (w0.alloc (.cells #[.string ⟨#[97, 112, 112, 108, 105, 99, 97, 116, 105, 111, 110, 47, 106, 114, 100, 43, 106, 115, 111, 110]⟩, .string ⟨#[97, 112, 112, 108, 105, 99, 97, 116, 105, 111, 110, 47, 106, 115, 111, 110]⟩] 9)) := (Below.refl _ _).alloc (Nat.le_refl _) _
  have HO := one_c a b (.slice A fs.length c) (.slice (some ⟨w0.heap.size, 0, none⟩) 2 2) fs [n1W, n2W] ha hb hn HL.out (by decide) (w0.alloc (.cells #[.string ⟨#[97, 112, 112, 108, 105, 99, 97, 116, 105, 111, 110, 47, 106, 114, 100, 43, 106, 115, 111, 110]⟩, .string ⟨#[97, 112, 112, 108, 105, 99, 97, 116, 105, 111, 110, 47, 106, 115, 111, 110]⟩] 9)) (HR.out.later hb1) (news_rd w0 [n1W, n2W] 2 2 _ rfl rfl)
  unfold medV at HO
  rw [HSZ.out] at HO
  refine HO.mono ?_
  rintro e w2 ⟨rfl, hb2⟩
  go_wp2_with fail
  go_ret
  exact ⟨rfl, (hB0.trans (hb1.mono hB0.size)).trans (hb2.mono (by have := hB0.size; have := hb1.size; omega))⟩
set_option maxRecDepth 100000 in
set_option maxHeartbeats 2000000 in
theorem isDID_c (a b : List UInt8) (fv : Value) (fs : List Fld) (ha : a.length ≤ 1000000) (hb : b.length ≤ 1000000) (hn : fs.length ≤ 1000000) (hl : ∀ f ∈ fs, f.1.length ≤ 1000000 ∧ f.2.length ≤ 1000000) (w : World) (h : Rd w 2 fv fs.length (fldsV fs)) :
    Calls Tryz.prog 13 #[medV a b fv] w fun e w' => e = .returned (.bool (didB a b fs)) ∧ Below w.heap.size w w' := by
  unfold didB
  rw [← did_eq]
  unfold medV
  obtain ⟨A, c, rfl⟩ := h.slice
  have hB0 : Below w.heap.size w (w.alloc (.cells #[.string (S a), .string (S b), .slice A fs.length c] 25)) := (Below.refl _ w).alloc (Nat.le_refl _) _
  have hg0 : (w.alloc (.cells #[.string (S a), .string (S b), .slice A fs.length c] 25)).heap[w.heap.size]? = some (.cells #[.string (S a), .string (S b), .slice A fs.length c] 25 (0, 0)) := heap_alloc_new w _
  have HR := Lib.hid (h.later hB0)
  have HL := Lib.hid hl
  obtain ⟨m0, m1, m2, g0, g1, g2⟩ := cells3m hg0
  have HSZ := Lib.hid (show (w.alloc (.cells #[.string (S a), .string (S b), .slice A fs.length c] 25)).heap.size = w.heap.size + 1 by simp)
  clear h hl
  go_enter Tryz.func13, Tryz.ntmps13
  go_wp2_with fail
  generalize w.alloc (.cells #[.string (S a), .string (S b), .slice A fs.length c] 25) = w0 at *
  have hb1 : Below w0.heap.size w0 (w0.alloc (.cells #[.string ⟨#[97, 112, 112, 108, 105, 99, 97, 116, 105, 111, 110, 47, 100, 105, 100, 43, 106, 115, 111, 110]⟩, .string ⟨#[97, 112, 112, 108, 105, 99, 97, 116, 105, 111, 110, 47, 100, 105, 100, 43, 108, 100, 43, 106, 115, 111, 110]⟩, .string ⟨#[97, 112, 112, 108, 105, 99, 97, 116, 105, 111, 110, 47, 106, 115, 111, 110]⟩] 9)) := (Below.refl _ _).alloc (Nat.le_refl _) _
  have HO := one_c a b (.slice A fs.length c) (.slice (some ⟨w0.heap.size, 0, none⟩) 3 3) fs [n3W, n4W, n2W] ha hb hn HL.out (by decide) (w0.alloc (.cells #[.string ⟨#[97, 112, 112, 108, 105, 99, 97, 116, 105, 111, 110, 47, 100, 105, 100, 43, 106, 115, 111, 110]⟩, .string ⟨#[97, 112, 112, 108, 105, 99, 97, 116, 105, 111, 110, 47, 100, 105, 100, 43, 108, 100, 43, 106, 115, 111, 110]⟩, .string ⟨#[97, 112, 112, 108, 105, 99, 97, 116, 105, 111, 110, 47, 106, 115, 111, 110]⟩] 9)) (HR.out.later hb1) (news_rd w0 [n3W, n4W, n2W] 3 3 _ rfl rfl)
  unfold medV at HO
  rw [HSZ.out] at HO
  refine HO.mono ?_
  rintro e w2 ⟨rfl, hb2⟩
  go_wp2_with fail
  go_ret
  exact ⟨rfl, (hB0.trans (hb1.mono hB0.size)).trans (hb2.mono (by have := hB0.size; have := hb1.size; omega))⟩
theorem dec_beq (a b : List UInt8) : decide (a = b) = (a == b) := by by_cases h : a = b <;> simp [h]
set_option maxRecDepth 100000 in
set_option maxHeartbeats 4000000 in
theorem rIsJRD_c (a b : List UInt8) (fv : Value) (fs : List Fld) (hn : fs.length ≤ 1000000) (hl : ∀ f ∈ fs, f.1.length ≤ 1000000 ∧ f.2.length ≤ 1000000) (w : World) (h : Rd w 2 fv fs.length (fldsV fs)) :
    Calls Tryz.prog 12 #[medV a b fv] w fun e w' => e = .returned (.bool (jrdB a b fs)) ∧ Below w.heap.size w w' := by
  unfold jrdB
  obtain ⟨A, c, rfl⟩ := h.slice
  have hB0 : Below w.heap.size w (w.alloc (.cells #[.string (S a), .string (S b), .slice A fs.length c] 25)) := (Below.refl _ w).alloc (Nat.le_refl _) _
  have hg0 : (w.alloc (.cells #[.string (S a), .string (S b), .slice A fs.length c] 25)).heap[w.heap.size]? = some (.cells #[.string (S a), .string (S b), .slice A fs.length c] 25 (0, 0)) := heap_alloc_new w _
  have HP := Lib.hid (plain_c a b _ fs hn hl _ (h.later hB0))
  obtain ⟨m0, m1, m2, g0, g1, g2⟩ := cells3m hg0
  have HSa := Lib.hid (S_beq a appW)
  obtain ⟨x1, hx1⟩ : ∃ x, (b == jrdW) = x := ⟨_, rfl⟩
  have s1 : ((S b).toList == [106, 114, 100, 43, 106, 115, 111, 110]) = x1 := by rw [← hx1]; exact (S_beq b jrdW).trans (dec_beq _ _)
  rw [hx1]
  clear hx1
  obtain ⟨x2, hx2⟩ : ∃ x, (b == jsonW) = x := ⟨_, rfl⟩
  have s2 : ((S b).toList == [106, 115, 111, 110]) = x2 := by rw [← hx2]; exact (S_beq b jsonW).trans (dec_beq _ _)
  rw [hx2]
  clear hx2
  obtain ⟨xa, hxa⟩ : ∃ x, (a == appW) = x := ⟨_, rfl⟩
  have s0 : ((S a).toList == [97, 112, 112, 108, 105, 99, 97, 116, 105, 111, 110]) = xa := by rw [← hxa]; exact HSa.out.trans (dec_beq _ _)
  rw [hxa]
  unfold medV at *
  clear h hl hxa
  cases xa with
  | false =>
    go_enter Tryz.func12, Tryz.ntmps12
    go_wp2_with fail
    go_ret
    exact ⟨rfl, hB0⟩
  | true =>
    cases x1 with
    | true =>
      go_enter Tryz.func12, Tryz.ntmps12
      go_wp2_with fail
      refine HP.out.mono ?_
      rintro e w2 ⟨rfl, hb2⟩
      go_wp2_with fail
      go_ret
      exact ⟨by simp, hB0.trans (hb2.mono hB0.size)⟩
    | false =>
      cases x2 with
      | true =>
        go_enter Tryz.func12, Tryz.ntmps12
        go_wp2_with fail
        refine HP.out.mono ?_
        rintro e w2 ⟨rfl, hb2⟩
        go_wp2_with fail
        go_ret
        exact ⟨by simp, hB0.trans (hb2.mono hB0.size)⟩
      | false =>
        go_enter Tryz.func12, Tryz.ntmps12
        go_wp2_with fail
        go_ret
        exact ⟨rfl, hB0⟩
set_option maxRecDepth 100000 in
set_option maxHeartbeats 4000000 in
theorem rIsDID_c (a b : List UInt8) (fv : Value) (fs : List Fld) (hn : fs.length ≤ 1000000) (hl : ∀ f ∈ fs, f.1.length ≤ 1000000 ∧ f.2.length ≤ 1000000) (w : World) (h : Rd w 2 fv fs.length (fldsV fs)) :
    Calls Tryz.prog 14 #[medV a b fv] w fun e w' => e = .returned (.bool (didB a b fs)) ∧ Below w.heap.size w w' := by
  unfold didB
  obtain ⟨A, c, rfl⟩ := h.slice
  have hB0 : Below w.heap.size w (w.alloc (.cells #[.string (S a), .string (S b), .slice A fs.length c] 25)) := (Below.refl _ w).alloc (Nat.le_refl _) _
  have hg0 : (w.alloc (.cells #[.string (S a), .string (S b), .slice A fs.length c] 25)).heap[w.heap.size]? = some (.cells #[.string (S a), .string (S b), .slice A fs.length c] 25 (0, 0)) := heap_alloc_new w _
  have HP := Lib.hid (plain_c a b _ fs hn hl _ (h.later hB0))
  obtain ⟨m0, m1, m2, g0, g1, g2⟩ := cells3m hg0
  have HSa := Lib.hid (S_beq a appW)
  obtain ⟨x1, hx1⟩ : ∃ x, (b == didW) = x := ⟨_, rfl⟩
  have s1 : ((S b).toList == [100, 105, 100, 43, 106, 115, 111, 110]) = x1 := by rw [← hx1]; exact (S_beq b didW).trans (dec_beq _ _)
  rw [hx1]
  clear hx1
  obtain ⟨x2, hx2⟩ : ∃ x, (b == didldW) = x := ⟨_, rfl⟩
  have s2 : ((S b).toList == [100, 105, 100, 43, 108, 100, 43, 106, 115, 111, 110]) = x2 := by rw [← hx2]; exact (S_beq b didldW).trans (dec_beq _ _)
  rw [hx2]
  clear hx2
  obtain ⟨x3, hx3⟩ : ∃ x, (b == jsonW) = x := ⟨_, rfl⟩
  have s3 : ((S b).toList == [106, 115, 111, 110]) = x3 := by rw [← hx3]; exact (S_beq b jsonW).trans (dec_beq _ _)
  rw [hx3]
  clear hx3
  obtain ⟨xa, hxa⟩ : ∃ x, (a == appW) = x := ⟨_, rfl⟩
  have s0 : ((S a).toList == [97, 112, 112, 108, 105, 99, 97, 116, 105, 111, 110]) = xa := by rw [← hxa]; exact HSa.out.trans (dec_beq _ _)
  rw [hxa]
  unfold medV at *
  clear h hl hxa
  cases xa with
  | false =>
    go_enter Tryz.func14, Tryz.ntmps14
    go_wp2_with fail
    go_ret
    exact ⟨rfl, hB0⟩
  | true =>
    cases x1 with
    | true =>
      go_enter Tryz.func14, Tryz.ntmps14
      go_wp2_with fail
      refine HP.out.mono ?_
      rintro e w2 ⟨rfl, hb2⟩
      go_wp2_with fail
      go_ret
      exact ⟨by simp, hB0.trans (hb2.mono hB0.size)⟩
    | false =>
      cases x2 with
      | true =>
        go_enter Tryz.func14, Tryz.ntmps14
        go_wp2_with fail
        refine HP.out.mono ?_
        rintro e w2 ⟨rfl, hb2⟩
        go_wp2_with fail
        go_ret
        exact ⟨by simp, hB0.trans (hb2.mono hB0.size)⟩
      | false =>
        cases x3 with
        | true =>
          go_enter Tryz.func14, Tryz.ntmps14
          go_wp2_with fail
          refine HP.out.mono ?_
          rintro e w2 ⟨rfl, hb2⟩
          go_wp2_with fail
          go_ret
          exact ⟨by simp, hB0.trans (hb2.mono hB0.size)⟩
        | false =>
          go_enter Tryz.func14, Tryz.ntmps14
          go_wp2_with fail
          go_ret
          exact ⟨rfl, hB0⟩
end Go.Proofs.YtaopehogpdgkgaaGreat
