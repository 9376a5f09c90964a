/- The contracts of IsJRD, IsDID, both (chapter 20). -/
import Derived.Test.YtaopehogpdgkgaaMdKind
namespace Go.Proofs.Ytaopehogpdgkgaa
open Go.RowKit
set_option maxRecDepth 100000 in
set_option maxHeartbeats 2000000 in
theorem isJRD_c (a b : List UInt8) (fv : Value) (fs : List Fld) (ha : a.length ≤ 1000000) (hb : b.length ≤ 1000000) (hn : fs.length ≤ 1000000) (hl : ∀ f ∈ fs, f.1.length ≤ 1000000 ∧ f.2.length ≤ 1000000) (w : World) (h : Rd w 2 fv fs.length (fldsV fs)) :
    Calls Try.prog 23 #[medV a b fv] w fun e w' => e = .returned (.bool (jrdB a b fs)) ∧ Below w.heap.size w w' := by
  unfold jrdB
  rw [← jrd_eq]
  unfold medV
  obtain ⟨A, c, rfl⟩ := h.slice
  have hB0 : Below w.heap.size w (w.alloc (.cells #[.string (S a), .string (S b), .slice A fs.length c] 32)) := (Below.refl _ w).alloc (Nat.le_refl _) _
  have hg0 : (w.alloc (.cells #[.string (S a), .string (S b), .slice A fs.length c] 32)).heap[w.heap.size]? = some (.cells #[.string (S a), .string (S b), .slice A fs.length c] 32 (0, 0)) := heap_alloc_new w _
  have HR := Lib.hid (h.later hB0)
  have HL := Lib.hid hl
  obtain ⟨m0, m1, m2, g0, g1, g2⟩ := cells3m hg0
  have HSZ := Lib.hid (show (w.alloc (.cells #[.string (S a), .string (S b), .slice A fs.length c] 32)).heap.size = w.heap.size + 1 by simp)
  clear h hl
  go_enter Try.func23, Try.ntmps23
  go_wp2_with fail
  generalize w.alloc (.cells #[.string (S a), .string (S b), .slice A fs.length c] 32) = w0 at *
  have hb1 : Below w0.heap.size w0 (w0.alloc (.cells #[.string ⟨#[97, 112, 112, 108, 105, 99, 97, 116, 105, 111, 110, 47, 106, 114, 100, 43, 106, 115, 111, 110]⟩, .string ⟨#[97, 112, 112, 108, 105, 99, 97, 116, 105, 111, 110, 47, 106, 115, 111, 110]⟩] 9)) := (Below.refl _ _).alloc (Nat.le_refl _) _
  have HO := one_c a b (.slice A fs.length c) (.slice (some ⟨w0.heap.size, 0, none⟩) 2 2) fs [n1W, n2W] ha hb hn HL.out (by decide) (w0.alloc (.cells #[.string ⟨#[97, 112, 112, 108, 105, 99, 97, 116, 105, 111, 110, 47, 106, 114, 100, 43, 106, 115, 111, 110]⟩, .string ⟨#[97, 112, 112, 108, 105, 99, 97, 116, 105, 111, 110, 47, 106, 115, 111, 110]⟩] 9)) (HR.out.later hb1) (news_rd w0 [n1W, n2W] 2 2 _ rfl rfl)
  unfold medV at HO
  rw [HSZ.out] at HO
  refine HO.mono ?_
  rintro e w2 ⟨rfl, hb2⟩
  go_wp2_with fail
  go_ret
  exact ⟨rfl, (hB0.trans (hb1.mono hB0.size)).trans (hb2.mono (by have := hB0.size; have := hb1.size; omega))⟩
set_option maxRecDepth 100000 in
set_option maxHeartbeats 2000000 in
theorem isDID_c (a b : List UInt8) (fv : Value) (fs : List Fld) (ha : a.length ≤ 1000000) (hb : b.length ≤ 1000000) (hn : fs.length ≤ 1000000) (hl : ∀ f ∈ fs, f.1.length ≤ 1000000 ∧ f.2.length ≤ 1000000) (w : World) (h : Rd w 2 fv fs.length (fldsV fs)) :
    Calls Try.prog 24 #[medV a b fv] w fun e w' => e = .returned (.bool (didB a b fs)) ∧ Below w.heap.size w w' := by
  unfold didB
  rw [← did_eq]
  unfold medV
  obtain ⟨A, c, rfl⟩ := h.slice
  have hB0 : Below w.heap.size w (w.alloc (.cells #[.string (S a), .string (S b), .slice A fs.length c] 32)) := (Below.refl _ w).alloc (Nat.le_refl _) _
  have hg0 : (w.alloc (.cells #[.string (S a), .string (S b), .slice A fs.length c] 32)).heap[w.heap.size]? = some (.cells #[.string (S a), .string (S b), .slice A fs.length c] 32 (0, 0)) := heap_alloc_new w _
  have HR := Lib.hid (h.later hB0)
  have HL := Lib.hid hl
  obtain ⟨m0, m1, m2, g0, g1, g2⟩ := cells3m hg0
  have HSZ := Lib.hid (show (w.alloc (.cells #[.string (S a), .string (S b), .slice A fs.length c] 32)).heap.size = w.heap.size + 1 by simp)
  clear h hl
  go_enter Try.func24, Try.ntmps24
  go_wp2_with fail
  generalize w.alloc (.cells #[.string (S a), .string (S b), .slice A fs.length c] 32) = w0 at *
  have hb1 : Below w0.heap.size w0 (w0.alloc (.cells #[.string ⟨#[97, 112, 112, 108, 105, 99, 97, 116, 105, 111, 110, 47, 100, 105, 100, 43, 106, 115, 111, 110]⟩, .string ⟨#[97, 112, 112, 108, 105, 99, 97, 116, 105, 111, 110, 47, 100, 105, 100, 43, 108, 100, 43, 106, 115, 111, 110]⟩, .string ⟨#[97, 112, 112, 108, 105, 99, 97, 116, 105, 111, 110, 47, 106, 115, 111, 110]⟩] 9)) := (Below.refl _ _).alloc (Nat.le_refl _) _
  have HO := one_c a b (.slice A fs.length c) (.slice (some ⟨w0.heap.size, 0, none⟩) 3 3) fs [n3W, n4W, n2W] ha hb hn HL.out (by decide) (w0.alloc (.cells #[.string ⟨#[97, 112, 112, 108, 105, 99, 97, 116, 105, 111, 110, 47, 100, 105, 100, 43, 106, 115, 111, 110]⟩, .string ⟨#[97, 112, 112, 108, 105, 99, 97, 116, 105, 111, 110, 47, 100, 105, 100, 43, 108, 100, 43, 106, 115, 111, 110]⟩, .string ⟨#[97, 112, 112, 108, 105, 99, 97, 116, 105, 111, 110, 47, 106, 115, 111, 110]⟩] 9)) (HR.out.later hb1) (news_rd w0 [n3W, n4W, n2W] 3 3 _ rfl rfl)
  unfold medV at HO
  rw [HSZ.out] at HO
  refine HO.mono ?_
  rintro e w2 ⟨rfl, hb2⟩
  go_wp2_with fail
  go_ret
  exact ⟨rfl, (hB0.trans (hb1.mono hB0.size)).trans (hb2.mono (by have := hB0.size; have := hb1.size; omega))⟩
theorem dec_beq (a b : List UInt8) : decide (a = b) = (a == b) := by by_cases h : a = b <;> simp [h]
end Go.Proofs.Ytaopehogpdgkgaa
