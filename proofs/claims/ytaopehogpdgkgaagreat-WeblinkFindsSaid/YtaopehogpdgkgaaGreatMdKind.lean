/- The kinds of media types, program and reference (chapter 20). -/
import Derived.Test.YtaopehogpdgkgaaGreatMdRParse
import Derived.Test.YtaopehogpdgkgaaGreatRd
namespace Go.Proofs.YtaopehogpdgkgaaGreat
open Go.RowKit
def charW : List UInt8 := [99, 104, 97, 114, 115, 101, 116]
def utfW : List UInt8 := [117, 116, 102, 45, 56]
def utfF (f : Fld) : Bool := !(f.1 == charW) || (lowerL f.2 == lowerL utfW)
def utfB (fs : List Fld) : Bool := fs.all utfF
theorem utf_hit {fs : List Fld} {k : Nat} {b : Bool} (h : k < fs.length) (hf : utfF fs[k] = false) (H : utfB (fs.drop k) = b) : b = false := by
  rw [← H, List.drop_eq_getElem_cons h]; unfold utfB; rw [List.all_cons, hf]; rfl
theorem utf_next {fs : List Fld} {k : Nat} {b : Bool} (h : k < fs.length) (hf : utfF fs[k] = true) (H : utfB (fs.drop k) = b) : utfB (fs.drop (k + 1)) = b := by
  rw [← H]; conv => rhs; rw [List.drop_eq_getElem_cons h]
  unfold utfB; rw [List.all_cons, hf]; rfl
theorem utf_end {fs : List Fld} {k : Nat} {b : Bool} (h : ¬ k < fs.length) (H : utfB (fs.drop k) = b) : b = true := by
  rw [← H, List.drop_of_length_le (by omega)]; rfl
def medV (a b : List UInt8) (fv : Value) : Value := .agg #[.string (S a), .string (S b), fv]
set_option maxRecDepth 100000 in
set_option maxHeartbeats 2000000 in
theorem utf8_c (a b : List UInt8) (fv : Value) (fs : List Fld) (hn : fs.length ≤ 1000000) (hl : ∀ f ∈ fs, f.1.length ≤ 1000000 ∧ f.2.length ≤ 1000000) (w : World) (h : Rd w 2 fv fs.length (fldsV fs)) :
    Calls Tryz.prog 53 #[medV a b fv] w fun e w' => e = .returned (.bool (utfB fs)) ∧ Below w.heap.size w w' := by
  unfold medV
  obtain ⟨A, c, rfl⟩ := h.slice
  have hB0 : Below w.heap.size w (w.alloc (.cells #[.string (S a), .string (S b), .slice A fs.length c] 25)) := (Below.refl _ w).alloc (Nat.le_refl _) _
  have hg0 : (w.alloc (.cells #[.string (S a), .string (S b), .slice A fs.length c] 25)).heap[w.heap.size]? = some (.cells #[.string (S a), .string (S b), .slice A fs.length c] 25 (0, 0)) := heap_alloc_new w _
  have HR := Lib.hid (h.later hB0)
  have HL := Lib.hid hl
  obtain ⟨m0, m1, m2, g0, g1, g2⟩ := cells3m hg0
  clear h hl
  go_enter Tryz.func53, Tryz.ntmps53
  go_wp2_with fail
  generalize w.alloc (.cells #[.string (S a), .string (S b), .slice A fs.length c] 25) = w0 at *
  go_loopw [8] (fun u8 wr => ∃ k : Nat, k ≤ fs.length ∧ u8 = .int .i64 (k : Int) ∧ utfB (fs.drop k) = utfB fs ∧ Below w0.heap.size w0 wr) (fun u8 _ => fs.length - (intOf u8).toNat)
  case atStart => exact ⟨0, Nat.zero_le _, rfl, rfl, Below.refl _ _⟩
  case round =>
    clear m0 m1 m2 g0 g1 g2 hg0
    obtain ⟨k, hk, rfl, hK, hB⟩ := hrel
    have HK := Lib.hid hK
    clear hK
    by_cases hkn : k < fs.length
    · obtain ⟨ad, c2, hv, hab, hcc⟩ := (HR.out.later hB).at_ (by omega)
      obtain rfl : A = some ad := by injection hv
      obtain ⟨f0, f1⟩ := fld_at hcc hkn
      have HSZ := Lib.hid (HL.out fs[k] (List.getElem_mem hkn))
      have hsz := hB.size
      clear hcc hv
      by_cases hch : fs[k].1 = charW
      · have s1 : ((S fs[k].1).toList == [99, 104, 97, 114, 115, 101, 116]) = true := by rw [S_beq]; exact decide_eq_true hch
        have HEQ := Lib.hid (equal_c (S fs[k].2) ⟨#[117, 116, 102, 45, 56]⟩ (by rw [S_size]; have := HSZ.out; omega) (by decide))
        obtain ⟨x, hx⟩ : ∃ x, (lowerL fs[k].2 == lowerL utfW) = x := ⟨_, rfl⟩
        have HQ := Lib.hid (show ∀ W, Calls Tryz.prog 40 #[.string (S fs[k].2), .string ⟨#[117, 116, 102, 45, 56]⟩] W fun e w' => e = .returned (.bool x) ∧ Below W.heap.size W w' from fun W => by
          have h := HEQ.out W
          rw [S_list, show (⟨#[117, 116, 102, 45, 56]⟩ : ByteArray).data.toList = utfW from rfl, hx] at h
          exact h)
        have HF := Lib.hid (show utfF fs[k] = x by unfold utfF; rw [hch, hx]; simp)
        clear hch hx HEQ
        have hB' : Below w0.heap.size w0 (wr.alloc (.cells #[.string (S fs[k].1), .string (S fs[k].2)] 52)) := hB.alloc hsz _
        cases x with
        | true =>
          go_wp2_with fail
          refine (HQ.out _).mono ?_
          rintro e w2 ⟨rfl, hb2⟩
          go_wp2_with fail
          go_roundw
          case rel => exact ⟨k + 1, by omega, by go_num, utf_next hkn HF.out HK.out, hB'.trans (hb2.mono hB'.size)⟩
          case measure => simp [intOf]; omega
        | false =>
          have HE := Lib.hid (utf_hit hkn HF.out HK.out)
          go_wp2_with fail
          refine (HQ.out _).mono ?_
          rintro e w2 ⟨rfl, hb2⟩
          go_wp2_with fail
          go_ret
          exact ⟨by rw [HE.out]; rfl, hB0.trans ((hB'.trans (hb2.mono hB'.size)).mono hB0.size)⟩
      · have s1 : ((S fs[k].1).toList == [99, 104, 97, 114, 115, 101, 116]) = false := by rw [S_beq]; exact decide_eq_false hch
        have HF := Lib.hid (show utfF fs[k] = true by
          unfold utfF
          have : (fs[k].1 == charW) = false := by rw [beq_eq_false_iff_ne]; exact hch
          rw [this]; rfl)
        clear hch
        go_wp2_with fail
        go_roundw
        case rel => exact ⟨k + 1, by omega, by go_num, utf_next hkn HF.out HK.out, hB.alloc hsz _⟩
        case measure => simp [intOf]; omega
    · have HE := Lib.hid (utf_end hkn HK.out)
      go_wp2_with fail
      go_ret
      exact ⟨by rw [HE.out]; rfl, hB0.trans (hB.mono hB0.size)⟩
set_option maxRecDepth 100000 in
set_option maxHeartbeats 2000000 in
theorem plain_c (a b : List UInt8) (fv : Value) (fs : List Fld) (hn : fs.length ≤ 1000000) (hl : ∀ f ∈ fs, f.1.length ≤ 1000000 ∧ f.2.length ≤ 1000000) (w : World) (h : Rd w 2 fv fs.length (fldsV fs)) :
    Calls Tryz.prog 36 #[medV a b fv] w fun e w' => e = .returned (.bool (utfB fs)) ∧ Below w.heap.size w w' := by
  unfold medV
  obtain ⟨A, c, rfl⟩ := h.slice
  have hB0 : Below w.heap.size w (w.alloc (.cells #[.string (S a), .string (S b), .slice A fs.length c] 25)) := (Below.refl _ w).alloc (Nat.le_refl _) _
  have hg0 : (w.alloc (.cells #[.string (S a), .string (S b), .slice A fs.length c] 25)).heap[w.heap.size]? = some (.cells #[.string (S a), .string (S b), .slice A fs.length c] 25 (0, 0)) := heap_alloc_new w _
  have HR := Lib.hid (h.later hB0)
  have HL := Lib.hid hl
  obtain ⟨m0, m1, m2, g0, g1, g2⟩ := cells3m hg0
  clear h hl
  go_enter Tryz.func36, Tryz.ntmps36
  go_wp2_with fail
  generalize w.alloc (.cells #[.string (S a), .string (S b), .slice A fs.length c] 25) = w0 at *
  go_loopw [8] (fun u8 wr => ∃ k : Nat, k ≤ fs.length ∧ u8 = .int .i64 (k : Int) ∧ utfB (fs.drop k) = utfB fs ∧ Below w0.heap.size w0 wr) (fun u8 _ => fs.length - (intOf u8).toNat)
  case atStart => exact ⟨0, Nat.zero_le _, rfl, rfl, Below.refl _ _⟩
  case round =>
    clear m0 m1 m2 g0 g1 g2 hg0
    obtain ⟨k, hk, rfl, hK, hB⟩ := hrel
    have HK := Lib.hid hK
    clear hK
    by_cases hkn : k < fs.length
    · obtain ⟨ad, c2, hv, hab, hcc⟩ := (HR.out.later hB).at_ (by omega)
      obtain rfl : A = some ad := by injection hv
      obtain ⟨f0, f1⟩ := fld_at hcc hkn
      have HSZ := Lib.hid (HL.out fs[k] (List.getElem_mem hkn))
      have hsz := hB.size
      clear hcc hv
      by_cases hch : fs[k].1 = charW
      · have s1 : ((S fs[k].1).toList == [99, 104, 97, 114, 115, 101, 116]) = true := by rw [S_beq]; exact decide_eq_true hch
        have HEQ := Lib.hid (rEqual_c (S fs[k].2) ⟨#[117, 116, 102, 45, 56]⟩ (by rw [S_size]; have := HSZ.out; omega) (by decide))
        obtain ⟨x, hx⟩ : ∃ x, (lowerL fs[k].2 == lowerL utfW) = x := ⟨_, rfl⟩
        have HQ := Lib.hid (show ∀ W, Calls Tryz.prog 41 #[.string (S fs[k].2), .string ⟨#[117, 116, 102, 45, 56]⟩] W fun e w' => e = .returned (.bool x) ∧ Below W.heap.size W w' from fun W => by
          have h := HEQ.out W
          rw [S_list, show (⟨#[117, 116, 102, 45, 56]⟩ : ByteArray).data.toList = utfW from rfl, hx] at h
          exact h)
        have HF := Lib.hid (show utfF fs[k] = x by unfold utfF; rw [hch, hx]; simp)
        clear hch hx HEQ
        have hB' : Below w0.heap.size w0 (wr.alloc (.cells #[.string (S fs[k].1), .string (S fs[k].2)] 52)) := hB.alloc hsz _
        cases x with
        | true =>
          go_wp2_with fail
          refine (HQ.out _).mono ?_
          rintro e w2 ⟨rfl, hb2⟩
          go_wp2_with fail
          go_roundw
          case rel => exact ⟨k + 1, by omega, by go_num, utf_next hkn HF.out HK.out, hB'.trans (hb2.mono hB'.size)⟩
          case measure => simp [intOf]; omega
        | false =>
          have HE := Lib.hid (utf_hit hkn HF.out HK.out)
          go_wp2_with fail
          refine (HQ.out _).mono ?_
          rintro e w2 ⟨rfl, hb2⟩
          go_wp2_with fail
          go_ret
          exact ⟨by rw [HE.out]; rfl, hB0.trans ((hB'.trans (hb2.mono hB'.size)).mono hB0.size)⟩
      · have s1 : ((S fs[k].1).toList == [99, 104, 97, 114, 115, 101, 116]) = false := by rw [S_beq]; exact decide_eq_false hch
        have HF := Lib.hid (show utfF fs[k] = true by
          unfold utfF
          have : (fs[k].1 == charW) = false := by rw [beq_eq_false_iff_ne]; exact hch
          rw [this]; rfl)
        clear hch
        go_wp2_with fail
        go_roundw
        case rel => exact ⟨k + 1, by omega, by go_num, utf_next hkn HF.out HK.out, hB.alloc hsz _⟩
        case measure => simp [intOf]; omega
    · have HE := Lib.hid (utf_end hkn HK.out)
      go_wp2_with fail
      go_ret
      exact ⟨by rw [HE.out]; rfl, hB0.trans (hB.mono hB0.size)⟩
/-- one of some names, and the charset -/
def oneB (a b : List UInt8) (ns : List (List UInt8)) : Bool := ns.any fun n => a ++ 47 :: b == n
theorem one_hit {a b : List UInt8} {ns : List (List UInt8)} {k : Nat} {x : Bool} (h : k < ns.length) (hf : (a ++ 47 :: b == ns[k]) = true) (H : oneB a b (ns.drop k) = x) : x = true := by
  rw [← H, List.drop_eq_getElem_cons h]; unfold oneB; rw [List.any_cons, hf]; rfl
theorem one_next {a b : List UInt8} {ns : List (List UInt8)} {k : Nat} {x : Bool} (h : k < ns.length) (hf : (a ++ 47 :: b == ns[k]) = false) (H : oneB a b (ns.drop k) = x) : oneB a b (ns.drop (k + 1)) = x := by
  rw [← H]; conv => rhs; rw [List.drop_eq_getElem_cons h]
  unfold oneB; rw [List.any_cons, hf]; simp
theorem one_end {a b : List UInt8} {ns : List (List UInt8)} {k : Nat} {x : Bool} (h : ¬ k < ns.length) (H : oneB a b (ns.drop k) = x) : x = false := by
  rw [← H, List.drop_of_length_le (by omega)]; rfl
theorem cat_eq (a b n : List UInt8) : ((S a ++ ⟨#[47]⟩ ++ S b).toList == (S n).toList) = (a ++ 47 :: b == n) := by
  rw [S_toList, ByteArray.toList_eq]; congr 1; simp [S]
theorem S_cat (a b : List UInt8) : (S a ++ ⟨#[47]⟩ ++ S b).size = a.length + 1 + b.length := by
  rw [ByteArray.size_append, ByteArray.size_append, S_size, S_size]; rfl
set_option maxRecDepth 100000 in
set_option maxHeartbeats 2000000 in
theorem one_c (a b : List UInt8) (fv nv : Value) (fs : List Fld) (ns : List (List UInt8)) (ha : a.length ≤ 1000000) (hb : b.length ≤ 1000000) (hn : fs.length ≤ 1000000) (hl : ∀ f ∈ fs, f.1.length ≤ 1000000 ∧ f.2.length ≤ 1000000) (hns : ns.length ≤ 1000000) (w : World) (h : Rd w 2 fv fs.length (fldsV fs)) (hN : Rd w 1 nv ns.length (strsV ns)) :
    Calls Tryz.prog 35 #[medV a b fv, nv] w fun e w' => e = .returned (.bool (oneB a b ns && utfB fs)) ∧ Below w.heap.size w w' := by
  unfold medV
  obtain ⟨A, c, rfl⟩ := h.slice
  obtain ⟨A', c', rfl⟩ := hN.slice
  have hB0 : Below w.heap.size w (w.alloc (.cells #[.string (S a), .string (S b), .slice A fs.length c] 25)) := (Below.refl _ w).alloc (Nat.le_refl _) _
  have hg0 : (w.alloc (.cells #[.string (S a), .string (S b), .slice A fs.length c] 25)).heap[w.heap.size]? = some (.cells #[.string (S a), .string (S b), .slice A fs.length c] 25 (0, 0)) := heap_alloc_new w _
  have HR := Lib.hid (h.later hB0)
  have HN := Lib.hid (hN.later hB0)
  have HL := Lib.hid hl
  obtain ⟨m0, m1, m2, g0, g1, g2⟩ := cells3m hg0
  have sa := S_size a
  have sb := S_size b
  clear h hN hl
  go_enter Tryz.func35, Tryz.ntmps35
  go_wp2_with fail
  generalize w.alloc (.cells #[.string (S a), .string (S b), .slice A fs.length c] 25) = w0 at *
  go_loop [9] (fun u9 => ∃ k : Nat, k ≤ ns.length ∧ u9 = .int .i64 (k : Int) ∧ oneB a b (ns.drop k) = oneB a b ns) (fun u9 => ns.length - (intOf u9).toNat)
  case atStart => exact ⟨0, Nat.zero_le _, rfl, rfl⟩
  case round =>
    obtain ⟨k, hk, rfl, hK⟩ := hrel
    have HK := Lib.hid hK
    clear hK
    by_cases hkn : k < ns.length
    · obtain ⟨ad, c2, hv, hab, hcc⟩ := HN.out.at_ (by omega)
      obtain rfl : A' = some ad := by injection hv
      have f0 := hcc k _ (strsV_at ns k hkn)
      have HC := Lib.hid (cat_eq a b ns[k])
      clear hcc hv
      by_cases hm : (a ++ 47 :: b == ns[k]) = true
      · have hq := HC.out.trans hm
        have HE := Lib.hid (one_hit hkn hm HK.out)
        have HU := Lib.hid (utf8_c a b _ fs hn HL.out w0 HR.out)
        clear hm
        unfold medV at HU
        go_wp2_with fail
        refine HU.out.mono ?_
        rintro e w2 ⟨rfl, hb2⟩
        go_wp2_with fail
        go_ret
        exact ⟨by rw [HE.out]; rfl, hB0.trans (hb2.mono hB0.size)⟩
      · have hm' : (a ++ 47 :: b == ns[k]) = false := by simpa using hm
        have hq := HC.out.trans hm'
        have HE := Lib.hid (one_next hkn hm' HK.out)
        clear hm hm'
        go_wp2_with fail
        go_round
        case rel => exact ⟨k + 1, by omega, by go_num, HE.out⟩
        case measure => simp [intOf]; omega
    · have HE := Lib.hid (one_end hkn HK.out)
      go_wp2_with fail
      go_ret
      exact ⟨by rw [HE.out]; rfl, hB0⟩
/-- '/' stands once -/
theorem slash_split : ∀ {p a b q : List UInt8}, (47 : UInt8) ∉ p → (47 : UInt8) ∉ q → a ++ 47 :: b = p ++ 47 :: q → a = p ∧ b = q
  | [], [], b, q, _, _, h => by simp at h; exact ⟨rfl, h⟩
  | [], x :: a, b, q, _, hq, h => by
    simp at h; exact absurd (by rw [← h.2]; simp) hq
  | x :: p, [], b, q, hp, _, h => by simp at h; exact absurd (by rw [h.1]; simp) hp
  | x :: p, y :: a, b, q, hp, hq, h => by
    simp at h
    obtain ⟨h1, h2⟩ := slash_split (p := p) (fun h => hp (by simp [h])) hq h.2
    exact ⟨by rw [h.1, h1], h2⟩
theorem slash_eq {p a b q : List UInt8} (hp : (47 : UInt8) ∉ p) (hq : (47 : UInt8) ∉ q) : (a ++ 47 :: b == p ++ 47 :: q) = (a == p && b == q) := by
  rw [Bool.eq_iff_iff]
  simp only [Bool.and_eq_true, beq_iff_eq]
  exact ⟨slash_split hp hq, fun ⟨h1, h2⟩ => by rw [h1, h2]⟩
def appW : List UInt8 := [97, 112, 112, 108, 105, 99, 97, 116, 105, 111, 110]
def jrdW : List UInt8 := [106, 114, 100, 43, 106, 115, 111, 110]
def jsonW : List UInt8 := [106, 115, 111, 110]
def didW : List UInt8 := [100, 105, 100, 43, 106, 115, 111, 110]
def didldW : List UInt8 := [100, 105, 100, 43, 108, 100, 43, 106, 115, 111, 110]
def n1W : List UInt8 := [97, 112, 112, 108, 105, 99, 97, 116, 105, 111, 110, 47, 106, 114, 100, 43, 106, 115, 111, 110]
theorem n1W_eq : n1W = appW ++ 47 :: jrdW := rfl
def n2W : List UInt8 := [97, 112, 112, 108, 105, 99, 97, 116, 105, 111, 110, 47, 106, 115, 111, 110]
theorem n2W_eq : n2W = appW ++ 47 :: jsonW := rfl
def n3W : List UInt8 := [97, 112, 112, 108, 105, 99, 97, 116, 105, 111, 110, 47, 100, 105, 100, 43, 106, 115, 111, 110]
theorem n3W_eq : n3W = appW ++ 47 :: didW := rfl
def n4W : List UInt8 := [97, 112, 112, 108, 105, 99, 97, 116, 105, 111, 110, 47, 100, 105, 100, 43, 108, 100, 43, 106, 115, 111, 110]
theorem n4W_eq : n4W = appW ++ 47 :: didldW := rfl
def jrdB (a b : List UInt8) (fs : List Fld) : Bool := (a == appW && (b == jrdW || b == jsonW)) && utfB fs
def didB (a b : List UInt8) (fs : List Fld) : Bool := (a == appW && ((b == didW || b == didldW) || b == jsonW)) && utfB fs
theorem jrd_eq (a b : List UInt8) : oneB a b [n1W, n2W] = (a == appW && (b == jrdW || b == jsonW)) := by
  unfold oneB
  rw [n1W_eq, n2W_eq]
  simp only [List.any_cons, List.any_nil, Bool.or_false]
  rw [slash_eq (by decide) (by decide), slash_eq (by decide) (by decide), Bool.and_or_distrib_left]
theorem did_eq (a b : List UInt8) : oneB a b [n3W, n4W, n2W] = (a == appW && ((b == didW || b == didldW) || b == jsonW)) := by
  unfold oneB
  rw [n3W_eq, n4W_eq, n2W_eq]
  simp only [List.any_cons, List.any_nil, Bool.or_false]
  rw [slash_eq (by decide) (by decide), slash_eq (by decide) (by decide), slash_eq (by decide) (by decide), Bool.and_or_distrib_left, Bool.and_or_distrib_left, Bool.or_assoc]
theorem news_rd (w : World) (ns : List (List UInt8)) (n c : Nat) (C : Array Value) (hC : C = (strsV ns).toArray) (hn : n = ns.length) : Rd (w.alloc (.cells C 9)) 1 (.slice (some ⟨w.heap.size, 0, none⟩) n c) ns.length (strsV ns) := by
  subst hn
  refine ⟨_, _, rfl, by simp [strsV], fun _ => ⟨_, rfl, by simp, ?_⟩⟩
  exact news_of _ _ _ _ hC
end Go.Proofs.YtaopehogpdgkgaaGreat
