/- Contract of weblink.Format. -/
import Derived.Test.YtaopehogpdgkgaaGreatShelfJoin
import Derived.Lib.Join
import Derived.Test.YtaopehogpdgkgaaGreatWlSame
import Derived.Test.YtaopehogpdgkgaaGreatRpAll
namespace Go.Proofs.YtaopehogpdgkgaaGreat
open Go.RowKit
section
open Go.Shelf
def sepL : List UInt8 := [44, 32]
theorem join_snoc (xs : List (List UInt8)) (x : List UInt8) (sep : List UInt8) : Lib.join (xs ++ [x]) sep = Lib.join xs sep ++ (if xs = [] then [] else sep) ++ x := by
  cases xs with
  | nil => rw [List.nil_append, Lib.join_one, Lib.join_nil]; rfl
  | cons a r =>
    show Lib.join (a :: (r ++ [x])) sep = _
    rw [Lib.join_cons, Lib.join_cons, if_neg (by simp)]
    simp [Lib.joinTail]
theorem join_len (xs : List (List UInt8)) : (Lib.join xs sepL).length ≤ 2 * xs.length + Lib.lens xs := by
  cases xs with
  | nil => simp [Lib.join_nil]
  | cons a r => rw [Lib.join_length]; simp [sepL]; omega
theorem join_c (w : World) (B : Nat) (v : Value) (l : List (List UInt8)) (h : Strs w B v l) (hlen : (Lib.join l sepL).length ≤ 1000000000) (hn : l.length ≤ 1000000000) :
    Calls Tryz.prog 42 #[v, .string ⟨#[44, 32]⟩] w fun e w' => e = .returned (.string (S (Lib.join l sepL))) ∧ Below w.heap.size w w' := by
  rcases h.2 with ⟨rfl, h0⟩ | ⟨g, cap, cur, rfl, hb, hh, hnc, hcm, hcs, htk⟩
  · have : l = [] := List.eq_nil_of_length_eq_zero h0
    subst this
    refine (Any.strings_Join_none lays156 Builder_Extra_156 none 0 ⟨#[44, 32]⟩ w).mono ?_
    rintro e w' ⟨he, rfl⟩
    exact ⟨he, Below.refl _ _⟩
  · have hc : ∀ (j : Nat) x, (l.map S)[j]? = some x → w.cell? ⟨g, 0 + j, none⟩ = some (.string x) := fun j x hj => by
      rw [Nat.zero_add]
      have hjl : j < l.length := by
        have := (List.getElem?_eq_some_iff.1 hj).1; simpa using this
      rw [World.ownsRow.cellAt h j (by omega), strsV_at l j hjl]
      rw [List.getElem?_map, List.getElem?_eq_getElem hjl] at hj
      injection hj with hj; rw [hj]
    have hmap : (l.map S).map (fun x : ByteArray => x.data.toList) = l := by rw [List.map_map]; exact List.map_id' l
    have hJ := Any.strings_Join lays156 Builder_Extra_156 g 0 cap (l.map S) ⟨#[44, 32]⟩ w hc (heap_lt hh) (by rw [List.length_map]; omega) (by rw [List.length_map]; exact hnc) (by rw [hmap]; show (Lib.join l sepL).length ≤ _; omega)
    rw [hmap, List.length_map] at hJ
    exact hJ
end
def parW (f : Fld) : List UInt8 := 59 :: 32 :: (f.1 ++ if f.2.isEmpty then [] else 61 :: writeL f.2)
def parsW (fs : List Fld) : List UInt8 := fs.flatMap parW
def lnkL (x : Lnk) : List UInt8 := 60 :: (x.1 ++ 62 :: parsW x.2.2)
def fmtT : List Lnk → List UInt8
  | [] => []
  | x :: t => 44 :: 32 :: (lnkL x ++ fmtT t)
def fmtWL : List Lnk → List UInt8
  | [] => []
  | x :: t => lnkL x ++ fmtT t
def fmtOk (l : List Lnk) : Prop := l.length ≤ 100 ∧ ∀ x ∈ l, x.1.length ≤ 2000 ∧ x.2.2.length ≤ 1001 ∧ ∀ f ∈ x.2.2, f.1.length ≤ 2000 ∧ f.2.length ≤ 2000
theorem fmtT_join (t : List Lnk) : Lib.joinTail sepL (t.map lnkL) = fmtT t := by
  induction t with
  | nil => rfl
  | cons x t ih =>
    have e : Lib.joinTail sepL ((x :: t).map lnkL) = sepL ++ lnkL x ++ Lib.joinTail sepL (t.map lnkL) := by simp [Lib.joinTail]
    rw [e, ih]; simp [fmtT, sepL]
theorem join_links (l : List Lnk) : Lib.join (l.map lnkL) sepL = fmtWL l := by
  cases l with
  | nil => rfl
  | cons x t => rw [List.map_cons, Lib.join_cons, fmtT_join]; rfl
theorem parsW_le (fs : List Fld) (h : ∀ f ∈ fs, f.1.length ≤ 2000 ∧ f.2.length ≤ 2000) : (parsW fs).length ≤ 7000 * fs.length := by
  induction fs with
  | nil => simp [parsW]
  | cons f t ih =>
    have h1 := h f (by simp)
    have h2 := ih fun x hx => h x (by simp [hx])
    have h3 := writeL_len f.2
    have e : parsW (f :: t) = parW f ++ parsW t := by simp [parsW]
    have h4 : (if f.2.isEmpty = true then ([] : List UInt8) else 61 :: writeL f.2).length ≤ 2 * f.2.length + 3 := by
      split
      · simp
      · simp only [List.length_cons]; omega
    rw [e, List.length_append]
    simp only [parW, List.length_cons, List.length_append] at *
    omega
theorem parsW_take (fs : List Fld) (k : Nat) (h : k < fs.length) : parsW (fs.take (k + 1)) = parsW (fs.take k) ++ parW fs[k] := by
  rw [List.take_succ_eq_append_getElem h]; unfold parsW; rw [List.flatMap_append]; simp
theorem lnk_le {x : Lnk} (h : x.1.length ≤ 2000 ∧ x.2.2.length ≤ 1001 ∧ ∀ f ∈ x.2.2, f.1.length ≤ 2000 ∧ f.2.length ≤ 2000) : (lnkL x).length ≤ 7100000 := by
  have := parsW_le x.2.2 h.2.2
  simp only [lnkL, List.length_cons, List.length_append]; omega
theorem links_le {l : List Lnk} (h : fmtOk l) : (fmtWL l).length ≤ 1000000000 := by
  have h1 : ∀ t : List Lnk, (∀ x ∈ t, (lnkL x).length ≤ 7100000) → (fmtT t).length ≤ 7100002 * t.length := by
    intro t
    induction t with
    | nil => intro _; simp [fmtT]
    | cons x t ih =>
      intro hh
      have a1 := hh x (by simp)
      have a2 := ih fun y hy => hh y (by simp [hy])
      simp only [fmtT, List.length_cons, List.length_append]; omega
  obtain ⟨hn, hf⟩ := h
  cases l with
  | nil => simp [fmtWL]
  | cons x t =>
    have a1 := lnk_le (hf x (by simp))
    have a2 := h1 t fun y hy => lnk_le (hf y (by simp [hy]))
    simp only [fmtWL, List.length_append, List.length_cons] at *; omega
theorem wl_head (a : List UInt8) : (⟨#[60]⟩ : ByteArray) ++ S a ++ ⟨#[62]⟩ = S (60 :: (a ++ 62 :: parsW [])) := by
  apply ByteArray.ext; apply Array.toList_inj.1; simp [S, parsW]
theorem wl_str1 {T : ByteArray} {l m : List UInt8} {f : Fld} (hT : T = S l) (he : f.2.isEmpty = true) (hm : m = l ++ parW f) : T ++ (⟨#[59, 32]⟩ ++ S f.1) = S m := by
  have he' : f.2 = [] := by simpa using he
  subst hT hm; apply ByteArray.ext; apply Array.toList_inj.1; simp [S, parW, he']
theorem wl_str2 {T : ByteArray} {l m : List UInt8} {f : Fld} (hT : T = S l) (he : f.2.isEmpty = false) (hm : m = l ++ parW f) : T ++ (⟨#[59, 32]⟩ ++ S f.1) ++ (⟨#[61]⟩ ++ S (writeL f.2)) = S m := by
  subst hT hm; apply ByteArray.ext; apply Array.toList_inj.1; simp [S, parW, he]
theorem S_ne {l : List UInt8} (h : l.isEmpty = false) : S l ≠ ⟨#[]⟩ := fun e => by
  have := congrArg (fun b : ByteArray => b.data.toList) e
  simp [S] at this
  subst this; simp at h
theorem strs_later {w w' : World} {B : Nat} {v : Value} {l : List (List UInt8)} (h : Strs w B v l) (hb : Below w.heap.size w w') : Strs w' B v l := Strs.off h (grown_below hb none) (fun g hg => by cases hg)
theorem lnk_take (l : List Lnk) (k : Nat) (h : k < l.length) : (l.take (k + 1)).map lnkL = (l.take k).map lnkL ++ [lnkL l[k]] := by
  rw [List.take_succ_eq_append_getElem h, List.map_append]; rfl
theorem write_l (f : Fld) (h : f.2.length ≤ 2000) (W : World) : Calls Tryz.prog 37 #[.string (S f.2)] W fun e w' => e = .returned (.string (S (writeL f.2))) ∧ Below W.heap.size W w' := by
  have h := write_c (S f.2) (by rw [S_size]; omega) W
  rw [S_list] at h
  exact h
set_option maxRecDepth 100000 in
set_option maxHeartbeats 1000000 in
theorem wFormat_c (w : World) (v : Value) (l : List Lnk) (hn : fmtOk l) (h : RdLinks w v l) :
    Calls Tryz.prog 22 #[v] w fun e w' => e = .returned (.string (S (fmtWL l))) ∧ Below w.heap.size w w' := by
  have hlen := links_le hn
  obtain ⟨hn, hf⟩ := hn
  obtain ⟨A, c, rfl⟩ := h.slice
  have HR := Lib.hid h
  have HF := Lib.hid hf
  have HLEN := Lib.hid hlen
  clear h hf hlen
  go_enter Tryz.func22, Tryz.ntmps22
  go_wp2_with fail
  go_loopw [3, 11] (fun v i wr => ∃ (k : Nat) (acc : List (List UInt8)), k ≤ l.length ∧ i = .int .i64 (k : Int) ∧ acc.length ≤ k ∧ acc = (l.take k).map lnkL ∧ Strs wr w.heap.size v acc ∧ Below w.heap.size w wr) (fun _ i _ => l.length - (intOf i).toNat)
  case atStart => exact ⟨0, [], Nat.zero_le _, rfl, Nat.le_refl _, rfl, Strs.nil, Below.refl _ _⟩
  case round =>
    obtain ⟨k, acc, hk, rfl, hal, hX, hS, hB⟩ := hrel
    obtain ⟨uA, uc, rfl⟩ := own_slice_n hS
    have HX := Lib.hid hX
    have HS := Lib.hid hS
    clear hX hS
    by_cases hlt : k < l.length
    · obtain ⟨cs, hr, g⟩ := HR.out.later hB
      obtain ⟨ad, c2, he, hb1, hc⟩ := hr.at_ (by omega)
      injection he with he _ he2
      subst he
      subst he2
      obtain ⟨A1, n1, d1, A', n', d', x0, x1, x2, x3, x4⟩ := lnk_at hc g hlt
      have hl := HF.out _ (List.getElem_mem hlt)
      have hnn : n' = l[k].2.2.length := by obtain ⟨A2, c2, he⟩ := x4.slice; injection he
      subst hnn
      have HTK := Lib.hid (lnk_take l k hlt)
      obtain ⟨x, hx⟩ : ∃ x, l[k] = x := ⟨_, rfl⟩
      rw [hx] at x0 x2 x3 x4 hl HTK
      obtain ⟨wo, rfl⟩ : ∃ wo : World, wo = wr := ⟨_, rfl⟩
      have hW : Below wo.heap.size wo (wo.alloc (.cells #[.string (S x.1), .slice A1 n1 d1, .slice A' x.2.2.length d'] 59)) := (Below.refl _ _).alloc (Nat.le_refl _) _
      have hg : (wo.alloc (.cells #[.string (S x.1), .slice A1 n1 d1, .slice A' x.2.2.length d'] 59)).heap[wo.heap.size]? = some (.cells #[.string (S x.1), .slice A1 n1 d1, .slice A' x.2.2.length d'] 59 (0, 0)) := heap_alloc_new wo _
      have HW := Lib.hid hW
      have HX4 := Lib.hid (x4.later hW)
      obtain ⟨hl1, hl2, hl3⟩ := hl
      have HL3 := Lib.hid hl3
      have zx : (S x.1).size ≤ 2000 := by rw [S_size]; exact hl1
      have z1 : (⟨#[60]⟩ : ByteArray).size = 1 := rfl
      have z2 : (⟨#[62]⟩ : ByteArray).size = 1 := rfl
      obtain ⟨b0, b1, b2, p0, p1, p2⟩ := cells3 hg
      clear hr g hc hb1 x3 x4 hW hl3 hx hg
      go_wp2_with fail
      generalize wo.alloc (.cells #[.string (S x.1), .slice A1 n1 d1, .slice A' x.2.2.length d'] 59) = W0 at *
      clear x0 x1 x2 b0 b1 b2 p0 p1 p2
      go_loopw [6, 22] (fun u6 u22 wr => ∃ (q : Nat) (T : ByteArray), q ≤ x.2.2.length ∧ u22 = .int .i64 (q : Int) ∧ u6 = .string T ∧ T = S (60 :: (x.1 ++ 62 :: parsW (x.2.2.take q))) ∧ Below W0.heap.size W0 wr) (fun _ u22 _ => x.2.2.length - (intOf u22).toNat)
      case atStart => exact ⟨0, _, Nat.zero_le _, rfl, rfl, by rw [wl_head]; rfl, Below.refl _ _⟩
      case round =>
        obtain ⟨q, T, hq, rfl, rfl, hT, hBq⟩ := hrel
        have hpl := parsW_le (x.2.2.take q) (fun f hf => HL3.out f (List.mem_of_mem_take hf))
        have htk : (x.2.2.take q).length ≤ 1001 := by rw [List.length_take]; omega
        have hTs : T.size ≤ 8000000 := by
          rw [hT, S_size]; simp only [List.length_append, List.length_cons]; omega
        have HT := Lib.hid hT
        clear hT hpl htk
        have hBw : Below w.heap.size w wr := (hB.trans (HW.out.mono hB.size)).trans (hBq.mono (by have := HW.out.size; have := hB.size; omega))
        by_cases hql : q < x.2.2.length
        · obtain ⟨a3, c3, he3, hb3, hc3⟩ := (HX4.out.later hBq).at_ (by omega)
          injection he3 with he3 _ he4
          subst he3
          subst he4
          obtain ⟨f0, f1⟩ := fld_at hc3 hql
          have hszf := HL3.out x.2.2[q] (List.getElem_mem hql)
          have HPT := Lib.hid (parsW_take x.2.2 q hql)
          obtain ⟨f, hf⟩ : ∃ f, x.2.2[q] = f := ⟨_, rfl⟩
          rw [hf] at f0 f1 hszf HPT
          have hwl := writeL_len f.2
          have sf1 : (S f.1).size ≤ 2000 := by rw [S_size]; omega
          have sf2 : (S (writeL f.2)).size ≤ 5000 := by rw [S_size]; omega
          have HW2 := Lib.hid (write_l f hszf.2)
          have y1 : (⟨#[59, 32]⟩ : ByteArray).size = 2 := rfl
          have y2 : (⟨#[61]⟩ : ByteArray).size = 1 := rfl
          have hB' : Below W0.heap.size W0 (wr.alloc (.cells #[.string (S f.1), .string (S f.2)] 52)) := hBq.alloc hBq.size _
          have hfa := heap_alloc_new wr (.cells #[.string (S f.1), .string (S f.2)] 52)
          obtain ⟨d0, d1, _, _⟩ := fcells hfa
          clear hc3 hb3 hszf hwl hf
          cases hE : f.2.isEmpty with
          | true =>
            have e0 : S f.2 = ⟨#[]⟩ := by have : f.2 = [] := by simpa using hE
                                          rw [this]; rfl
            have HN := Lib.hid (wl_str1 HT.out hE (m := 60 :: (x.1 ++ 62 :: parsW (x.2.2.take (q + 1)))) (by rw [HPT.out]; simp))
            rw [e0] at f1 d1 d0 hB'
            clear hE hfa
            go_wp2_with fail
            go_roundw
            case rel => exact ⟨q + 1, _, by omega, by go_num, rfl, HN.out, hB'⟩
            case measure => simp [intOf]; omega
          | false =>
            have e0 := S_ne hE
            have e1 : ((S f.2).toList == []) = false := by rw [S_beq]; exact decide_eq_false (fun h => by rw [h] at hE; simp at hE)
            have e2 : f.2 ≠ [] := fun h => by rw [h] at hE; simp at hE
            have HN := Lib.hid (wl_str2 HT.out hE (m := 60 :: (x.1 ++ 62 :: parsW (x.2.2.take (q + 1)))) (by rw [HPT.out]; simp))
            clear hE hfa
            go_wp2_with fail
            refine (HW2.out _).mono ?_
            rintro e w2 ⟨rfl, hb2⟩
            have hB2 := hB'.trans (hb2.mono hB'.size)
            clear hb2 hB'
            go_wp2_with fail
            go_roundw
            case rel => exact ⟨q + 1, _, by omega, by go_num, rfl, HN.out, hB2⟩
            case measure => simp [intOf]; omega
        · have hkk : q = x.2.2.length := by omega
          have HT2 := Lib.hid (show T = S (lnkL x) by rw [HT.out, hkk, List.take_length]; rfl)
          have hSr := strs_later (strs_later HS.out HW.out) hBq
          have hWs := hBw.size
          go_wp2_with (at_builtin; refine wpList_append_row infoS rfl (by decide) (by decide) rfl (.tmp 41) (.tmp 43) 57 rfl Tryz.underlying57 w.heap.size _ acc.length (strsV acc) rfl (hSr.alloc _) ⟨wr.heap.size, 0, none⟩ 1 [.string T] rfl rfl ?c1 ?c2 ?c3 ?c4 ?_)
          case c1 => exact news_of _ _ _ _ rfl
          case c2 => intro u hu; simp at hu; subst hu; rfl
          case c3 => omega
          case c4 => simp; omega
          intro g cap w3 hown3 hg3
          have hB3 : Below w.heap.size w w3 := (hBw.alloc hBw.size _).grown hg3 (by simp; omega) (fun q hq => (World.ownsRow.lt hSr q hq).1)
          have hS3 : Strs w3 w.heap.size (.slice (some ⟨g, 0, none⟩) (acc.length + 1) cap) (acc ++ [lnkL x]) := by unfold Strs; rw [List.length_append]; rw [HT2.out] at hown3; simpa [strsV] using hown3
          clear hg3 hSr hown3
          go_wp2_with fail
          go_roundw
          case rel => exact ⟨k + 1, acc ++ [lnkL x], by omega, by go_num, by simp; omega, by rw [HTK.out, ← HX.out], hS3, hB3⟩
          case measure => simp [intOf]; omega
    · have hkk : k = l.length := by omega
      have hX2 : acc = l.map lnkL := by rw [HX.out, hkk, List.take_length]
      have hj := join_links l
      rw [← hX2] at hj
      have HJ := Lib.hid (join_c wr _ _ acc HS.out (by rw [hj]; exact HLEN.out) (by omega))
      rw [hj] at HJ
      clear hj hX2
      go_wp2_with fail
      refine HJ.out.mono ?_
      rintro e w2 ⟨rfl, hb2⟩
      go_wp2_with fail
      go_ret
      exact ⟨rfl, hB.trans (hb2.mono hB.size)⟩
end Go.Proofs.YtaopehogpdgkgaaGreat
