/- Contract of webfingerref22.Format. -/
import Derived.Test.YtaopehogpdgkgaaGreatWlFmt
namespace Go.Proofs.YtaopehogpdgkgaaGreat
open Go.RowKit
theorem fmtT_snoc (t : List Lnk) (x : Lnk) : fmtT (t ++ [x]) = fmtT t ++ 44 :: 32 :: lnkL x := by
  induction t with
  | nil => simp [fmtT]
  | cons y t ih => rw [List.cons_append]; simp only [fmtT, ih]; simp
theorem fmtWL_zero (l : List Lnk) (h : 0 < l.length) : fmtWL (l.take (0 + 1)) = [] ++ lnkL l[0] := by
  cases l with
  | nil => simp at h
  | cons y t => simp [fmtWL, fmtT]
theorem fmtWL_take (l : List Lnk) (k : Nat) (h : k < l.length) (hk : 0 < k) : fmtWL (l.take (k + 1)) = (fmtWL (l.take k) ++ [44, 32]) ++ lnkL l[k] := by
  rw [List.take_succ_eq_append_getElem h]
  cases l with
  | nil => simp at h
  | cons y t =>
    obtain ⟨j, rfl⟩ : ∃ j, k = j + 1 := ⟨k - 1, by omega⟩
    rw [List.take_succ_cons, List.cons_append]
    simp only [fmtWL, fmtT_snoc]; simp
theorem ok_take {l : List Lnk} (h : fmtOk l) (k : Nat) : fmtOk (l.take k) := ⟨by have := h.1; rw [List.length_take]; omega, fun x hx => h.2 x (List.mem_of_mem_take hx)⟩
theorem wl_headR0 (a : List UInt8) : S [] ++ ((⟨#[60]⟩ : ByteArray) ++ S a ++ ⟨#[62]⟩) = S ([] ++ 60 :: (a ++ 62 :: parsW [])) := by
  apply ByteArray.ext; apply Array.toList_inj.1; simp [S, parsW]
theorem wl_headR {T : ByteArray} {l : List UInt8} (hT : T = S l) (a : List UInt8) : T ++ (⟨#[44, 32]⟩ : ByteArray) ++ (⟨#[60]⟩ ++ S a ++ ⟨#[62]⟩) = S ((l ++ [44, 32]) ++ 60 :: (a ++ 62 :: parsW [])) := by
  subst hT; apply ByteArray.ext; apply Array.toList_inj.1; simp [S, parsW]
theorem write_rl (f : Fld) (h : f.2.length ≤ 2000) (W : World) : Calls Tryz.prog 38 #[.string (S f.2)] W fun e w' => e = .returned (.string (S (writeL f.2))) ∧ W = w' := by
  have h := rWrite_c (S f.2) (by rw [S_size]; omega) W
  rw [S_list] at h
  exact h
set_option maxRecDepth 100000 in
set_option maxHeartbeats 1000000 in
theorem rwFormat_c (w : World) (v : Value) (l : List Lnk) (hn : fmtOk l) (h : RdLinks w v l) :
    Calls Tryz.prog 23 #[v] w fun e w' => e = .returned (.string (S (fmtWL l))) ∧ Below w.heap.size w w' := by
  have HLEN := Lib.hid (fun k => links_le (ok_take hn k))
  obtain ⟨hn, hf⟩ := hn
  obtain ⟨A, c, rfl⟩ := h.slice
  have HR := Lib.hid h
  have HF := Lib.hid hf
  clear h hf
  go_enter Tryz.func23, Tryz.ntmps23
  go_wp2_with fail
  go_loopw [3, 10] (fun u3 i wr => ∃ (k : Nat) (T : ByteArray), k ≤ l.length ∧ i = .int .i64 (k : Int) ∧ u3 = .string T ∧ T = S (fmtWL (l.take k)) ∧ Below w.heap.size w wr) (fun _ i _ => l.length - (intOf i).toNat)
  case atStart => exact ⟨0, _, Nat.zero_le _, rfl, rfl, rfl, Below.refl _ _⟩
  case round =>
    obtain ⟨k, T0, hk, rfl, rfl, hT0, hB⟩ := hrel
    have hT0s : T0.size ≤ 1000000000 := by rw [hT0, S_size]; exact HLEN.out k
    have HT0 := Lib.hid hT0
    clear hT0
    by_cases hlt : k < l.length
    · obtain ⟨cs, hr, g⟩ := HR.out.later hB
      obtain ⟨ad, c2, he, hb1, hc⟩ := hr.at_ (by omega)
      injection he with he _ he2
      subst he
      subst he2
      obtain ⟨A1, n1, d1, A', n', d', x0, x1, x2, x3, x4⟩ := lnk_at hc g hlt
      have hl := HF.out _ (List.getElem_mem hlt)
      have hnn : n' = l[k].2.2.length := by obtain ⟨A2, c2, he⟩ := x4.slice; injection he
      subst hnn
      have HLK := Lib.hid (HLEN.out k)
      by_cases hk0 : 0 < k
      · have HTK := Lib.hid (fmtWL_take l k hlt hk0)
        have hk0' : 0 < (k : Int) := by omega
        have HHD := Lib.hid (wl_headR HT0.out)
        obtain ⟨bs, hbs⟩ : ∃ bs, fmtWL (l.take k) ++ [44, 32] = bs := ⟨_, rfl⟩
        have hbl : bs.length ≤ 1000000002 := by rw [← hbs, List.length_append]; have := HLK.out; simp; omega
        rw [hbs] at HTK HHD
        clear hbs
        obtain ⟨x, hx⟩ : ∃ x, l[k] = x := ⟨_, rfl⟩
        rw [hx] at x0 x2 x3 x4 hl HTK
        obtain ⟨wo, rfl⟩ : ∃ wo : World, wo = wr := ⟨_, rfl⟩
        have hW : Below wo.heap.size wo (wo.alloc (.cells #[.string (S x.1), .slice A1 n1 d1, .slice A' x.2.2.length d'] 59)) := (Below.refl _ _).alloc (Nat.le_refl _) _
        have hg : (wo.alloc (.cells #[.string (S x.1), .slice A1 n1 d1, .slice A' x.2.2.length d'] 59)).heap[wo.heap.size]? = some (.cells #[.string (S x.1), .slice A1 n1 d1, .slice A' x.2.2.length d'] 59 (0, 0)) := heap_alloc_new wo _
        have HW := Lib.hid hW
        have HX4 := Lib.hid (x4.later hW)
        obtain ⟨hl1, hl2, hl3⟩ := hl
        have HL3 := Lib.hid hl3
        have zx : (S x.1).size ≤ 2000 := by rw [S_size]; exact hl1
        have z1 : (⟨#[60]⟩ : ByteArray).size = 1 := rfl
        have z2 : (⟨#[62]⟩ : ByteArray).size = 1 := rfl
        have z3 : (⟨#[44, 32]⟩ : ByteArray).size = 2 := rfl
        obtain ⟨b0, b1, b2, p0, p1, p2⟩ := cells3 hg
        clear hr g hc hb1 x3 x4 hW hl3 hx hg
        go_wp2_with fail
        generalize wo.alloc (.cells #[.string (S x.1), .slice A1 n1 d1, .slice A' x.2.2.length d'] 59) = W0 at *
        clear x0 x1 x2 b0 b1 b2 p0 p1 p2
        go_loopw [3, 28] (fun u6 u22 wr => ∃ (q : Nat) (T : ByteArray), q ≤ x.2.2.length ∧ u22 = .int .i64 (q : Int) ∧ u6 = .string T ∧ T = S (bs ++ 60 :: (x.1 ++ 62 :: parsW (x.2.2.take q))) ∧ Below W0.heap.size W0 wr) (fun _ u22 _ => x.2.2.length - (intOf u22).toNat)
        case atStart => exact ⟨0, _, Nat.zero_le _, rfl, rfl, HHD.out x.1, Below.refl _ _⟩
        case round =>
          obtain ⟨q, T, hq, rfl, rfl, hT, hBq⟩ := hrel
          have hpl := parsW_le (x.2.2.take q) (fun f hf => HL3.out f (List.mem_of_mem_take hf))
          have htk : (x.2.2.take q).length ≤ 1001 := by rw [List.length_take]; omega
          have hTs : T.size ≤ 1100000000 := by
            rw [hT, S_size]; simp only [List.length_append, List.length_cons]; omega
          have HT := Lib.hid hT
          clear hT hpl htk
          have hBw : Below w.heap.size w wr := (hB.trans (HW.out.mono hB.size)).trans (hBq.mono (by have := HW.out.size; have := hB.size; omega))
          by_cases hql : q < x.2.2.length
          · obtain ⟨a3, c3, he3, hb3, hc3⟩ := (HX4.out.later hBq).at_ (by omega)
            injection he3 with he3 _ he4
            subst he3
            subst he4
            obtain ⟨f0, f1⟩ := fld_at hc3 hql
            have hszf := HL3.out x.2.2[q] (List.getElem_mem hql)
            have HPT := Lib.hid (parsW_take x.2.2 q hql)
            obtain ⟨f, hf⟩ : ∃ f, x.2.2[q] = f := ⟨_, rfl⟩
            rw [hf] at f0 f1 hszf HPT
            have hwl := writeL_len f.2
            have sf1 : (S f.1).size ≤ 2000 := by rw [S_size]; omega
            have sf2 : (S (writeL f.2)).size ≤ 5000 := by rw [S_size]; omega
            have HW2 := Lib.hid (write_rl f hszf.2)
            have y1 : (⟨#[59, 32]⟩ : ByteArray).size = 2 := rfl
            have y2 : (⟨#[61]⟩ : ByteArray).size = 1 := rfl
            have hB' : Below W0.heap.size W0 (wr.alloc (.cells #[.string (S f.1), .string (S f.2)] 52)) := hBq.alloc hBq.size _
            have hfa := heap_alloc_new wr (.cells #[.string (S f.1), .string (S f.2)] 52)
            obtain ⟨d0, d1, _, _⟩ := fcells hfa
            clear hc3 hb3 hszf hwl hf
            cases hE : f.2.isEmpty with
            | true =>
              have e0 : S f.2 = ⟨#[]⟩ := by have : f.2 = [] := by simpa using hE
                                            rw [this]; rfl
              have HN := Lib.hid (wl_str1 HT.out hE (m := bs ++ 60 :: (x.1 ++ 62 :: parsW (x.2.2.take (q + 1)))) (by rw [HPT.out]; simp))
              rw [e0] at f1 d1 d0 hB'
              clear hE hfa
              go_wp2_with fail
              go_roundw
              case rel => exact ⟨q + 1, _, by omega, by go_num, rfl, HN.out, hB'⟩
              case measure => simp [intOf]; omega
            | false =>
              have e0 := S_ne hE
              have e1 : ((S f.2).toList == []) = false := by rw [S_beq]; exact decide_eq_false (fun h => by rw [h] at hE; simp at hE)
              have e2 : f.2 ≠ [] := fun h => by rw [h] at hE; simp at hE
              have HN := Lib.hid (wl_str2 HT.out hE (m := bs ++ 60 :: (x.1 ++ 62 :: parsW (x.2.2.take (q + 1)))) (by rw [HPT.out]; simp))
              clear hE hfa
              go_wp2_with fail
              refine (HW2.out _).mono ?_
              rintro e w2 ⟨rfl, rfl⟩
              go_wp2_with fail
              go_roundw
              case rel => exact ⟨q + 1, _, by omega, by go_num, rfl, HN.out, hB'⟩
              case measure => simp [intOf]; omega
          · have hkk : q = x.2.2.length := by omega
            have HT2 := Lib.hid (show T = S (fmtWL (l.take (k + 1))) by rw [HT.out, hkk, List.take_length, HTK.out]; rfl)
            go_wp2_with fail
            go_roundw
            case rel => exact ⟨k + 1, T, by omega, by go_num, rfl, HT2.out, hBw⟩
            case measure => simp [intOf]; omega
      · have hk00 : k = 0 := by omega
        have HTK := Lib.hid (show fmtWL (l.take (k + 1)) = [] ++ lnkL l[k] from by subst hk00; exact fmtWL_zero l hlt)
        have hk0' : ¬ 0 < (k : Int) := by omega
        have HHD := Lib.hid (show ∀ a, T0 ++ ((⟨#[60]⟩ : ByteArray) ++ S a ++ ⟨#[62]⟩) = S ([] ++ 60 :: (a ++ 62 :: parsW [])) from fun a => by
          have hT00 : T0 = S [] := by rw [HT0.out, hk00]; rfl
          rw [hT00]; exact wl_headR0 a)
        clear hk00
        obtain ⟨bs, hbs⟩ : ∃ bs : List UInt8, [] = bs := ⟨_, rfl⟩
        have hbl : bs.length ≤ 1000000002 := by rw [← hbs]; simp
        have HHD2 := Lib.hid (show ∀ a, T0 ++ ((⟨#[60]⟩ : ByteArray) ++ S a ++ ⟨#[62]⟩) = S (bs ++ 60 :: (a ++ 62 :: parsW [])) from fun a => by subst hbs; exact HHD.out a)
        have HTK2 := Lib.hid (show fmtWL (l.take (k + 1)) = bs ++ lnkL l[k] from by subst hbs; exact HTK.out)
        clear HHD HTK
        have HHD := HHD2
        have HTK := HTK2
        clear HHD2 HTK2 hbs
        obtain ⟨x, hx⟩ : ∃ x, l[k] = x := ⟨_, rfl⟩
        rw [hx] at x0 x2 x3 x4 hl HTK
        obtain ⟨wo, rfl⟩ : ∃ wo : World, wo = wr := ⟨_, rfl⟩
        have hW : Below wo.heap.size wo (wo.alloc (.cells #[.string (S x.1), .slice A1 n1 d1, .slice A' x.2.2.length d'] 59)) := (Below.refl _ _).alloc (Nat.le_refl _) _
        have hg : (wo.alloc (.cells #[.string (S x.1), .slice A1 n1 d1, .slice A' x.2.2.length d'] 59)).heap[wo.heap.size]? = some (.cells #[.string (S x.1), .slice A1 n1 d1, .slice A' x.2.2.length d'] 59 (0, 0)) := heap_alloc_new wo _
        have HW := Lib.hid hW
        have HX4 := Lib.hid (x4.later hW)
        obtain ⟨hl1, hl2, hl3⟩ := hl
        have HL3 := Lib.hid hl3
        have zx : (S x.1).size ≤ 2000 := by rw [S_size]; exact hl1
        have z1 : (⟨#[60]⟩ : ByteArray).size = 1 := rfl
        have z2 : (⟨#[62]⟩ : ByteArray).size = 1 := rfl
        have z3 : (⟨#[44, 32]⟩ : ByteArray).size = 2 := rfl
        obtain ⟨b0, b1, b2, p0, p1, p2⟩ := cells3 hg
        clear hr g hc hb1 x3 x4 hW hl3 hx hg
        go_wp2_with fail
        generalize wo.alloc (.cells #[.string (S x.1), .slice A1 n1 d1, .slice A' x.2.2.length d'] 59) = W0 at *
        clear x0 x1 x2 b0 b1 b2 p0 p1 p2
        go_loopw [3, 28] (fun u6 u22 wr => ∃ (q : Nat) (T : ByteArray), q ≤ x.2.2.length ∧ u22 = .int .i64 (q : Int) ∧ u6 = .string T ∧ T = S (bs ++ 60 :: (x.1 ++ 62 :: parsW (x.2.2.take q))) ∧ Below W0.heap.size W0 wr) (fun _ u22 _ => x.2.2.length - (intOf u22).toNat)
        case atStart => exact ⟨0, _, Nat.zero_le _, rfl, rfl, HHD.out x.1, Below.refl _ _⟩
        case round =>
          obtain ⟨q, T, hq, rfl, rfl, hT, hBq⟩ := hrel
          have hpl := parsW_le (x.2.2.take q) (fun f hf => HL3.out f (List.mem_of_mem_take hf))
          have htk : (x.2.2.take q).length ≤ 1001 := by rw [List.length_take]; omega
          have hTs : T.size ≤ 1100000000 := by
            rw [hT, S_size]; simp only [List.length_append, List.length_cons]; omega
          have HT := Lib.hid hT
          clear hT hpl htk
          have hBw : Below w.heap.size w wr := (hB.trans (HW.out.mono hB.size)).trans (hBq.mono (by have := HW.out.size; have := hB.size; omega))
          by_cases hql : q < x.2.2.length
          · obtain ⟨a3, c3, he3, hb3, hc3⟩ := (HX4.out.later hBq).at_ (by omega)
            injection he3 with he3 _ he4
            subst he3
            subst he4
            obtain ⟨f0, f1⟩ := fld_at hc3 hql
            have hszf := HL3.out x.2.2[q] (List.getElem_mem hql)
            have HPT := Lib.hid (parsW_take x.2.2 q hql)
            obtain ⟨f, hf⟩ : ∃ f, x.2.2[q] = f := ⟨_, rfl⟩
            rw [hf] at f0 f1 hszf HPT
            have hwl := writeL_len f.2
            have sf1 : (S f.1).size ≤ 2000 := by rw [S_size]; omega
            have sf2 : (S (writeL f.2)).size ≤ 5000 := by rw [S_size]; omega
            have HW2 := Lib.hid (write_rl f hszf.2)
            have y1 : (⟨#[59, 32]⟩ : ByteArray).size = 2 := rfl
            have y2 : (⟨#[61]⟩ : ByteArray).size = 1 := rfl
            have hB' : Below W0.heap.size W0 (wr.alloc (.cells #[.string (S f.1), .string (S f.2)] 52)) := hBq.alloc hBq.size _
            have hfa := heap_alloc_new wr (.cells #[.string (S f.1), .string (S f.2)] 52)
            obtain ⟨d0, d1, _, _⟩ := fcells hfa
            clear hc3 hb3 hszf hwl hf
            cases hE : f.2.isEmpty with
            | true =>
              have e0 : S f.2 = ⟨#[]⟩ := by have : f.2 = [] := by simpa using hE
                                            rw [this]; rfl
              have HN := Lib.hid (wl_str1 HT.out hE (m := bs ++ 60 :: (x.1 ++ 62 :: parsW (x.2.2.take (q + 1)))) (by rw [HPT.out]; simp))
              rw [e0] at f1 d1 d0 hB'
              clear hE hfa
              go_wp2_with fail
              go_roundw
              case rel => exact ⟨q + 1, _, by omega, by go_num, rfl, HN.out, hB'⟩
              case measure => simp [intOf]; omega
            | false =>
              have e0 := S_ne hE
              have e1 : ((S f.2).toList == []) = false := by rw [S_beq]; exact decide_eq_false (fun h => by rw [h] at hE; simp at hE)
              have e2 : f.2 ≠ [] := fun h => by rw [h] at hE; simp at hE
              have HN := Lib.hid (wl_str2 HT.out hE (m := bs ++ 60 :: (x.1 ++ 62 :: parsW (x.2.2.take (q + 1)))) (by rw [HPT.out]; simp))
              clear hE hfa
              go_wp2_with fail
              refine (HW2.out _).mono ?_
              rintro e w2 ⟨rfl, rfl⟩
              go_wp2_with fail
              go_roundw
              case rel => exact ⟨q + 1, _, by omega, by go_num, rfl, HN.out, hB'⟩
              case measure => simp [intOf]; omega
          · have hkk : q = x.2.2.length := by omega
            have HT2 := Lib.hid (show T = S (fmtWL (l.take (k + 1))) by rw [HT.out, hkk, List.take_length, HTK.out]; rfl)
            go_wp2_with fail
            go_roundw
            case rel => exact ⟨k + 1, T, by omega, by go_num, rfl, HT2.out, hBw⟩
            case measure => simp [intOf]; omega
    · have hkk : k = l.length := by omega
      have HT2 := Lib.hid (show T0 = S (fmtWL l) by rw [HT0.out, hkk, List.take_length])
      go_wp2_with fail
      go_ret
      exact ⟨ret_s HT2.out, hB⟩
end Go.Proofs.YtaopehogpdgkgaaGreat
