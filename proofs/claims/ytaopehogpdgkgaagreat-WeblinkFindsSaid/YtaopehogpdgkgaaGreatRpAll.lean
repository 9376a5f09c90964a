/- (*strings.Replacer).Replace and grammar.Write at every string. -/
import Derived.Test.YtaopehogpdgkgaaGreatRpRep
namespace Go.Proofs.YtaopehogpdgkgaaGreat
open Go.RowKit
set_option maxRecDepth 100000 in
set_option maxHeartbeats 2000000 in
theorem onceDo_c (g h cap : Nat) (w : World) (hR : RpAt w g (.int .u32 0) (.int .i32 0) .nilIface (.slice (some ⟨h, 0, none⟩) 4 cap)) (hc : ∀ j u, (strsV onL)[j]? = some u → w.cell? ⟨h, j, none⟩ = some u) (hh : h < w.heap.size) (hgh : g ≠ h) :
    Calls Tryz.prog 69 #[.pointer (some ⟨g, 0, none⟩), .func (.func 70) #[.pointer (some ⟨g, 0, none⟩)] #[]] w fun e w' => e = .returned (.tuple #[]) ∧ BuiltAt w w' g (.int .u32 1) (.int .i32 0) := by
  have hS := Lib.hid (doSlow_c g h cap w hR hc hh hgh)
  have c0 := (rp_cells hR).1
  have hl := run_call_load (P := Tryz.prog) Tryz.func88 (by kernel_rfl) (by kernel_rfl) (by kernel_rfl) .u32 (by kernel_rfl) c0
  have hnot : ∀ (x : Bool) (w : World), (Op.unary .not (.bool x)).run Tryz.prog w = .ok (.bool (!x)) w := fun _ _ => rfl
  clear hR hc
  go_enter Tryz.func69, Tryz.ntmps69
  go_wp2_with (first | (go_at_call 83; refine hS.out.mono ?_; rintro e w' ⟨rfl, hBu⟩) | (go_at_call 82; go_in))
  go_end0
  exact ⟨rfl, hBu⟩
set_option maxRecDepth 100000 in
set_option maxHeartbeats 2000000 in
theorem replace_c (g h cap : Nat) (s : ByteArray) (hs : s.size ≤ 1000000) (w : World) (hR : RpAt w g (.int .u32 0) (.int .i32 0) .nilIface (.slice (some ⟨h, 0, none⟩) 4 cap)) (hc : ∀ j u, (strsV onL)[j]? = some u → w.cell? ⟨h, j, none⟩ = some u) (hh : h < w.heap.size) (hgh : g ≠ h) :
    Calls Tryz.prog 55 #[.pointer (some ⟨g, 0, none⟩), .string s] w fun e w' => e = .returned (.string (S (quoteL s.data.toList))) ∧ Only g w w' := by
  have HD := Lib.hid (onceDo_c g h cap w hR hc hh hgh)
  have hmf : ∀ (fn : Fn) (first cap : Array Value) (w : World), (Instr.makeFunc fn first cap).run Tryz.prog w = .ok (.func fn first cap) w := fun _ _ _ _ => rfl
  have hm : ∀ (a : Addr) (w : World), (method 291 130 (.pointer (some a)) "Replace").run Tryz.prog w = .ok (144, .pointer (some a)) w := fun _ _ => by kernel_rfl
  clear hR hc
  go_enter Tryz.func55, Tryz.ntmps55
  go_wp2_with (go_at_call 69; refine HD.out.mono ?_; rintro e w1 ⟨rfl, b, hRp, hRB, hOn⟩; have c3 := (rp_cells hRp).2.2.2.1)
  refine (bsrReplace_c w.heap.size b s hs _ hRB).mono ?_
  rintro e w2 ⟨rfl, hb2⟩
  go_wp2_with fail
  go_ret
  exact ⟨rfl, hOn.trans (Only.of_below hb2)⟩
theorem tokL_all : ∀ l : List UInt8, allB tokenN (tokL l) = true
  | [] => rfl
  | c :: l => by
    have ih := tokL_all l
    unfold tokL at *
    by_cases h : tokenN c.toNat = true
    · rw [List.takeWhile_cons, if_pos h]; unfold allB at *; rw [List.all_cons, h, ih]; rfl
    · rw [List.takeWhile_cons, if_neg h]; rfl
theorem tok_not {l : List UInt8} (h : tokB l = false) : (tokL l).isEmpty = true ∨ 0 < (tokR l).length := by
  by_cases h1 : (tokL l).isEmpty = true
  · exact .inl h1
  · refine .inr ?_
    cases hr : tokR l with
    | cons a t => simp
    | nil =>
      exfalso
      have e : l = tokL l ++ tokR l := (List.takeWhile_append_dropWhile).symm
      rw [hr, List.append_nil] at e
      have : tokB l = true := by
        unfold tokB
        rw [Bool.and_eq_true]
        constructor
        · rw [e]
          exact tokL_all l
        · rw [e]; simpa using h1
      rw [this] at h; cases h
theorem quote_fin (s : ByteArray) (h : tokB s.data.toList = false) : (⟨#[34]⟩ : ByteArray) ++ S (quoteL s.data.toList) ++ ⟨#[34]⟩ = S (writeL s.data.toList) := by
  unfold writeL; rw [h]; apply ByteArray.ext; apply Array.toList_inj.1; simp [S]
set_option maxRecDepth 100000 in
set_option maxHeartbeats 4000000 in
theorem write_c (s : ByteArray) (hs : s.size ≤ 1000000) (w : World) :
    Calls Tryz.prog 37 #[.string s] w fun e w' => e = .returned (.string (S (writeL s.data.toList))) ∧ Below w.heap.size w w' := by
  cases ht : tokB s.data.toList with
  | true =>
    have e : S (writeL s.data.toList) = s := by unfold writeL; rw [if_pos ht]; rfl
    rw [e]
    exact write_tok_c s hs ht w
  | false =>
    have HF := Lib.hid (quote_fin s ht)
    have hql := quoteL_len s.data.toList
    rw [size_toList] at hql
    have hqs : (S (quoteL s.data.toList)).size ≤ 2000000 := by rw [S_size]; omega
    have hB0 : Below w.heap.size w (w.alloc (.cells #[.string s, .int .i64 0] 47)) := (Below.refl _ w).alloc (Nat.le_refl _) _
    have hc0 : Cur (w.alloc (.cells #[.string s, .int .i64 0] 47)) w.heap.size s 0 := heap_alloc_new w _
    have HC0 := Lib.hid hc0
    have HT := Lib.hid (tok_not ht)
    clear hc0 ht hql
    go_enter Tryz.func37, Tryz.ntmps37
    go_wp2_with fail
    generalize w.alloc (.cells #[.string s, .int .i64 0] 47) = w0 at *
    refine (cToken_c w.heap.size s 0 (Nat.zero_le _) hs _ HC0.out).mono ?_
    rintro e w1 ⟨rfl, ⟨k, a1, a2, a3, hc1⟩, ho1⟩
    rw [List.drop_zero] at a3 ⊢
    have hB1 : Below w.heap.size w w1 := hB0.trans (ho1.below (Nat.le_refl _) (by have := hB0.size; omega))
    have HC1 := Lib.hid hc1
    have hlen := congrArg List.length a3
    rw [List.length_drop, size_toList] at hlen
    have HA := Lib.hid (show (tokL s.data.toList).isEmpty = true ∨ k < s.size by
      rcases HT.out with h | h
      · exact .inl h
      · exact .inr (by omega))
    clear a3 hc1 ho1 hB0 hlen
    have fin : ∀ W : World, Below w.heap.size w W → Calls Tryz.prog 54 #[.slice (some ⟨W.heap.size, 0, none⟩) 4 4] (W.alloc (.cells #[.string ⟨#[92]⟩, .string ⟨#[92, 92]⟩, .string ⟨#[34]⟩, .string ⟨#[92, 34]⟩] 9)) fun e w' => ∃ g h cap, e = .returned (.pointer (some ⟨g, 0, none⟩)) ∧ RpAt w' g (.int .u32 0) (.int .i32 0) .nilIface (.slice (some ⟨h, 0, none⟩) 4 cap) ∧ (∀ j u, (strsV onL)[j]? = some u → w'.cell? ⟨h, j, none⟩ = some u) ∧ h < w'.heap.size ∧ g ≠ h ∧ w.heap.size ≤ g ∧ Below w.heap.size w w' := fun W hW => by
      have hb := (Below.refl W.heap.size W).alloc (Nat.le_refl _) (.cells #[.string ⟨#[92]⟩, .string ⟨#[92, 92]⟩, .string ⟨#[34]⟩, .string ⟨#[92, 34]⟩] 9)
      have hnw := news_of W (strsV onL) 9 #[.string ⟨#[92]⟩, .string ⟨#[92, 92]⟩, .string ⟨#[34]⟩, .string ⟨#[92, 34]⟩] rfl
      generalize W.alloc (.cells #[.string ⟨#[92]⟩, .string ⟨#[92, 92]⟩, .string ⟨#[34]⟩, .string ⟨#[92, 34]⟩] 9) = W2 at *
      refine (newRep_c 4 ⟨W.heap.size, 0, none⟩ W2 hnw).mono ?_
      rintro e w' ⟨g, h, cap, he, ⟨hg, hc⟩, l1, l2, l3, hb'⟩
      have hs1 := hb.size
      have hs2 := hW.size
      exact ⟨g, h, cap, he, hg, hc, World.block_lt_of_cell? _ _ (hc 0 _ rfl), l3, by omega, (hW.trans (hb.mono hs2)).trans (hb'.mono (by omega))⟩
    have FIN := Lib.hid fin
    clear fin
    obtain ⟨x, hx⟩ : ∃ x, (tokL s.data.toList).isEmpty = x := ⟨_, rfl⟩
    rw [hx] at HA ⊢
    clear hx HT
    cases x with
    | true =>
      go_wp2_with fail
      refine (FIN.out _ hB1).mono ?_
      rintro e w3 ⟨g, h, cap, rfl, hR, hc, hh, hgh, hge, hB3⟩
      have HR := Lib.hid (replace_c g h cap s hs w3 hR hc hh hgh)
      clear hR hc
      go_wp2_with fail
      refine HR.out.mono ?_
      rintro e w4 ⟨rfl, ho4⟩
      go_wp2_with fail
      go_ret
      exact ⟨ret_s HF.out, hB3.trans (ho4.below hge hB3.size)⟩
    | false =>
      have hlt : k < s.size := by
        rcases HA.out with h | h
        · cases h
        · exact h
      go_wp2_with fail
      refine (cDone_c w.heap.size s k _ HC1.out).mono ?_
      rintro e w2 ⟨rfl, m, rfl⟩
      have hB1' : Below w.heap.size w (w1.drewN m) := ⟨hB1.os, hB1.tape, hB1.output, hB1.size, hB1.block⟩
      clear hB1
      have hB1 := hB1'
      have hd : ¬ s.size ≤ k := by omega
      clear hB1' HC1
      generalize w1.drewN m = w1' at *
      go_wp2_with fail
      refine (FIN.out _ hB1).mono ?_
      rintro e w3 ⟨g, h, cap, rfl, hR, hc, hh, hgh, hge, hB3⟩
      have HR := Lib.hid (replace_c g h cap s hs w3 hR hc hh hgh)
      clear hR hc
      go_wp2_with fail
      refine HR.out.mono ?_
      rintro e w4 ⟨rfl, ho4⟩
      go_wp2_with fail
      go_ret
      exact ⟨ret_s HF.out, hB3.trans (ho4.below hge hB3.size)⟩
end Go.Proofs.YtaopehogpdgkgaaGreat
