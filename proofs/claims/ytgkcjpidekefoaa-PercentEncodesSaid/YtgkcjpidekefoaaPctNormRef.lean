/- Contract of the reference's Normalize (chapter 3). -/
import Derived.Test.YtgkcjpidekefoaaPctRef
namespace Go.Proofs.Ytgkcjpidekefoaa
open Go.RowKit
theorem strCells_S (l : List UInt8) : Lib.strCells (S l) = l.map bv := by simp [Lib.strCells, S, bv]
/-- append of a string's bytes to a row of the call's own -/
theorem wpList_append_str {ops : Array Oper} {rest : List Oper} {o : Oper} {a : Act} {w : World} {Q : Exit → Act → World → Prop} (hgd : o.guard = none) (s x : Operand) (t : TypeId)
    (ho : o.op = .call { callee := .builtin .append, args := #[s, x], argTypes := #[t, 9] }) (ht : Try.prog.underlying t = some (.slice 5))
    (base : Nat) (v : Value) (l : List UInt8) (hs : a.eval s = v) (hown : Own w base v l)
    (news : List UInt8) (hx : a.eval x = .string (S news))
    (hlen : l.length + news.length ≤ 100000000) (hbase : base ≤ w.heap.size)
    (h : ∀ v' w', Own w' base v' (l ++ news) → w.grownBy w' v.ownBlock → wpList Try.prog ops Q rest (a.put o.dst v') w') : wpList Try.prog ops Q (o :: rest) a w := by
  obtain ⟨i0, hi, hz0, hz1, hz2⟩ := info_parts info5
  refine Lib.wpList_append_own_string w hgd s x t 9 ho base 5 i0 ht Try.underlying9 hi hz0 hz1 hz2 v l.length (l.map bv) hs hown (S news) hx (by rw [S_size]; unfold maxLen; omega) (by rw [S_size]; omega) hbase ?_
  intro v' w' hown' hg _
  refine h v' w' ?_ hg
  rw [strCells_S, S_size] at hown'
  unfold Own
  rw [List.map_append, List.length_append]
  exact hown'
theorem Own.below' {w w' : World} {B : Nat} {v : Value} {l : List UInt8} (h : Own w B v l) (hb : Below w.heap.size w w') : Own w' B v l := by
  refine ⟨h.1, ?_⟩
  rcases h.2 with hn | ⟨g, cap, cur, rfl, hg, hgg, rest⟩
  · exact .inl hn
  · exact .inr ⟨g, cap, cur, rfl, hg, by rw [hb.block g (Array.getElem?_eq_some_iff.1 hgg).1]; exact hgg, rest⟩
theorem below_app' {B : Nat} {w wr w1 w' : World} {v : Value} {l : List UInt8} (h : Below B w wr) (ho : Own wr B v l) (hB : B ≤ wr.heap.size) (hb : Below wr.heap.size wr w1) (hg : w1.grownBy w' v.ownBlock) : Below B w w' :=
  (h.trans (hb.mono hB)).grown hg (Nat.le_trans hB hb.size) (fun k hk => (World.ownsRow.lt ho k hk).1)
set_option maxRecDepth 100000 in
set_option maxHeartbeats 2000000 in
theorem rpnorm_c (s also : ByteArray) (hks : also.size ≤ 100000) (w : World) :
    Calls Try.prog 54 #[.string s, .string also] w fun e w' => e = .returned (normV also s) ∧ Below w.heap.size w w' := by
  have KS := Lib.hid hks
  clear hks
  by_cases hbig : 16384 < s.size
  · have HX := Lib.hid (normV_big (also := also) hbig)
    have hb : (16384 : Int) < (s.size : Int) := by omega
    clear hbig
    go_enter Try.func54, Try.ntmps54
    go_wp2_with fail
    go_ret2
    exact ⟨ret_v HX.out, Below.refl _ _⟩
  · have hb : (s.size : Int) ≤ (16384 : Int) := by omega
    have HBIG := Lib.hid hbig
    clear hbig
    go_enter Try.func54, Try.ntmps54
    go_wp2_with fail
    go_loopw [6, 7] (fun v i wr => ∃ k : Nat, ∃ acc : List UInt8, k ≤ s.size ∧ i = .int .i64 k ∧ acc.length ≤ 3 * k ∧ Own wr w.heap.size v acc ∧ pre acc (runL (stN also.data.toList) (s.data.toList.drop k)) = normP also.data.toList s.data.toList ∧ Below w.heap.size w wr) (fun _ i _ => s.size - (intOf i).toNat)
    case atStart => exact ⟨0, [], Nat.zero_le _, rfl, Nat.le_refl _, Own.nil _ _, pre_nil _, Below.refl _ _⟩
    case round =>
      obtain ⟨k, acc, hk, rfl, hacc, hown, hd, hB⟩ := hrel
      have HD := Lib.hid hd
      clear hd
      have hlen : acc.length + 1 ≤ 100000000 := by omega
      have hbase : ∀ o, w.heap.size ≤ (wr.alloc o).heap.size := fun o => by have := hB.size; simp; omega
      by_cases hlt : k < s.size
      · have hb1 := byte_lt s[k]
        by_cases h37 : s[k].toNat = 37
        · have n37 : ((s[k].toNat : Int) != 37) = false := by rw [h37]; rfl
          cases hx : escAt (s.data.toList.drop k) with
          | none =>
            have HX := Lib.hid (normV_err HBIG.out (run_stop hlt (stN_bad (also := also.data.toList) hlt h37 hx) HD.out))
            have HC := Lib.hid (rescape_c s k (by omega) hlt n37 wr)
            rw [hx] at HC
            clear hx h37
            go_wp2_with fail
            refine HC.out.mono ?_
            rintro e w1 ⟨rfl, m, rfl⟩
            simp only [escR]
            go_wp2_with fail
            go_ret2
            exact ⟨ret_v HX.out, below_dn hB _⟩
          | some x =>
            have hl3 := esc_len hx
            have hbx1 := byte_lt x
            rw [List.length_drop, size_toList] at hl3
            have HC := Lib.hid (rescape_c s k (by omega) hlt n37 wr)
            rw [hx] at HC
            by_cases hu : unresN x.toNat = true
            · have HX := Lib.hid (run_step hlt (stN_escU (also := also.data.toList) hlt h37 hx hu) HD.out)
              clear hx h37
              go_wp2_with fail
              refine HC.out.mono ?_
              rintro e w1 ⟨rfl, m, rfl⟩
              simp only [escR]
              go_wp2_with (first | (go_at_call 22; refine (rIsUnreserved_c _ (by omega) (by omega) _).mono ?_; rintro e w' ⟨rfl, rfl⟩) | (at_builtin; go_must (refine wpList_append_bytes rfl _ _ 42 rfl Try.underlying42 w.heap.size _ acc rfl (hown.alloc _) ⟨wr.heap.size, 0, none⟩ 1 1 [x] rfl rfl (news_bytes wr [x] _ rfl) hlen (hbase _) ?_); intro v' w2 hown' hg))
              go_roundw
              case rel => exact ⟨k + 1 + 2, acc ++ [x], by omega, by go_num, by simp; omega, hown', HX.out, below_app (wr := wr.drewN m) (below_dn hB _) hown hB.size hg⟩
              case measure => simp [intOf]; omega
            · have hu' : unresN x.toNat = false := by simpa using hu
              have HX := Lib.hid (run_step hlt (stN_escE (also := also.data.toList) hlt h37 hx hu') HD.out)
              clear hx h37 hu
              go_wp2_with fail
              refine HC.out.mono ?_
              rintro e w1 ⟨rfl, m, rfl⟩
              simp only [escR]
              go_wp2_with (first | (go_at_call 22; refine (rIsUnreserved_c _ (by omega) (by omega) _).mono ?_; rintro e w' ⟨rfl, rfl⟩) | (go_at_call 67; refine (rEscB_c x (wr.drewN m)).mono ?_; rintro e w1 ⟨rfl, hb2⟩) | (at_builtin; go_must (refine wpList_append_str rfl _ _ 42 rfl Try.underlying42 w.heap.size _ acc rfl (Own.below' (w := wr.drewN m) hown hb2) (escL x) rfl (by rw [escL_len]; omega) (Nat.le_trans hB.size hb2.size) ?_); intro v' w2 hown' hg))
              go_roundw
              case rel => exact ⟨k + 1 + 2, acc ++ escL x, by omega, by go_num, by rw [List.length_append, escL_len]; omega, hown', HX.out, below_app' (wr := wr.drewN m) (below_dn hB m) hown hB.size hb2 hg⟩
              case measure => simp [intOf]; omega
        · have n37 : ((s[k].toNat : Int) != 37) = true := by rw [bne_iff_ne]; omega
          by_cases hu1 : unresN s[k].toNat = true
          · have HX := Lib.hid (run_step hlt (stN_plain (also := also.data.toList) hlt h37 (by rw [hu1]; rfl)) HD.out)
            clear h37
            go_wp2_with (first | (go_at_call 22; refine (rIsUnreserved_c _ (by omega) (by omega) _).mono ?_; rintro e w' ⟨rfl, rfl⟩) | (go_at_call 59; refine (rIn_c _ (by omega) (by omega) _ (by have := KS.out; omega) _).mono ?_; rintro e w' ⟨rfl, rfl⟩) | (at_builtin; go_must (refine wpList_append_bytes rfl _ _ 42 rfl Try.underlying42 w.heap.size _ acc rfl (hown.alloc _) ⟨wr.heap.size, 0, none⟩ 1 1 [s[k]] rfl rfl (news_bytes wr [s[k]] _ rfl) hlen (hbase _) ?_); intro v' w2 hown' hg))
            go_roundw
            case rel => exact ⟨k + 1 + 0, acc ++ [s[k]], by omega, by go_num, by simp; omega, hown', HX.out, below_app hB hown hB.size hg⟩
            case measure => simp [intOf]; omega
          · have hu1' : unresN s[k].toNat = false := by simpa using hu1
            clear hu1
            by_cases hm : memB also.data.toList s[k].toNat = true
            · have HX := Lib.hid (run_step hlt (stN_plain (also := also.data.toList) hlt h37 (by rw [hm]; simp)) HD.out)
              clear h37
              go_wp2_with (first | (go_at_call 22; refine (rIsUnreserved_c _ (by omega) (by omega) _).mono ?_; rintro e w' ⟨rfl, rfl⟩) | (go_at_call 59; refine (rIn_c _ (by omega) (by omega) _ (by have := KS.out; omega) _).mono ?_; rintro e w' ⟨rfl, rfl⟩) | (at_builtin; go_must (refine wpList_append_bytes rfl _ _ 42 rfl Try.underlying42 w.heap.size _ acc rfl (hown.alloc _) ⟨wr.heap.size, 0, none⟩ 1 1 [s[k]] rfl rfl (news_bytes wr [s[k]] _ rfl) hlen (hbase _) ?_); intro v' w2 hown' hg))
              go_roundw
              case rel => exact ⟨k + 1 + 0, acc ++ [s[k]], by omega, by go_num, by simp; omega, hown', HX.out, below_app hB hown hB.size hg⟩
              case measure => simp [intOf]; omega
            · have hm' : memB also.data.toList s[k].toNat = false := by simpa using hm
              clear hm
              have HX := Lib.hid (normV_err HBIG.out (run_stop hlt (stN_char (also := also.data.toList) hlt h37 (by rw [hu1', hm']; rfl)) HD.out))
              clear h37
              go_wp2_with (first | (go_at_call 22; refine (rIsUnreserved_c _ (by omega) (by omega) _).mono ?_; rintro e w' ⟨rfl, rfl⟩) | (go_at_call 59; refine (rIn_c _ (by omega) (by omega) _ (by have := KS.out; omega) _).mono ?_; rintro e w' ⟨rfl, rfl⟩))
              go_ret2
              exact ⟨ret_v HX.out, hB⟩
      · have HX := Lib.hid (normV_ok HBIG.out (run_end hlt HD.out))
        have hcv := hown.conv 42 Try.underlying42
        go_wp2_with fail
        go_ret2
        exact ⟨ret_v HX.out, hB⟩
end Go.Proofs.Ytgkcjpidekefoaa
