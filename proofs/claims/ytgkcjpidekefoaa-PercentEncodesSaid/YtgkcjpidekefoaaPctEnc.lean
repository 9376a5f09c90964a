/- Contracts of Encode and Normalize of the program (chapter 3). -/
import Derived.Test.YtgkcjpidekefoaaPctDec
namespace Go.Proofs.Ytgkcjpidekefoaa
open Go.RowKit

set_option maxHeartbeats 400000 in
theorem idx_c (s : ByteArray) (c : Int) (w : World) :
    Calls Try.prog 65 #[.string s, .int .u8 c] w fun e w' => e = .returned (.int .i64 (Lib.indexByte s.data.toList c.toNat.toUInt8)) ∧ w = w' := by
  have hx := x74
  go_enter Try.func65, Try.ntmps65
  go_wp2
  go_ret
  exact ⟨rfl, rfl⟩
/-- block g is a variable that holds a slice of the call's own, of the bytes l -/
def Box (w : World) (g : Nat) (l : List UInt8) : Prop := ∃ v, w.heap[g]? = some (.cells #[v] 47 (0, 0)) ∧ Own w (g + 1) v l
theorem app_keep {w w2 : World} {g : Nat} {v : Value} {l : List UInt8} {o X : Obj} (hg : w.heap[g]? = some o) (ho : Own w (g + 1) v l) (h : (w.alloc X).grownBy w2 v.ownBlock) : w2.heap[g]? = some o := by
  rw [h.block g (by have := heap_lt hg; simp; omega) (fun e => by have := own_block ho e.symm; omega)]
  exact (Below.heap_alloc w X g (heap_lt hg)).trans hg
theorem app_below {w w2 : World} {g : Nat} {v : Value} {l : List UInt8} {o X : Obj} (hg : w.heap[g]? = some o) (ho : Own w (g + 1) v l) (h : (w.alloc X).grownBy w2 v.ownBlock) : Below g w w2 := by
  have hlt := heap_lt hg
  exact ((Below.refl g w).alloc (by omega) X).grown h (by simp; omega) (fun k hk => by have := own_block ho hk; omega)
theorem box_app {w w2 : World} {g : Nat} {v v' : Value} {l l' : List UInt8} {X : Obj} (hg : w.heap[g]? = some (.cells #[v] 47 (0, 0))) (ho : Own w (g + 1) v l) (h : (w.alloc X).grownBy w2 v.ownBlock) (ho' : Own w2 (g + 1) v' l') :
    Box (w2.setCell ⟨g, 0, none⟩ v') g l' ∧ Below g w (w2.setCell ⟨g, 0, none⟩ v') :=
  ⟨⟨v', one_setCell (app_keep hg ho h), ownsRow_setCell_below ho' (Nat.lt_succ_self g) _⟩, (app_below hg ho h).setCell (Nat.le_refl g) _⟩
theorem box_new (w : World) : Box (w.alloc (.cells #[.slice none 0 0] 47)) w.heap.size [] := ⟨_, heap_alloc_new w _, Own.nil _ _⟩
theorem ofNat_toNat' (b : UInt8) : UInt8.ofNat ((b.toNat : Int)).toNat = b := by rw [Int.toNat_natCast]; exact UInt8.ofNat_toNat
/-- the escaping method, over a box -/
theorem escB_c (g : Nat) (l : List UInt8) (b : UInt8) (w : World) (hb : Box w g l) (hl : l.length ≤ 1000000) :
    Calls Try.prog 66 #[.pointer (some ⟨g, 0, none⟩), .int .u8 (b.toNat : Int)] w fun e w' => e = .returned (.tuple #[]) ∧ Box w' g (l ++ escL b) ∧ Below g w w' := by
  obtain ⟨v, hg, ho⟩ := hb
  refine (esc_c g v l (b.toNat : Int) (by omega) (byte_lt b) w hg ho hl).mono fun e w' ⟨he, v', h1, h2, h3⟩ => ⟨he, ⟨v', h1, ?_⟩, h3⟩
  rw [ofNat_toNat'] at h2; exact h2

def encV (keep s : ByteArray) : Value := match encP keep.data.toList s.data.toList with | .ok r => .string (S r) | .error _ => .string ⟨#[]⟩
theorem encV_ok {keep s : ByteArray} {r : List UInt8} (h : encP keep.data.toList s.data.toList = .ok r) : encV keep s = .string (S r) := by unfold encV; rw [h]
set_option maxRecDepth 100000 in
set_option maxHeartbeats 1000000 in
theorem pencode_c (s keep : ByteArray) (hs : s.size ≤ 100000) (w : World) :
    Calls Try.prog 51 #[.string s, .string keep] w fun e w' => e = .returned (encV keep s) ∧ Below w.heap.size w w' := by
  go_enter Try.func51, Try.ntmps51
  go_wp2_with fail
  have hbx0 := box_new w
  have hB0 := (Below.refl w.heap.size w).alloc (Nat.le_refl _) (.cells #[.slice none 0 0] 47)
  generalize w.alloc (.cells #[.slice none 0 0] 47) = w0 at *
  go_loopw [10] (fun i wr => ∃ k : Nat, ∃ acc : List UInt8, k ≤ s.size ∧ i = .int .i64 k ∧ acc.length ≤ 3 * k ∧ Box wr w.heap.size acc ∧ pre acc (runL (stE keep.data.toList) (s.data.toList.drop k)) = encP keep.data.toList s.data.toList ∧ Below w.heap.size w wr) (fun i _ => s.size - (intOf i).toNat)
  case atStart => exact ⟨0, [], Nat.zero_le _, rfl, Nat.le_refl _, hbx0, pre_nil _, hB0⟩
  case round =>
    clear hbx0 hB0
    obtain ⟨k, acc, hk, rfl, hacc, hbox, hd, hB⟩ := hrel
    have HBOX := Lib.hid hbox
    obtain ⟨v, hbx, hown⟩ := hbox
    have HD := Lib.hid hd
    clear hd
    have hc := cell_of_one hbx
    have hf := free_of_one hbx
    have hca : ∀ o, (wr.alloc o).cell? ⟨w.heap.size, 0, none⟩ = some v := fun o => cell_of_one ((Below.heap_alloc wr o _ (heap_lt hbx)).trans hbx)
    have hlen : acc.length + 1 ≤ 100000000 := by omega
    have hbase : ∀ o, w.heap.size + 1 ≤ (wr.alloc o).heap.size := fun o => by have := heap_lt hbx; simp; omega
    by_cases hlt : k < s.size
    · have hb := byte_lt s[k]
      have hmem := memB_indexByte keep.data.toList s[k].toNat s[k].toNat_lt
      by_cases hu : unresN s[k].toNat = true
      · have HX := Lib.hid (run_step hlt (stE_keep (keep := keep.data.toList) hlt (by rw [hu]; rfl)) HD.out)
        clear hmem
        go_wp2_with (first | (go_at_call 21; refine (isUnreserved_c _ (by omega) (by omega) _).mono ?_; rintro e w' ⟨rfl, rfl⟩) | (go_at_call 65; refine (idx_c _ _ _).mono ?_; rintro e w' ⟨rfl, rfl⟩) | (at_builtin; go_must (refine wpList_append_blies rfl _ _ 47 rfl Try.underlying47 (w.heap.size + 1) _ acc rfl (hown.alloc _) ⟨wr.heap.size, 0, none⟩ 1 1 [s[k]] rfl rfl (by decide) (news_bytes wr [s[k]] _ rfl) hlen (hbase _) ?_); intro g2 cap2 w2 hown' hg; have hc2 := cell_of_one (app_keep hbx hown hg); have hf2 := free_of_one (app_keep hbx hown hg)))
        obtain ⟨hbx2, hbl2⟩ := box_app hbx hown hg hown'
        go_roundw
        case rel => exact ⟨k + 1 + 0, acc ++ [s[k]], by omega, by go_num, by simp; omega, hbx2, HX.out, hB.trans hbl2⟩
        case measure => simp [intOf]; omega
      · have hu' : unresN s[k].toNat = false := by simpa using hu
        clear hu
        by_cases h37 : s[k].toNat = 37
        · have n37 : ((s[k].toNat : Int) != 37) = false := by rw [h37]; rfl
          have HX := Lib.hid (run_step hlt (stE_esc (keep := keep.data.toList) hlt (by rw [hu', h37]; rfl)) HD.out)
          clear hmem h37
          go_wp2_with (first | (go_at_call 21; refine (isUnreserved_c _ (by omega) (by omega) _).mono ?_; rintro e w' ⟨rfl, rfl⟩) | (go_at_call 65; refine (idx_c _ _ _).mono ?_; rintro e w' ⟨rfl, rfl⟩) | (go_at_call 66; refine (escB_c w.heap.size acc s[k] _ HBOX.out (by omega)).mono ?_; rintro e w1 ⟨rfl, hbx2, hbl2⟩))
          go_roundw
          case rel => exact ⟨k + 1 + 0, acc ++ escL s[k], by omega, by go_num, by rw [List.length_append, escL_len]; omega, hbx2, HX.out, hB.trans hbl2⟩
          case measure => simp [intOf]; omega
        · have n37 : ((s[k].toNat : Int) != 37) = true := by rw [bne_iff_ne]; omega
          by_cases hm : memB keep.data.toList s[k].toNat = true
          · have HX := Lib.hid (run_step hlt (stE_keep (keep := keep.data.toList) hlt (by rw [hu', hm]; simp [h37])) HD.out)
            rw [hm] at hmem
            have hmem' : decide (0 ≤ Lib.indexByte keep.data.toList s[k]) = true := by rw [← hmem]; simp
            clear hm h37 hmem
            go_wp2_with (first | (go_at_call 21; refine (isUnreserved_c _ (by omega) (by omega) _).mono ?_; rintro e w' ⟨rfl, rfl⟩) | (go_at_call 65; refine (idx_c _ _ _).mono ?_; rintro e w' ⟨rfl, rfl⟩) | (at_builtin; go_must (refine wpList_append_blies rfl _ _ 47 rfl Try.underlying47 (w.heap.size + 1) _ acc rfl (hown.alloc _) ⟨wr.heap.size, 0, none⟩ 1 1 [s[k]] rfl rfl (by decide) (news_bytes wr [s[k]] _ rfl) hlen (hbase _) ?_); intro g2 cap2 w2 hown' hg; have hc2 := cell_of_one (app_keep hbx hown hg); have hf2 := free_of_one (app_keep hbx hown hg)))
            obtain ⟨hbx2, hbl2⟩ := box_app hbx hown hg hown'
            go_roundw
            case rel => exact ⟨k + 1 + 0, acc ++ [s[k]], by omega, by go_num, by simp; omega, hbx2, HX.out, hB.trans hbl2⟩
            case measure => simp [intOf]; omega
          · have hm' : memB keep.data.toList s[k].toNat = false := by simpa using hm
            have HX := Lib.hid (run_step hlt (stE_esc (keep := keep.data.toList) hlt (by rw [hu', hm']; simp)) HD.out)
            rw [hm'] at hmem
            have hmem' : decide (0 ≤ Lib.indexByte keep.data.toList s[k]) = false := by rw [← hmem]; simp
            clear hm hm' h37 hmem
            go_wp2_with (first | (go_at_call 21; refine (isUnreserved_c _ (by omega) (by omega) _).mono ?_; rintro e w' ⟨rfl, rfl⟩) | (go_at_call 65; refine (idx_c _ _ _).mono ?_; rintro e w' ⟨rfl, rfl⟩) | (go_at_call 66; refine (escB_c w.heap.size acc s[k] _ HBOX.out (by omega)).mono ?_; rintro e w1 ⟨rfl, hbx2, hbl2⟩))
            go_roundw
            case rel => exact ⟨k + 1 + 0, acc ++ escL s[k], by omega, by go_num, by rw [List.length_append, escL_len]; omega, hbx2, HX.out, hB.trans hbl2⟩
            case measure => simp [intOf]; omega
    · have HX := Lib.hid (encV_ok (run_end hlt HD.out))
      have hcv := hown.conv 47 Try.underlying47
      go_wp2_with fail
      go_ret
      exact ⟨ret_v HX.out, hB⟩
end Go.Proofs.Ytgkcjpidekefoaa
