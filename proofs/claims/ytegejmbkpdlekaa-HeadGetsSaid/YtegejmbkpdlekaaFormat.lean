/- Contracts of Format, program and reference (chapter 4). -/
import Derived.Test.YtegejmbkpdlekaaNumRef
namespace Go.Proofs.Ytegejmbkpdlekaa
open Go.RowKit
def dig (n : Nat) : UInt8 := UInt8.ofNat (48 + n % 10)
theorem dig_toNat (n : Nat) : (dig n).toNat = 48 + n % 10 := UInt8.toNat_ofNat_of_lt' (by show 48 + n % 10 < 256; omega)
/-- the decimal digits of a number below 10^(f + 1) -/
def digs : Nat → Nat → List UInt8
  | 0, n => [dig n]
  | f + 1, n => if n < 10 then [dig n] else digs f (n / 10) ++ [dig n]
def fmtL (n : Nat) : List UInt8 := digs 19 n
def pw : Nat → Nat
  | 0 => 10
  | k + 1 => 10 * pw k
theorem pw19 : pw 19 = 100000000000000000000 := by decide
theorem digs_stop {f n : Nat} (h : n < 10) : digs f n = [dig n] := by cases f <;> simp [digs, h]
theorem digs_go {f n : Nat} (hf : 0 < f) (h : ¬ n < 10) : digs f n = digs (f - 1) (n / 10) ++ [dig n] := by
  obtain ⟨g, rfl⟩ : ∃ g, f = g + 1 := ⟨f - 1, by omega⟩
  simp [digs, h]
theorem pw_pos {f n : Nat} (h : n < pw f) (h10 : ¬ n < 10) : 0 < f ∧ n / 10 < pw (f - 1) := by
  cases f with
  | zero => simp only [pw] at h; omega
  | succ g => simp only [pw] at h; exact ⟨by omega, by show n / 10 < pw g; omega⟩

theorem dig_digit (n : Nat) : digitN (dig n).toNat = true := by rw [dig_toNat]; simp [digitN]; omega
theorem dig_val (n : Nat) : hexV (dig n).toNat = n % 10 := by rw [dig_toNat]; unfold hexV; rw [if_pos (by omega)]; omega
theorem digs_all : ∀ (f n : Nat), allB digitN (digs f n) = true
  | 0, n => by simp [digs, allB, dig_digit]
  | f + 1, n => by
    simp only [digs]; split
    · simp [allB, dig_digit]
    · have := digs_all f (n / 10); simp only [allB, List.all_append, List.all_cons, List.all_nil, dig_digit, Bool.and_true] at this ⊢; exact this
theorem digs_ne : ∀ (f n : Nat), digs f n ≠ []
  | 0, n => by simp [digs]
  | f + 1, n => by simp only [digs]; split <;> simp
theorem digs_digits (f n : Nat) : digitsL (digs f n) = true := by
  have h := digs_ne f n
  simp only [digitsL, digs_all, Bool.and_true]
  cases hd : digs f n with
  | nil => exact absurd hd h
  | cons a t => rfl
theorem fold_app : ∀ (l : List UInt8) (b : UInt8) (base most m : Nat), foldV base most m (l ++ [b]) = (foldV base most m l).bind fun x => if most < x * base + hexV b.toNat then none else some (x * base + hexV b.toNat)
  | [], b, base, most, m => by simp [foldV]
  | a :: l, b, base, most, m => by
    simp only [List.cons_append, foldV]
    split
    · rfl
    · exact fold_app l b base most _
theorem fold_digs : ∀ (f n most : Nat), n < pw f → n ≤ most → foldV 10 most 0 (digs f n) = some n
  | 0, n, most, h, hm => by
    simp only [pw] at h
    simp only [digs, foldV, dig_val]
    rw [if_neg (by omega)]; congr 1; omega
  | f + 1, n, most, h, hm => by
    simp only [pw] at h
    simp only [digs]; split
    · simp only [foldV, dig_val]
      rw [if_neg (by omega)]; congr 1; omega
    · rw [fold_app, fold_digs f (n / 10) most (by omega) (by omega)]
      simp only [Option.bind_some, dig_val]
      rw [if_neg (by omega)]; congr 1; omega
theorem dig_head {n : Nat} (h : 0 < n) (h' : n < 10) : dig n ≠ 48 := by
  intro e
  have := congrArg UInt8.toNat e
  rw [dig_toNat] at this
  have e2 : (48 : UInt8).toNat = 48 := rfl
  omega
theorem digs_head : ∀ (f n : Nat), n < pw f → 0 < n → (digs f n).headD 0 ≠ 48
  | 0, n, h, h0 => by simp only [pw] at h; simpa [digs] using dig_head h0 h
  | f + 1, n, h, h0 => by
    simp only [pw] at h
    simp only [digs]; split
    · rename_i h10; simpa using dig_head h0 h10
    · have ih := digs_head f (n / 10) (by omega) (by omega)
      cases hd : digs f (n / 10) with
      | nil => exact absurd hd (digs_ne _ _)
      | cons a t => rw [hd] at ih; simpa using ih
theorem strict_fmt {n : Nat} (h : n < pw 19) : strictL n (fmtL n) = (n, 0) := by
  unfold strictL
  rw [if_neg]
  · unfold parseL
    have e1 : ¬ fmtL n = [] := digs_ne 19 n
    have e2 : allB digitN (fmtL n) = true := digs_all 19 n
    have e3 : foldV 10 n 0 (fmtL n) = some n := fold_digs 19 n n h (Nat.le_refl _)
    rw [if_neg e1, if_neg (by rw [e2]; decide), e3]
  · simp only [Bool.and_eq_true, decide_eq_true_eq, beq_iff_eq]
    rintro ⟨⟨_, h1⟩, h2⟩
    by_cases h0 : 0 < n
    · exact digs_head 19 n h h0 h2
    · rw [fmtL, digs_stop (by omega)] at h1; simp at h1
theorem strict_zero (n most : Nat) : strictL most (48 :: fmtL n) = (0, 6) := by
  unfold strictL
  rw [if_pos]
  have h := digs_digits 19 n
  simp only [digitsL, Bool.and_eq_true] at h
  have hz : digitN (48 : UInt8).toNat = true := by decide
  have hl : 0 < (fmtL n).length := List.length_pos_iff.2 (digs_ne 19 n)
  simp only [digitsL, allB, List.all_cons, hz, List.length_cons, List.headD_cons, Bool.and_eq_true, decide_eq_true_eq, List.isEmpty_cons, Bool.not_false, Bool.true_and, beq_self_eq_true, and_true]
  exact ⟨h.2, by omega⟩
theorem fmtL_len (n : Nat) : (fmtL n).length ≤ 20 := by
  have : ∀ (f n : Nat), (digs f n).length ≤ f + 1 := by
    intro f
    induction f with
    | zero => intro n; simp [digs]
    | succ f ih => intro n; simp only [digs]; split <;> simp; exact ih _
  exact this 19 n

/-- block g is a row of twenty bytes, those behind place k are suf -/
def Tail (w : World) (g : Nat) (k : Nat) (suf : List UInt8) : Prop :=
  ∃ C : Array Value, w.heap[g]? = some (.cells C 102 (0, 0)) ∧ C.size = 20 ∧ k + 1 + suf.length = 20 ∧ ∀ j (h : j < suf.length), C[k + 1 + j]? = some (.int .u8 (suf[j].toNat : Int))
section
variable {w : World} {g k : Nat} {suf : List UInt8}
theorem Tail.cell (h : Tail w g k suf) : ∃ v, w.cell? ⟨g, k, none⟩ = some v := by
  obtain ⟨C, h1, h2, h3, _⟩ := h
  exact ⟨C[k]'(by omega), by rw [cell_of_row w g k C _ _ h1]; exact Array.getElem?_eq_getElem (by omega)⟩
theorem Tail.frozen (h : Tail w g k suf) (j : Nat) : w.frozen? ⟨g, j, none⟩ = false := by
  obtain ⟨C, h1, _⟩ := h
  simp [World.frozen?, h1]
theorem Tail.set (h : Tail w g k suf) (d : UInt8) (k' : Nat) (hk : k' + 1 = k) : Tail (w.setCell ⟨g, k, none⟩ (.int .u8 (d.toNat : Int))) g k' (d :: suf) := by
  obtain ⟨C, h1, h2, h3, h4⟩ := h
  refine ⟨C.setIfInBounds k (.int .u8 (d.toNat : Int)), ?_, by simp [h2], by simp; omega, fun j hj => ?_⟩
  · simp [World.setCell, Array.getElem?_modify, h1]
  · rw [Array.getElem?_setIfInBounds]
    cases j with
    | zero => rw [if_pos (by omega)]; simp; omega
    | succ i =>
      rw [if_neg (by omega)]
      have := h4 i (by simpa using hj)
      rw [show k' + 1 + (i + 1) = k + 1 + i by omega, this]; simp
set_option maxRecDepth 100000 in
theorem Tail.conv (h : Tail w g k suf) (d : UInt8) : (convert 69 9 (.slice (some ⟨g, k, none⟩) (20 - k) (20 - k))).run Try.prog (w.setCell ⟨g, k, none⟩ (.int .u8 (d.toNat : Int))) = .ok (.string (S (d :: suf))) (w.setCell ⟨g, k, none⟩ (.int .u8 (d.toNat : Int))) := by
  obtain ⟨C, h1, h2, h3, h4⟩ := h
  have hl : 20 - k = (d :: suf).length := by simp; omega
  have hlen : (20 - k, 20 - k) = ((d :: suf).length, 20 - k) := by rw [← hl]
  injection hlen with e1 _
  conv => lhs; rw [show Value.slice (some ⟨g, k, none⟩) (20 - k) (20 - k) = Value.slice (some ⟨g, k, none⟩) (d :: suf).length (20 - k) from congrArg (fun x => Value.slice (some ⟨g, k, none⟩) x (20 - k)) e1]
  refine run_convert_bytes_back (P := Try.prog) _ 69 9 5 _ _ (d :: suf) Try.underlying69 Try.underlying5 Try.underlying9 fun j hj => ?_
  have : (⟨g, k, none⟩ : Addr).add j = ⟨g, k + j, none⟩ := by unfold Addr.add; split <;> simp_all
  have hg : (w.setCell ⟨g, k, none⟩ (.int .u8 (d.toNat : Int))).heap[g]? = some (.cells (C.setIfInBounds k (.int .u8 (d.toNat : Int))) 102 (0, 0)) := by simp [World.setCell, Array.getElem?_modify, h1]
  rw [this, cell_of_row _ g _ _ _ _ hg, Array.getElem?_setIfInBounds]
  cases j with
  | zero => rw [if_pos (by omega)]; simp; omega
  | succ i =>
    rw [if_neg (by omega)]
    have := h4 i (by simpa using hj)
    rw [show k + (i + 1) = k + 1 + i by omega, this]; simp
end
theorem sizeU8 (w : World) : (sizeOf (Try.prog.elem 102)).run Try.prog w = .ok 1 w := by kernel_rfl
theorem arr20 : Try.prog.arrayLen 102 = 20 := by kernel_rfl
theorem slice20 (w : World) (g k : Nat) (hk : k ≤ 19) : (Instr.sliceAt 102 (.pointer (some ⟨g, 0, none⟩)) (some (.int .i64 (k : Int))) none none).run Try.prog w = .ok (.slice (some ⟨g, k, none⟩) (20 - k) (20 - k)) w := by
  rw [run_sliceAt_array_l (P := Try.prog) w 102 ⟨g, 0, none⟩ (by kernel_rfl) .i64 (k : Int) (by omega) (by rw [arr20]; omega), sizeU8]
  simp only [Result.andThen, slicedAt, arr20, Int.toNat_natCast]
  rw [if_neg (by omega), Nat.mul_one]
  have : (⟨g, 0, none⟩ : Addr).add k = ⟨g, k, none⟩ := by unfold Addr.add; split <;> simp_all
  rw [this]
set_option maxHeartbeats 1000000 in
set_option maxRecDepth 100000 in
theorem format_c (n : Nat) (hn : U n) (w : World) :
    Calls Try.prog 87 #[.int .u64 n] w fun e w' => e = .returned (.string (S (fmtL n))) ∧ Below w.heap.size w w' := by
  have hp : n < pw 19 := by unfold U at hn; rw [pw19]; omega
  have HP := Lib.hid hp
  have HU := Lib.hid hn
  clear hn hp
  go_enter Try.func87, Try.ntmps87
  go_wp2_with fail
  have hT : Tail (w.alloc (.cells #[.int .u8 0, .int .u8 0, .int .u8 0, .int .u8 0, .int .u8 0, .int .u8 0, .int .u8 0, .int .u8 0, .int .u8 0, .int .u8 0, .int .u8 0, .int .u8 0, .int .u8 0, .int .u8 0, .int .u8 0, .int .u8 0, .int .u8 0, .int .u8 0, .int .u8 0, .int .u8 0] 102)) w.heap.size 19 [] :=
    ⟨_, heap_alloc_new w _, rfl, rfl, fun j hj => by simp at hj⟩
  have hB := (Below.refl w.heap.size w).alloc (Nat.le_refl _) (.cells #[.int .u8 0, .int .u8 0, .int .u8 0, .int .u8 0, .int .u8 0, .int .u8 0, .int .u8 0, .int .u8 0, .int .u8 0, .int .u8 0, .int .u8 0, .int .u8 0, .int .u8 0, .int .u8 0, .int .u8 0, .int .u8 0, .int .u8 0, .int .u8 0, .int .u8 0, .int .u8 0] 102)
  generalize w.alloc (.cells #[.int .u8 0, .int .u8 0, .int .u8 0, .int .u8 0, .int .u8 0, .int .u8 0, .int .u8 0, .int .u8 0, .int .u8 0, .int .u8 0, .int .u8 0, .int .u8 0, .int .u8 0, .int .u8 0, .int .u8 0, .int .u8 0, .int .u8 0, .int .u8 0, .int .u8 0, .int .u8 0] 102) = w0 at *
  go_loopw [0, 4] (fun u v wr => ∃ m k : Nat, ∃ suf : List UInt8, k ≤ 19 ∧ u = .int .u64 m ∧ v = .int .i64 k ∧ m ≤ n ∧ m < pw k ∧ digs k m ++ suf = fmtL n ∧ Tail wr w.heap.size k suf ∧ Below w.heap.size w wr) (fun u _ _ => (intOf u).toNat)
  case atStart => exact ⟨n, 19, [], by omega, rfl, rfl, Nat.le_refl _, HP.out, by simp [fmtL], hT, hB⟩
  case round =>
    clear hT hB
    obtain ⟨m, k, suf, hk, rfl, rfl, hmn, hpw, hd, hT, hB⟩ := hrel
    have hu := HU.out.2
    have hm2 : (m : Int) ≤ 18446744073709551615 := by omega
    have HD := Lib.hid hd
    have HPW := Lib.hid hpw
    clear hd hpw hu
    have hf := hT.frozen k
    obtain ⟨v0, hc⟩ := hT.cell
    by_cases h10 : m < 10
    · have hsl := fun w' => slice20 w' w.heap.size k hk
      have hcv := hT.conv (dig m)
      have HX := Lib.hid (show digs k m ++ suf = dig m :: suf from by rw [digs_stop h10]; rfl)
      have hz : ((dig m).toNat : Int) = 48 + m := by rw [dig_toNat]; omega
      rw [hz] at hcv
      clear hz
      have HM := Lib.hid hm2
      have h10' : (m : Int) < 10 := by omega
      clear hm2 hmn h10
      go_wp2_with fail
      go_ret
      exact ⟨ret_s (by rw [← HD.out, HX.out]), hB.setCell (Nat.le_refl _) _⟩
    · obtain ⟨hk0, hq⟩ := pw_pos HPW.out h10
      obtain ⟨k', rfl⟩ : ∃ k', k = k' + 1 := ⟨k - 1, by omega⟩
      have HX := Lib.hid (show digs k' (m / 10) ++ dig m :: suf = fmtL n from by rw [← HD.out, digs_go hk0 h10]; simp)
      have hset := hT.set (dig m) k' rfl
      rw [show ((dig m).toNat : Int) = 48 + (m : Int) % 10 by rw [dig_toNat]; omega] at hset
      have HQ := Lib.hid hq
      clear hq
      go_wp2_with fail
      go_roundw
      case rel => exact ⟨m / 10, k', dig m :: suf, by omega, by go_num, by go_num, by omega, HQ.out, HX.out, hset, hB.setCell (Nat.le_refl _) _⟩
      case measure => simp [intOf]; omega

theorem conv1 (w : World) (d : UInt8) : (convert 69 9 (.slice (some ⟨w.heap.size, 0, none⟩) 1 1)).run Try.prog (w.alloc (.cells #[.int .u8 (d.toNat : Int)] 5)) = .ok (.string (S [d])) (w.alloc (.cells #[.int .u8 (d.toNat : Int)] 5)) := by
  refine run_convert_bytes_back (P := Try.prog) _ 69 9 5 _ _ [d] Try.underlying69 Try.underlying5 Try.underlying9 fun j hj => ?_
  have : (⟨w.heap.size, 0, none⟩ : Addr).add j = ⟨w.heap.size, j, none⟩ := by unfold Addr.add; split <;> simp_all
  rw [this, cell_of_row _ _ j _ _ _ (heap_alloc_new w _)]
  match j, hj with
  | 0, _ => rfl
set_option maxHeartbeats 1000000 in
set_option maxRecDepth 100000 in
theorem rFormat_c (n : Nat) (hn : U n) (w : World) :
    Calls Try.prog 88 #[.int .u64 n] w fun e w' => e = .returned (.string (S (fmtL n))) ∧ Below w.heap.size w w' := by
  have hp : n < pw 19 := by unfold U at hn; rw [pw19]; omega
  have HP := Lib.hid hp
  have HU := Lib.hid hn
  clear hn hp
  go_enter Try.func88, Try.ntmps88
  go_wp2_with fail
  go_loopw [0, 3] (fun u v wr => ∃ m k : Nat, ∃ suf : List UInt8, u = .int .u64 m ∧ v = .string (S suf) ∧ k ≤ 19 ∧ (S suf).size = 19 - k ∧ m ≤ n ∧ m < pw k ∧ digs k m ++ suf = fmtL n ∧ Below w.heap.size w wr) (fun u _ _ => (intOf u).toNat)
  case atStart => exact ⟨n, 19, [], rfl, rfl, by omega, rfl, Nat.le_refl _, HP.out, by simp [fmtL], Below.refl _ _⟩
  case round =>
    obtain ⟨m, k, suf, rfl, rfl, hk, hsz, hmn, hpw, hd, hB⟩ := hrel
    have hu := HU.out.2
    have hm2 : (m : Int) ≤ 18446744073709551615 := by omega
    have HD := Lib.hid hd
    have HPW := Lib.hid hpw
    have HSZ := Lib.hid hsz
    have hsz1 : (S suf).size ≤ 19 := by omega
    have hcv := fun w => conv1 w (dig m)
    rw [show ((dig m).toNat : Int) = 48 + (m : Int) % 10 by rw [dig_toNat]; omega] at hcv
    have happ : S [dig m] ++ S suf = S (dig m :: suf) := by apply ByteArray.ext; apply Array.toList_inj.1; simp [S]
    have HAPP := Lib.hid happ
    have hone : (S [dig m]).size ≤ 1 := by rw [S_size]; simp
    clear hd hpw hu hsz happ
    by_cases h10 : m < 10
    · have HX := Lib.hid (show digs k m ++ suf = dig m :: suf from by rw [digs_stop h10]; rfl)
      have hq : ((m : Int) / 10 == 0) = true := by simp; omega
      go_wp2_with fail
      go_ret
      exact ⟨ret_s (by rw [HAPP.out, ← HD.out, HX.out]), hB.alloc hB.size _⟩
    · obtain ⟨hk0, hq⟩ := pw_pos HPW.out h10
      obtain ⟨k', rfl⟩ : ∃ k', k = k' + 1 := ⟨k - 1, by omega⟩
      have HX := Lib.hid (show digs k' (m / 10) ++ dig m :: suf = fmtL n from by rw [← HD.out, digs_go hk0 h10]; simp)
      have HQ := Lib.hid hq
      have hq0 : ((m : Int) / 10 == 0) = false := by simp; omega
      have HS2 := Lib.hid (show (S (dig m :: suf)).size = 19 - k' from by have := HSZ.out; rw [S_size] at *; simp; omega)
      clear hq
      go_wp2_with fail
      go_roundw
      case rel => exact ⟨m / 10, k', dig m :: suf, by go_num, congrArg _ HAPP.out, by omega, HS2.out, by omega, HQ.out, HX.out, hB.alloc hB.size _⟩
      case measure => simp [intOf]; omega
end Go.Proofs.Ytegejmbkpdlekaa
