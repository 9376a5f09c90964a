/- Contracts: digits, escapes read at an offset, Decode (chapter 3). -/
import Derived.Test.YtgkcjpidekefoaaPctEsc
import Derived.Test.YtgkcjpidekefoaaNum
import Derived.Deep.QuietTactic
import Derived.BigQuiet
namespace Go.Proofs.Ytgkcjpidekefoaa
open Go.RowKit
theorem dg_dig : ∀ n : Fin 256, digitN ((n.val : Int)).toNat = true → ((n.val : Int) - 48) % 256 = (hexV ((n.val : Int)).toNat : Int) := by decide +kernel
theorem dg_hex : ∀ n : Fin 256, hexN ((n.val : Int)).toNat = true → digitN ((n.val : Int)).toNat = false → ((bits .or .u8 (n.val : Int) 32 - 97) % 256 + 10) % 256 = (hexV ((n.val : Int)).toNat : Int) := by decide +kernel
set_option maxHeartbeats 400000 in
theorem digit_c (c : Int) (h0 : 0 ≤ c) (h1 : c ≤ 255) (hh : hexN c.toNat = true) (w : World) :
    Calls Try.prog 72 #[.int .u8 c] w fun e w' => e = .returned (.int .u8 (hexV c.toNat)) ∧ w = w' := by
  obtain ⟨n, rfl⟩ := byte_cases h0 h1
  have HH := Lib.hid hh
  clear hh
  go_enter Try.func72, Try.ntmps72
  go_wp2_with (go_at_call 17; refine (isDigit_c _ (by omega) (by omega) _).mono ?_; rintro e w' ⟨rfl, rfl⟩)
  · go_ret
    exact ⟨ret_i (dg_dig n ‹_›), rfl⟩
  · go_ret
    exact ⟨ret_i (dg_hex n HH.out ‹_›), rfl⟩
theorem rdg : ∀ n : Fin 256, hexN ((n.val : Int)).toNat = true → ((n.val : Int) ≤ 57 → ((n.val : Int) - 48) % 256 = (hexV ((n.val : Int)).toNat : Int)) ∧ (57 < (n.val : Int) → (n.val : Int) ≤ 70 → (n.val : Int) - 65 + 10 = (hexV ((n.val : Int)).toNat : Int) ∧ 0 ≤ (n.val : Int) - 65) ∧ (70 < (n.val : Int) → (n.val : Int) - 97 + 10 = (hexV ((n.val : Int)).toNat : Int) ∧ 0 ≤ (n.val : Int) - 97) := by decide +kernel
set_option maxHeartbeats 400000 in
theorem rDigit_c (c : Int) (h0 : 0 ≤ c) (h1 : c ≤ 255) (hh : hexN c.toNat = true) (w : World) :
    Calls Try.prog 73 #[.int .u8 c] w fun e w' => e = .returned (.int .u8 (hexV c.toNat)) ∧ w = w' := by
  obtain ⟨n, rfl⟩ := byte_cases h0 h1
  have HR := Lib.hid (rdg n hh)
  clear hh
  go_enter Try.func73, Try.ntmps73
  go_wp2
  · go_ret
    exact ⟨ret_i (HR.out.1 (by omega)), rfl⟩
  · go_ret
    exact ⟨ret_i (by have := HR.out.2.1 (by omega) (by omega); omega), rfl⟩
  · go_ret
    exact ⟨ret_i (by have := HR.out.2.2 (by omega); omega), rfl⟩
theorem q_left {P : Program} {f : FuncId} {args : Array Value} {w : World} {n : Nat} {v : Value}
    (h : Calls P f args (w.drewN n) fun e w' => e = .returned v ∧ w.drewN n = w') : Calls P f args (w.drewN n) fun e w'' => e = .returned v ∧ ∃ m, w'' = w.drewN m :=
  h.mono fun _ _ ⟨he, hm⟩ => ⟨he, n, hm.symm⟩
theorem q_left0 {P : Program} {f : FuncId} {args : Array Value} {w : World} {v : Value}
    (h : Calls P f args w fun e w' => e = .returned v ∧ w = w') : Calls P f args w fun e w'' => e = .returned v ∧ ∃ m, w'' = w.drewN m :=
  h.mono fun _ _ ⟨he, hm⟩ => ⟨he, 0, hm.symm⟩
/-- what the readers of escapes answer -/
def escR (o : Option UInt8) : Value := match o with | none => .tuple #[.int .u8 0, .bool false] | some x => .tuple #[.int .u8 (x.toNat : Int), .bool true]
theorem esc_byte {a b : Nat} (ha : hexN a = true) (hb : hexN b = true) : ((UInt8.ofNat (16 * hexV a + hexV b)).toNat : Int) = 16 * hexV a + hexV b := by
  have h1 := hexV_le ha; have h2 := hexV_le hb
  rw [UInt8.toNat_ofNat_of_lt' (by show _ < 256; omega)]; omega

theorem u8_join {a b : Nat} (ha : a ≤ 15) (hb : b ≤ 15) : bits .or .u8 ((a : Int) * 16) (b : Int) = ((16 * a + b : Nat) : Int) := by
  have h := u8_or_nat (a * 16) b (by omega) (by omega)
  rw [nat_join 4 (a * 16) b (by omega) (by omega)] at h
  rw [show ((a * 16 : Nat) : Int) = (a : Int) * 16 by omega] at h
  rw [h]; omega

set_option maxHeartbeats 1000000 in
theorem escaped_c (s : ByteArray) (k : Nat) (hs : s.size ≤ 1000000) (hk : k < s.size) (w : World) :
    Calls Try.prog 68 #[.string s, .int .i64 k] w fun e w' => e = .returned (escR (escAt (s.data.toList.drop k))) ∧ ∃ m, w' = w.drewN m := by
  by_cases h2 : k + 2 < s.size
  · have hE := escAt_3 h2
    have b1 := byte_lt s[k + 1]
    have b2 := byte_lt s[k + 2]
    have j0 : 0 ≤ ((s[k + 1].toNat : Nat) : Int) := by omega
    have t1 : (((s[k + 1].toNat : Nat) : Int)).toNat = s[k + 1].toNat := by simp
    have t2 : (((s[k + 2].toNat : Nat) : Int)).toNat = s[k + 2].toNat := by simp
    by_cases x1 : hexN s[k + 1].toNat = true
    · by_cases x2 : hexN s[k + 2].toNat = true
      · have HX := Lib.hid (show escAt (s.data.toList.drop k) = some (UInt8.ofNat (16 * hexV s[k + 1].toNat + hexV s[k + 2].toNat)) from by rw [hE, x1, x2]; rfl)
        have HB := Lib.hid (esc_byte x1 x2)
        have HY := Lib.hid (show escR (escAt (s.data.toList.drop k)) = .tuple #[.int .u8 (16 * (hexV s[k + 1].toNat : Int) + (hexV s[k + 2].toNat : Int)), .bool true] from by rw [HX.out, escR, HB.out])
        have v1 := hexV_le x1
        have v2 := hexV_le x2
        have hj := u8_join v1 v2
        have x1' : hexN (((s[k + 1].toNat : Nat) : Int)).toNat = true := by rw [t1]; exact x1
        have x2' : hexN (((s[k + 2].toNat : Nat) : Int)).toNat = true := by rw [t2]; exact x2
        clear hE t1 t2
        go_enter Try.func68, Try.ntmps68
        go_wp2_with (first | (go_at_call 19; refine (isHex_c _ (by omega) (by omega) _).mono ?_; rintro e w' ⟨rfl, rfl⟩) | (go_at_call 72; refine (digit_c _ (by omega) (by omega) (by assumption) _).mono ?_; rintro e w' ⟨rfl, rfl⟩))
        go_quiet ((go_at_call 72; exact q_left (digit_c _ (by omega) (by omega) (by assumption) _)))
        go_wp2
        go_ret2
        exact ⟨ret_v HY.out, _, rfl⟩
      · have x2' : hexN s[k + 2].toNat = false := by simpa using x2
        have HX := Lib.hid (show escAt (s.data.toList.drop k) = none from by rw [hE, x2']; simp)
        clear hE x2
        go_enter Try.func68, Try.ntmps68
        go_wp2_with (first | (go_at_call 19; refine (isHex_c _ (by omega) (by omega) _).mono ?_; rintro e w' ⟨rfl, rfl⟩) | (go_at_call 72; refine (digit_c _ (by omega) (by omega) (by assumption) _).mono ?_; rintro e w' ⟨rfl, rfl⟩))
        go_ret2
        exact ⟨by rw [HX.out]; rfl, 0, rfl⟩
    · have x1' : hexN s[k + 1].toNat = false := by simpa using x1
      have HX := Lib.hid (show escAt (s.data.toList.drop k) = none from by rw [hE, x1']; simp)
      clear hE x1
      go_enter Try.func68, Try.ntmps68
      go_wp2_with (first | (go_at_call 19; refine (isHex_c _ (by omega) (by omega) _).mono ?_; rintro e w' ⟨rfl, rfl⟩) | (go_at_call 72; refine (digit_c _ (by omega) (by omega) (by assumption) _).mono ?_; rintro e w' ⟨rfl, rfl⟩))
      go_ret2
      exact ⟨by rw [HX.out]; rfl, 0, rfl⟩
  · have HX := Lib.hid (escAt_short h2)
    go_enter Try.func68, Try.ntmps68
    go_wp2
    go_ret2
    exact ⟨by rw [HX.out]; rfl, 0, rfl⟩

set_option maxHeartbeats 1000000 in
theorem rescape_c (s : ByteArray) (k : Nat) (hs : s.size ≤ 1000000) (hk : k < s.size) (h37 : ((s[k].toNat : Int) != 37) = false) (w : World) :
    Calls Try.prog 69 #[.string s, .int .i64 k] w fun e w' => e = .returned (escR (escAt (s.data.toList.drop k))) ∧ ∃ m, w' = w.drewN m := by
  by_cases h2 : k + 2 < s.size
  · have hE := escAt_3 h2
    have b1 := byte_lt s[k + 1]
    have b2 := byte_lt s[k + 2]
    have j0 : 0 ≤ ((s[k + 1].toNat : Nat) : Int) := by omega
    have t1 : (((s[k + 1].toNat : Nat) : Int)).toNat = s[k + 1].toNat := by simp
    have t2 : (((s[k + 2].toNat : Nat) : Int)).toNat = s[k + 2].toNat := by simp
    by_cases x1 : hexN s[k + 1].toNat = true
    · by_cases x2 : hexN s[k + 2].toNat = true
      · have HX := Lib.hid (show escAt (s.data.toList.drop k) = some (UInt8.ofNat (16 * hexV s[k + 1].toNat + hexV s[k + 2].toNat)) from by rw [hE, x1, x2]; rfl)
        have HB := Lib.hid (esc_byte x1 x2)
        have HY := Lib.hid (show escR (escAt (s.data.toList.drop k)) = .tuple #[.int .u8 (16 * (hexV s[k + 1].toNat : Int) + (hexV s[k + 2].toNat : Int)), .bool true] from by rw [HX.out, escR, HB.out])
        have v1 := hexV_le x1
        have v2 := hexV_le x2
        have hj := u8_join v1 v2
        have x1' : hexN (((s[k + 1].toNat : Nat) : Int)).toNat = true := by rw [t1]; exact x1
        have x2' : hexN (((s[k + 2].toNat : Nat) : Int)).toNat = true := by rw [t2]; exact x2
        clear hE t1 t2
        go_enter Try.func69, Try.ntmps69
        go_wp2_with (first | (go_at_call 20; refine (rIsHex_c _ (by omega) (by omega) _).mono ?_; rintro e w' ⟨rfl, rfl⟩) | (go_at_call 73; refine (rDigit_c _ (by omega) (by omega) (by assumption) _).mono ?_; rintro e w' ⟨rfl, rfl⟩))
        go_quiet ((go_at_call 73; exact q_left (rDigit_c _ (by omega) (by omega) (by assumption) _)))
        go_wp2
        go_ret2
        exact ⟨ret_v HY.out, _, rfl⟩
      · have x2' : hexN s[k + 2].toNat = false := by simpa using x2
        have HX := Lib.hid (show escAt (s.data.toList.drop k) = none from by rw [hE, x2']; simp)
        clear hE x2
        go_enter Try.func69, Try.ntmps69
        go_wp2_with (first | (go_at_call 20; refine (rIsHex_c _ (by omega) (by omega) _).mono ?_; rintro e w' ⟨rfl, rfl⟩) | (go_at_call 73; refine (rDigit_c _ (by omega) (by omega) (by assumption) _).mono ?_; rintro e w' ⟨rfl, rfl⟩))
        go_ret2
        exact ⟨by rw [HX.out]; rfl, 0, rfl⟩
    · have x1' : hexN s[k + 1].toNat = false := by simpa using x1
      have HX := Lib.hid (show escAt (s.data.toList.drop k) = none from by rw [hE, x1']; simp)
      clear hE x1
      go_enter Try.func69, Try.ntmps69
      go_wp2_with (first | (go_at_call 20; refine (rIsHex_c _ (by omega) (by omega) _).mono ?_; rintro e w' ⟨rfl, rfl⟩) | (go_at_call 73; refine (rDigit_c _ (by omega) (by omega) (by assumption) _).mono ?_; rintro e w' ⟨rfl, rfl⟩))
      go_ret2
      exact ⟨by rw [HX.out]; rfl, 0, rfl⟩
  · have HX := Lib.hid (escAt_short h2)
    go_enter Try.func69, Try.ntmps69
    go_wp2
    go_ret2
    exact ⟨by rw [HX.out]; rfl, 0, rfl⟩
end Go.Proofs.Ytgkcjpidekefoaa
