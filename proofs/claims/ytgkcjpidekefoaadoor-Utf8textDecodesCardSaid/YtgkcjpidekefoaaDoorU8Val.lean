/- Contracts of value, Decode of the reference, Count and Valid of both (chapter 2). -/
import Derived.Test.YtgkcjpidekefoaaDoorU8Enc
import Derived.Test.YtgkcjpidekefoaaDoorU8Laws
namespace Go.Proofs.YtgkcjpidekefoaaDoor
open Go.RowKit

theorem ret_v {a b : Value} (h : b = a) : Ending.returned a = .returned b := by rw [h]
theorem i64_mask (x j m : Nat) (hj : j ≤ 62) (hm : (m : Int) = 2 ^ j - 1) (hx : x < 4611686018427387904) : bits .and .i64 (x : Int) (m : Int) = ((x % 2 ^ j : Nat) : Int) := by
  have h := bits_mask .i64 62 (by decide) (fun n h0 h1 => by rw [IntKind.wrap_i64]; omega) j hj (x : Int) (by omega) (by omega)
  rw [hm, h]; simp
theorem i_low6 (b : UInt8) : bits .and .i64 (b.toNat : Int) 63 = ((low6 b : Nat) : Int) := i64_mask b.toNat 6 63 (by decide) (by decide) (by have := b.toNat_lt; omega)
theorem list_at {p : ByteArray} (k : Nat) (h : k < p.size) : p.data.toList.drop k = p[k] :: p.data.toList.drop (k + 1) := drop_cons p k h
theorem list_n {p : ByteArray} (n : Nat) (h : p.size = n) : p.data.toList.drop n = [] := List.drop_of_length_le (by rw [size_toList]; omega)

set_option maxHeartbeats 1000000 in
theorem value1_c (p : ByteArray) (hs : p.size = 1) (w : World) :
    Calls Tryd.prog 18 #[.string p] w fun e w' => e = .returned (.int .i64 (valL p.data.toList)) ∧ Below w.heap.size w w' := by
  have hv : valL p.data.toList = p[0].toNat := by
    have e := list_at (p := p) 0 (by omega)
    rw [List.drop_zero, list_n 1 hs] at e; rw [e]; rfl
  have HV := Lib.hid hv
  clear hv
  have hb := byte_lt p[0]
  go_enter Tryd.func18, Tryd.ntmps18
  go_wp2
  go_ret
  exact ⟨ret_i (by rw [HV.out]), Below.refl _ _⟩
set_option maxRecDepth 100000 in
set_option maxHeartbeats 1000000 in
theorem value2_c (p : ByteArray) (hs : p.size = 2) (w : World) :
    Calls Tryd.prog 18 #[.string p] w fun e w' => e = .returned (.int .i64 (valL p.data.toList)) ∧ Below w.heap.size w w' := by
  have hv : valL p.data.toList = p[0].toNat % 32 * 64 + low6 p[1] := by
    have e := list_at (p := p) 0 (by omega)
    rw [List.drop_zero, list_at 1 (by omega), list_n 2 hs] at e; rw [e]; rfl
  have hb := byte_lt p[0]
  have b1 := byte_lt p[1]
  have l1 := lt6 p[1]
  have e1 := i_low6 p[1]
  obtain ⟨m0, hm0⟩ : ∃ m, p[0].toNat % 32 = m := ⟨_, rfl⟩
  have e0 : bits .and .i64 (p[0].toNat : Int) 31 = ((m0 : Nat) : Int) := by rw [← hm0]; exact i64_mask p[0].toNat 5 31 (by decide) (by decide) (by omega)
  have k0 : m0 < 32 := by omega
  obtain ⟨m1, hm1⟩ : ∃ m, m0 * 64 + low6 p[1] = m := ⟨_, rfl⟩
  have o1 : bits .or .i64 ((m0 : Int) * 64) (low6 p[1] : Int) = ((m1 : Nat) : Int) := by rw [← hm1]; exact i64_or6 m0 _ (by omega) l1
  have k1 : m1 < 2048 := by omega
  have HV := Lib.hid (show m1 = valL p.data.toList by rw [hv, ← hm1, ← hm0])
  clear hv hm0 hm1
  have kk0 : (m0 : Int) < 32 := by omega
  clear k0
  have kk1 : (m1 : Int) < 2048 := by omega
  clear k1
  go_enter Tryd.func18, Tryd.ntmps18
  go_wp2
  go_quiet (fail)
  go_wp2
  refine wp_loop_rounds 2 ?_
  rw [rounds_succ]
  go_wp2
  rw [rounds_succ]
  go_wp2
  go_ret
  exact ⟨ret_i (by rw [← HV.out]), below_dn (Below.refl _ _) _⟩
set_option maxRecDepth 100000 in
set_option maxHeartbeats 1000000 in
theorem value3_c (p : ByteArray) (hs : p.size = 3) (w : World) :
    Calls Tryd.prog 18 #[.string p] w fun e w' => e = .returned (.int .i64 (valL p.data.toList)) ∧ Below w.heap.size w w' := by
  have hv : valL p.data.toList = (p[0].toNat % 16 * 64 + low6 p[1]) * 64 + low6 p[2] := by
    have e := list_at (p := p) 0 (by omega)
    rw [List.drop_zero, list_at 1 (by omega), list_at 2 (by omega), list_n 3 hs] at e; rw [e]; rfl
  have hb := byte_lt p[0]
  have b1 := byte_lt p[1]
  have l1 := lt6 p[1]
  have e1 := i_low6 p[1]
  have b2 := byte_lt p[2]
  have l2 := lt6 p[2]
  have e2 := i_low6 p[2]
  obtain ⟨m0, hm0⟩ : ∃ m, p[0].toNat % 16 = m := ⟨_, rfl⟩
  have e0 : bits .and .i64 (p[0].toNat : Int) 15 = ((m0 : Nat) : Int) := by rw [← hm0]; exact i64_mask p[0].toNat 4 15 (by decide) (by decide) (by omega)
  have k0 : m0 < 16 := by omega
  obtain ⟨m1, hm1⟩ : ∃ m, m0 * 64 + low6 p[1] = m := ⟨_, rfl⟩
  have o1 : bits .or .i64 ((m0 : Int) * 64) (low6 p[1] : Int) = ((m1 : Nat) : Int) := by rw [← hm1]; exact i64_or6 m0 _ (by omega) l1
  have k1 : m1 < 1024 := by omega
  obtain ⟨m2, hm2⟩ : ∃ m, m1 * 64 + low6 p[2] = m := ⟨_, rfl⟩
  have o2 : bits .or .i64 ((m1 : Int) * 64) (low6 p[2] : Int) = ((m2 : Nat) : Int) := by rw [← hm2]; exact i64_or6 m1 _ (by omega) l2
  have k2 : m2 < 65536 := by omega
  have HV := Lib.hid (show m2 = valL p.data.toList by rw [hv, ← hm2, ← hm1, ← hm0])
  clear hv hm0 hm1 hm2
  have kk0 : (m0 : Int) < 16 := by omega
  clear k0
  have kk1 : (m1 : Int) < 1024 := by omega
  clear k1
  have kk2 : (m2 : Int) < 65536 := by omega
  clear k2
  go_enter Tryd.func18, Tryd.ntmps18
  go_wp2
  go_quiet (fail)
  go_wp2
  refine wp_loop_rounds 3 ?_
  rw [rounds_succ]
  go_wp2
  rw [rounds_succ]
  go_wp2
  rw [rounds_succ]
  go_wp2
  go_ret
  exact ⟨ret_i (by rw [← HV.out]), below_dn (Below.refl _ _) _⟩
set_option maxRecDepth 100000 in
set_option maxHeartbeats 1000000 in
theorem value4_c (p : ByteArray) (hs : p.size = 4) (w : World) :
    Calls Tryd.prog 18 #[.string p] w fun e w' => e = .returned (.int .i64 (valL p.data.toList)) ∧ Below w.heap.size w w' := by
  have hv : valL p.data.toList = ((p[0].toNat % 8 * 64 + low6 p[1]) * 64 + low6 p[2]) * 64 + low6 p[3] := by
    have e := list_at (p := p) 0 (by omega)
    rw [List.drop_zero, list_at 1 (by omega), list_at 2 (by omega), list_at 3 (by omega), list_n 4 hs] at e; rw [e]; rfl
  have hb := byte_lt p[0]
  have b1 := byte_lt p[1]
  have l1 := lt6 p[1]
  have e1 := i_low6 p[1]
  have b2 := byte_lt p[2]
  have l2 := lt6 p[2]
  have e2 := i_low6 p[2]
  have b3 := byte_lt p[3]
  have l3 := lt6 p[3]
  have e3 := i_low6 p[3]
  obtain ⟨m0, hm0⟩ : ∃ m, p[0].toNat % 8 = m := ⟨_, rfl⟩
  have e0 : bits .and .i64 (p[0].toNat : Int) 7 = ((m0 : Nat) : Int) := by rw [← hm0]; exact i64_mask p[0].toNat 3 7 (by decide) (by decide) (by omega)
  have k0 : m0 < 8 := by omega
  obtain ⟨m1, hm1⟩ : ∃ m, m0 * 64 + low6 p[1] = m := ⟨_, rfl⟩
  have o1 : bits .or .i64 ((m0 : Int) * 64) (low6 p[1] : Int) = ((m1 : Nat) : Int) := by rw [← hm1]; exact i64_or6 m0 _ (by omega) l1
  have k1 : m1 < 512 := by omega
  obtain ⟨m2, hm2⟩ : ∃ m, m1 * 64 + low6 p[2] = m := ⟨_, rfl⟩
  have o2 : bits .or .i64 ((m1 : Int) * 64) (low6 p[2] : Int) = ((m2 : Nat) : Int) := by rw [← hm2]; exact i64_or6 m1 _ (by omega) l2
  have k2 : m2 < 32768 := by omega
  obtain ⟨m3, hm3⟩ : ∃ m, m2 * 64 + low6 p[3] = m := ⟨_, rfl⟩
  have o3 : bits .or .i64 ((m2 : Int) * 64) (low6 p[3] : Int) = ((m3 : Nat) : Int) := by rw [← hm3]; exact i64_or6 m2 _ (by omega) l3
  have k3 : m3 < 2097152 := by omega
  have HV := Lib.hid (show m3 = valL p.data.toList by rw [hv, ← hm3, ← hm2, ← hm1, ← hm0])
  clear hv hm0 hm1 hm2 hm3
  have kk0 : (m0 : Int) < 8 := by omega
  clear k0
  have kk1 : (m1 : Int) < 512 := by omega
  clear k1
  have kk2 : (m2 : Int) < 32768 := by omega
  clear k2
  have kk3 : (m3 : Int) < 2097152 := by omega
  clear k3
  go_enter Tryd.func18, Tryd.ntmps18
  go_wp2
  go_quiet (fail)
  go_wp2
  refine wp_loop_rounds 4 ?_
  rw [rounds_succ]
  go_wp2
  rw [rounds_succ]
  go_wp2
  rw [rounds_succ]
  go_wp2
  rw [rounds_succ]
  go_wp2
  go_ret
  exact ⟨ret_i (by rw [← HV.out]), below_dn (Below.refl _ _) _⟩

theorem value_c (p : ByteArray) (h1 : 1 ≤ p.size) (h4 : p.size ≤ 4) (w : World) :
    Calls Tryd.prog 18 #[.string p] w fun e w' => e = .returned (.int .i64 (valL p.data.toList)) ∧ Below w.heap.size w w' := by
  have : p.size = 1 ∨ p.size = 2 ∨ p.size = 3 ∨ p.size = 4 := by omega
  rcases this with h | h | h | h
  · exact value1_c p h w
  · exact value2_c p h w
  · exact value3_c p h w
  · exact value4_c p h w

/-- what Encode answers -/
def encR (r : Int) : Value := if decide (0 ≤ r) && pointN r.toNat then .tuple #[.string (S (encL r.toNat)), .int .i64 0] else .tuple #[.string ⟨#[]⟩, .int .i64 4]
theorem encR_ok {r : Nat} (h : pointN r = true) : encR r = .tuple #[.string (S (encL r)), .int .i64 0] := by simp [encR, h]
theorem encR_bad {r : Int} (h : (decide (0 ≤ r) && pointN r.toNat) = false) : encR r = .tuple #[.string ⟨#[]⟩, .int .i64 4] := by simp only [encR, h, Bool.false_eq_true, if_false]

set_option maxHeartbeats 400000 in
theorem encBad_c (r : Int) (h : (decide (0 ≤ r) && pointN r.toNat) = false) (w : World) :
    Calls Tryd.prog 11 #[.int .i64 r] w fun e w' => e = .returned (encR r) ∧ Below w.heap.size w w' := by
  have HE := Lib.hid (encR_bad h)
  have c := fun w => (point_c r w).mono (R' := fun e w' => e = .returned (.bool false) ∧ w = w') fun e w' ⟨h1, h2⟩ => ⟨h1.trans (ret_b h), h2⟩
  have C := Lib.hid c
  clear c h
  go_enter Tryd.func11, Tryd.ntmps11
  go_wp2_with (go_at_call 17; refine (C.out _).mono ?_; rintro e w' ⟨rfl, rfl⟩)
  go_ret2
  exact ⟨ret_v HE.out, Below.refl _ _⟩
set_option maxHeartbeats 400000 in
theorem rencBad_c (r : Int) (h : (decide (0 ≤ r) && pointN r.toNat) = false) (w : World) :
    Calls Tryd.prog 12 #[.int .i64 r] w fun e w' => e = .returned (encR r) ∧ Below w.heap.size w w' := by
  have HE := Lib.hid (encR_bad h)
  have c := fun w => (rpoint_c r w).mono (R' := fun e w' => e = .returned (.bool false) ∧ w = w') fun e w' ⟨h1, h2⟩ => ⟨h1.trans (ret_b h), h2⟩
  have C := Lib.hid c
  clear c h
  go_enter Tryd.func12, Tryd.ntmps12
  go_wp2_with (go_at_call 19; refine (C.out _).mono ?_; rintro e w' ⟨rfl, rfl⟩)
  go_ret2
  exact ⟨ret_v HE.out, Below.refl _ _⟩

theorem encode_c (r : Int) (w : World) (hf : Forms w) :
    Calls Tryd.prog 11 #[.int .i64 r] w fun e w' => e = .returned (encR r) ∧ Below w.heap.size w w' := by
  by_cases h : (decide (0 ≤ r) && pointN r.toNat) = true
  · have h' := h
    simp only [Bool.and_eq_true, decide_eq_true_eq] at h'
    obtain ⟨n, rfl⟩ : ∃ n : Nat, r = n := ⟨r.toNat, by omega⟩
    have hp : pointN n = true := by simpa using h'.2
    have hp' := hp
    simp only [pointN, Bool.and_eq_true, decide_eq_true_eq] at hp'
    rw [encR_ok hp]
    by_cases h1 : n < 128
    · exact encode0_c n (by omega) hp w hf
    · by_cases h2 : n < 2048
      · exact encode1_c n (by omega) (by omega) hp w hf
      · by_cases h3 : n < 65536
        · exact encode2_c n (by omega) (by omega) hp w hf
        · exact encode3_c n (by omega) (by omega) hp w hf
  · exact encBad_c r (by simpa using h) w
theorem rEncode_c (r : Int) (w : World) :
    Calls Tryd.prog 12 #[.int .i64 r] w fun e w' => e = .returned (encR r) ∧ Below w.heap.size w w' := by
  by_cases h : (decide (0 ≤ r) && pointN r.toNat) = true
  · have h' := h
    simp only [Bool.and_eq_true, decide_eq_true_eq] at h'
    obtain ⟨n, rfl⟩ : ∃ n : Nat, r = n := ⟨r.toNat, by omega⟩
    have hp : pointN n = true := by simpa using h'.2
    have hp' := hp
    simp only [pointN, Bool.and_eq_true, decide_eq_true_eq] at hp'
    rw [encR_ok hp]
    by_cases h1 : n < 128
    · exact rEncode0_c n (by omega) hp w
    · by_cases h2 : n < 2048
      · exact rEncode1_c n (by omega) (by omega) hp w
      · by_cases h3 : n < 65536
        · exact rEncode2_c n (by omega) (by omega) hp w
        · exact rEncode3_c n (by omega) (by omega) hp w
  · exact rencBad_c r (by simpa using h) w
end Go.Proofs.YtgkcjpidekefoaaDoor
