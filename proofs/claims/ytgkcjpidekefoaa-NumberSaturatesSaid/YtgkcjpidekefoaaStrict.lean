/- Contracts of Strict, program and reference (chapter 4). -/
import Derived.Test.YtgkcjpidekefoaaNumRef
namespace Go.Proofs.Ytgkcjpidekefoaa
open Go.RowKit

set_option maxHeartbeats 1000000 in
theorem strict_c (s : ByteArray) (hs : s.size ≤ 1000000) (most : Nat) (hm : U most) (w : World) :
    Calls Try.prog 39 #[.string s, .int .u64 most] w
      fun e w' => e = .returned (.tuple #[.int .u64 (strictL most s.data.toList).1, .int .i64 (strictL most s.data.toList).2]) ∧ w = w' := by
  have HM := Lib.hid hm
  clear hm
  by_cases hd : digitsL s.data.toList = true
  · by_cases h1 : 1 < s.size
    · by_cases h0 : s[0].toNat = 48
      · have HS := Lib.hid (strict_form (most := most) hd h1 h0)
        rw [HS.out]
        have h0' : ((s[0].toNat : Int) == 48) = true := by rw [h0]; rfl
        clear h0
        go_enter Try.func39, Try.ntmps39
        go_wp2_with fail
        refine (digits_c s hs _).mono ?_
        rintro e w' ⟨rfl, rfl⟩
        go_wp2_with fail
        go_ret2
        exact ⟨rfl, rfl⟩
      · have HS := Lib.hid (strict_else (most := most) (s := s) (by rintro ⟨_, _, h⟩; exact h0 h))
        rw [HS.out]
        have h0' : ((s[0].toNat : Int) == 48) = false := by simp; omega
        clear h0
        go_enter Try.func39, Try.ntmps39
        go_wp2_with fail
        refine (digits_c s hs _).mono ?_
        rintro e w' ⟨rfl, rfl⟩
        go_wp2_with fail
        refine (nParse_c s hs most HM.out _).mono ?_
        rintro e w' ⟨rfl, rfl⟩
        go_wp2_with fail
        go_ret2
        exact ⟨rfl, rfl⟩
    · have HS := Lib.hid (strict_else (most := most) (s := s) (by rintro ⟨_, h, _⟩; exact h1 h))
      rw [HS.out]
      go_enter Try.func39, Try.ntmps39
      go_wp2_with fail
      refine (digits_c s hs _).mono ?_
      rintro e w' ⟨rfl, rfl⟩
      go_wp2_with fail
      refine (nParse_c s hs most HM.out _).mono ?_
      rintro e w' ⟨rfl, rfl⟩
      go_wp2_with fail
      go_ret2
      exact ⟨rfl, rfl⟩
  · have HS := Lib.hid (strict_else (most := most) (s := s) (by rintro ⟨h, _⟩; exact hd h))
    rw [HS.out]
    have hd' : digitsL s.data.toList = false := by simpa using hd
    clear hd
    go_enter Try.func39, Try.ntmps39
    go_wp2_with fail
    refine (digits_c s hs _).mono ?_
    rintro e w' ⟨rfl, rfl⟩
    go_wp2_with fail
    refine (nParse_c s hs most HM.out _).mono ?_
    rintro e w' ⟨rfl, rfl⟩
    go_wp2_with fail
    go_ret2
    exact ⟨rfl, rfl⟩

set_option maxHeartbeats 1000000 in
theorem rStrict_c (s : ByteArray) (hs : s.size ≤ 1000000) (most : Nat) (hm : U most) (w : World) :
    Calls Try.prog 43 #[.string s, .int .u64 most] w
      fun e w' => e = .returned (.tuple #[.int .u64 (strictL most s.data.toList).1, .int .i64 (strictL most s.data.toList).2]) ∧ w = w' := by
  have HM := Lib.hid hm
  clear hm
  by_cases hd : digitsL s.data.toList = true
  · by_cases h1 : 1 < s.size
    · by_cases h0 : s[0].toNat = 48
      · have HS := Lib.hid (strict_form (most := most) hd h1 h0)
        rw [HS.out]
        have h0' : ((s[0].toNat : Int) == 48) = true := by rw [h0]; rfl
        rcases parse_kind (most := most) hd with h | h
        · have k0 : ((((parseL digitN 10 most s.data.toList).2 : Nat) : Int) == 0) = true := by rw [h]; rfl
          have k4 : ((((parseL digitN 10 most s.data.toList).2 : Nat) : Int) == 4) = false := by rw [h]; rfl
          clear h h0 hd HS
          go_enter Try.func43, Try.ntmps43
          go_wp2_with fail
          refine (rparse10_c s hs most HM.out _).mono ?_
          rintro e w' ⟨rfl, rfl⟩
          go_wp2_with fail
          go_ret2
          exact ⟨rfl, rfl⟩
        · have k0 : ((((parseL digitN 10 most s.data.toList).2 : Nat) : Int) == 0) = false := by rw [h]; rfl
          have k4 : ((((parseL digitN 10 most s.data.toList).2 : Nat) : Int) == 4) = true := by rw [h]; rfl
          clear h h0 hd HS
          go_enter Try.func43, Try.ntmps43
          go_wp2_with fail
          refine (rparse10_c s hs most HM.out _).mono ?_
          rintro e w' ⟨rfl, rfl⟩
          go_wp2_with fail
          go_ret2
          exact ⟨rfl, rfl⟩
      · have HS := Lib.hid (strict_else (most := most) (s := s) (by rintro ⟨_, _, h⟩; exact h0 h))
        rw [HS.out]
        have h0' : ((s[0].toNat : Int) == 48) = false := by simp; omega
        rcases parse_kind (most := most) hd with h | h
        · have k0 : ((((parseL digitN 10 most s.data.toList).2 : Nat) : Int) == 0) = true := by rw [h]; rfl
          have k4 : ((((parseL digitN 10 most s.data.toList).2 : Nat) : Int) == 4) = false := by rw [h]; rfl
          clear h h0 hd HS
          go_enter Try.func43, Try.ntmps43
          go_wp2_with fail
          refine (rparse10_c s hs most HM.out _).mono ?_
          rintro e w' ⟨rfl, rfl⟩
          go_wp2_with fail
          go_ret2
          exact ⟨rfl, rfl⟩
        · have k0 : ((((parseL digitN 10 most s.data.toList).2 : Nat) : Int) == 0) = false := by rw [h]; rfl
          have k4 : ((((parseL digitN 10 most s.data.toList).2 : Nat) : Int) == 4) = true := by rw [h]; rfl
          clear h h0 hd HS
          go_enter Try.func43, Try.ntmps43
          go_wp2_with fail
          refine (rparse10_c s hs most HM.out _).mono ?_
          rintro e w' ⟨rfl, rfl⟩
          go_wp2_with fail
          go_ret2
          exact ⟨rfl, rfl⟩
    · have HS := Lib.hid (strict_else (most := most) (s := s) (by rintro ⟨_, h, _⟩; exact h1 h))
      rw [HS.out]
      rcases parse_kind (most := most) hd with h | h
      · have k0 : ((((parseL digitN 10 most s.data.toList).2 : Nat) : Int) == 0) = true := by rw [h]; rfl
        have k4 : ((((parseL digitN 10 most s.data.toList).2 : Nat) : Int) == 4) = false := by rw [h]; rfl
        clear h hd HS
        go_enter Try.func43, Try.ntmps43
        go_wp2_with fail
        refine (rparse10_c s hs most HM.out _).mono ?_
        rintro e w' ⟨rfl, rfl⟩
        go_wp2_with fail
        go_ret2
        exact ⟨rfl, rfl⟩
      · have k0 : ((((parseL digitN 10 most s.data.toList).2 : Nat) : Int) == 0) = false := by rw [h]; rfl
        have k4 : ((((parseL digitN 10 most s.data.toList).2 : Nat) : Int) == 4) = true := by rw [h]; rfl
        clear h hd HS
        go_enter Try.func43, Try.ntmps43
        go_wp2_with fail
        refine (rparse10_c s hs most HM.out _).mono ?_
        rintro e w' ⟨rfl, rfl⟩
        go_wp2_with fail
        go_ret2
        exact ⟨rfl, rfl⟩
  · have HS := Lib.hid (strict_else (most := most) (s := s) (by rintro ⟨h, _⟩; exact hd h))
    rw [HS.out]
    have hd' : digitsL s.data.toList = false := by simpa using hd
    rcases parse_kind' (most := most) hd' with h | h
    · have k0 : ((((parseL digitN 10 most s.data.toList).2 : Nat) : Int) == 0) = false := by rw [h]; rfl
      have k4 : ((((parseL digitN 10 most s.data.toList).2 : Nat) : Int) == 4) = false := by rw [h]; rfl
      clear h hd hd' HS
      go_enter Try.func43, Try.ntmps43
      go_wp2_with fail
      refine (rparse10_c s hs most HM.out _).mono ?_
      rintro e w' ⟨rfl, rfl⟩
      go_wp2_with fail
      go_ret2
      exact ⟨rfl, rfl⟩
    · have k0 : ((((parseL digitN 10 most s.data.toList).2 : Nat) : Int) == 0) = false := by rw [h]; rfl
      have k4 : ((((parseL digitN 10 most s.data.toList).2 : Nat) : Int) == 4) = false := by rw [h]; rfl
      clear h hd hd' HS
      go_enter Try.func43, Try.ntmps43
      go_wp2_with fail
      refine (rparse10_c s hs most HM.out _).mono ?_
      rintro e w' ⟨rfl, rfl⟩
      go_wp2_with fail
      go_ret2
      exact ⟨rfl, rfl⟩
end Go.Proofs.Ytgkcjpidekefoaa
