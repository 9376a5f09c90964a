/- Contracts of Strict, program and reference (chapter 4). -/
import Derived.Test.YtegejmbkpdlekaaNumRef
namespace Go.Proofs.Ytegejmbkpdlekaa
open Go.RowKit

set_option maxHeartbeats 1000000 in
theorem strict_c (s : ByteArray) (hs : s.size ≤ 1000000) (most : Nat) (hm : U most) (w : World) :
    Calls Try.prog 79 #[.string s, .int .u64 most] w
      fun e w' => e = .returned (.tuple #[.int .u64 (strictL most s.data.toList).1, .int .i64 (strictL most s.data.toList).2]) ∧ w = w' := by
  have HM := Lib.hid hm
  clear hm
  by_cases hd : digitsL s.data.toList = true
  · by_cases h1 : 1 < s.size
    · by_cases h0 : s[0].toNat = 48
      · have HS := Lib.hid (strict_form (most := most) hd h1 h0)
        rw [HS.out]
        have h0' : ((s[0].toNat : Int) == 48) = true := by rw [h0]; rfl
        clear h0
        go_enter Try.func79, Try.ntmps79
        go_wp2_with fail
        refine (digits_c s hs _).mono ?_
        rintro e w' ⟨rfl, rfl⟩
        go_wp2_with fail
        go_ret2
        exact ⟨rfl, rfl⟩
      · have HS := Lib.hid (strict_else (most := most) (s := s) (by rintro ⟨_, _, h⟩; exact h0 h))
        rw [HS.out]
        have h0' : ((s[0].toNat : Int) == 48) = false := by simp; omega
        clear h0
        go_enter Try.func79, Try.ntmps79
        go_wp2_with fail
        refine (digits_c s hs _).mono ?_
        rintro e w' ⟨rfl, rfl⟩
        go_wp2_with fail
        refine (nParse_c s hs most HM.out _).mono ?_
        rintro e w' ⟨rfl, rfl⟩
        go_wp2_with fail
        go_ret2
        exact ⟨rfl, rfl⟩
    · have HS := Lib.hid (strict_else (most := most) (s := s) (by rintro ⟨_, h, _⟩; exact h1 h))
      rw [HS.out]
      go_enter Try.func79, Try.ntmps79
      go_wp2_with fail
      refine (digits_c s hs _).mono ?_
      rintro e w' ⟨rfl, rfl⟩
      go_wp2_with fail
      refine (nParse_c s hs most HM.out _).mono ?_
      rintro e w' ⟨rfl, rfl⟩
      go_wp2_with fail
      go_ret2
      exact ⟨rfl, rfl⟩
  · have HS := Lib.hid (strict_else (most := most) (s := s) (by rintro ⟨h, _⟩; exact hd h))
    rw [HS.out]
    have hd' : digitsL s.data.toList = false := by simpa using hd
    clear hd
    go_enter Try.func79, Try.ntmps79
    go_wp2_with fail
    refine (digits_c s hs _).mono ?_
    rintro e w' ⟨rfl, rfl⟩
    go_wp2_with fail
    refine (nParse_c s hs most HM.out _).mono ?_
    rintro e w' ⟨rfl, rfl⟩
    go_wp2_with fail
    go_ret2
    exact ⟨rfl, rfl⟩

end Go.Proofs.Ytegejmbkpdlekaa
