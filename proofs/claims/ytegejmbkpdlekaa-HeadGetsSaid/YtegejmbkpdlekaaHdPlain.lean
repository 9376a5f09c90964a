/- What Parse reads of a head: plain law (chapter 18). -/
import Derived.Test.YtegejmbkpdlekaaHdRStat
import Derived.Test.YtegejmbkpdlekaaWlMem
namespace Go.Proofs.Ytegejmbkpdlekaa
open Go.RowKit
def endL : List UInt8 := [13, 10, 13, 10]
/-- one line of a field -/
def lineP (l : List UInt8) : Option Fld :=
  if (Lib.cut l [58]).2.2 && nameB (Lib.cut l [58]).1 && valueB (Lib.cut l [58]).2.1 then some (lowerL (Lib.cut l [58]).1, trimL (Lib.cut l [58]).2.1) else none
/-- the fields -/
def hdrF : Nat → Nat → List UInt8 → Bool → Except Nat (List Fld)
  | 0, _, _, _ => .error 0
  | n + 1, k, r, m =>
    if m = false then .ok []
    else if 64 ≤ k then .error 161
    else match lineP (lineL r) with
      | none => .error 180
      | some f => match hdrF n (k + 1) (restL r) (moreL r) with
        | .error c => .error c
        | .ok fs => .ok (f :: fs)
def finH (mi st n : Nat) (x : Except Nat (List Fld)) : Except Nat (Nat × Nat × List Fld × Nat) :=
  match x with
  | .error c => .error c
  | .ok fs => .ok (mi, st, fs, n + 4)
/-- minor number, status, fields, where the head ends -/
def headL (s : List UInt8) : Except Nat (Nat × Nat × List Fld × Nat) :=
  if Lib.index (s.take 16384) endL < 0 then .error (if 16384 < s.length then 142 else 191)
  else match statusL (lineL (s.take (Lib.index (s.take 16384) endL).toNat)) with
    | none => .error 180
    | some (mi, st) =>
      finH mi st (Lib.index (s.take 16384) endL).toNat (hdrF (s.length + 3) 0 (restL (s.take (Lib.index (s.take 16384) endL).toNat)) (moreL (s.take (Lib.index (s.take 16384) endL).toNat)))
/-- what was read already, put ahead -/
def preH (acc : List Fld) (x : Except Nat (List Fld)) : Except Nat (List Fld) :=
  match x with
  | .error c => .error c
  | .ok fs => .ok (acc ++ fs)
theorem preH_nil (x : Except Nat (List Fld)) : preH [] x = x := by cases x <;> rfl
theorem cut_len (l p : List UInt8) : (Lib.cut l p).1.length ≤ l.length ∧ (Lib.cut l p).2.1.length ≤ l.length := by
  unfold Lib.cut
  split
  · simp only [List.length_take, List.length_drop]; omega
  · simp
theorem cut_rest {l p : List UInt8} (hp : 0 < p.length) (h : (Lib.cut l p).2.2 = true) : (Lib.cut l p).2.1.length < l.length := by
  unfold Lib.cut at *
  split at h
  · rename_i hi
    rw [if_pos hi]
    have := Lib.index_room l p hi
    simp only [List.length_drop]; omega
  · cases h
section
variable {acc : List Fld} {n : Nat} {r : List UInt8} {m : Bool} {X : Except Nat (List Fld)}
theorem hd_end (h : 0 < n) (hm : m = false) (H : preH acc (hdrF n acc.length r m) = X) : X = .ok acc := by
  obtain ⟨n, rfl⟩ : ∃ k, n = k + 1 := ⟨n - 1, by omega⟩
  rw [← H, hdrF, if_pos hm]; simp [preH]
theorem hd_many (h : 0 < n) (hm : m = true) (h64 : 64 ≤ acc.length) (H : preH acc (hdrF n acc.length r m) = X) : X = .error 161 := by
  obtain ⟨n, rfl⟩ : ∃ k, n = k + 1 := ⟨n - 1, by omega⟩
  rw [← H, hdrF, if_neg (by simp [hm]), if_pos h64]; rfl
theorem hd_bad (h : 0 < n) (hm : m = true) (h64 : ¬ 64 ≤ acc.length) (hl : lineP (lineL r) = none) (H : preH acc (hdrF n acc.length r m) = X) : X = .error 180 := by
  obtain ⟨n, rfl⟩ : ∃ k, n = k + 1 := ⟨n - 1, by omega⟩
  rw [← H, hdrF, if_neg (by simp [hm]), if_neg h64, hl]; rfl
theorem hd_next {f : Fld} (h : 0 < n) (hm : m = true) (h64 : ¬ 64 ≤ acc.length) (hl : lineP (lineL r) = some f) (H : preH acc (hdrF n acc.length r m) = X) : preH (acc ++ [f]) (hdrF (n - 1) (acc ++ [f]).length (restL r) (moreL r)) = X := by
  obtain ⟨n, rfl⟩ : ∃ k, n = k + 1 := ⟨n - 1, by omega⟩
  rw [← H, hdrF, if_neg (by simp [hm]), if_neg h64, hl]
  rw [show (acc ++ [f]).length = acc.length + 1 by simp, Nat.add_sub_cancel]
  cases hdrF n (acc.length + 1) (restL r) (moreL r) with
  | error c => rfl
  | ok fs => simp [preH]
end
theorem line_no {l : List UInt8} (h : (Lib.cut l [58]).2.2 = false) : lineP l = none := by unfold lineP; rw [h]; rfl
theorem line_name {l : List UInt8} (h : nameB (Lib.cut l [58]).1 = false) : lineP l = none := by unfold lineP; rw [h]; simp
theorem line_value {l : List UInt8} (h : valueB (Lib.cut l [58]).2.1 = false) : lineP l = none := by unfold lineP; rw [h]; simp
theorem line_ok {l : List UInt8} (h1 : (Lib.cut l [58]).2.2 = true) (h2 : nameB (Lib.cut l [58]).1 = true) (h3 : valueB (Lib.cut l [58]).2.1 = true) : lineP l = some (lowerL (Lib.cut l [58]).1, trimL (Lib.cut l [58]).2.1) := by
  unfold lineP; rw [h1, h2, h3]; rfl
/-- what Parse answers -/
def HR (w w' : World) (X : Except Nat (Nat × Nat × List Fld × Nat)) (e : Ending) : Prop :=
  (∃ c : Nat, X = .error c ∧ e = .returned (.tuple #[.agg #[.int .i64 0, .int .i64 0, .slice none 0 0], .int .i64 0, .int .i64 (c : Int)])) ∨
  ∃ mi st fs to v, X = .ok (mi, st, fs, to) ∧ e = .returned (.tuple #[.agg #[.int .i64 (mi : Nat), .int .i64 (st : Nat), v], .int .i64 (to : Nat), .int .i64 0]) ∧ Flds w' w.heap.size v fs
end Go.Proofs.Ytegejmbkpdlekaa
