/- A media type: plain (chapter 20). -/
import Derived.Test.YtaopehogpdgkgaaGreatParamRef
namespace Go.Proofs.YtaopehogpdgkgaaGreat
open Go.RowKit
/-- one parameter, behind the semicolon -/
def mpar (l : List UInt8) : Option (Fld × List UInt8) :=
  match tokO (blankL l) with
  | none => none
  | some (nm, r) => match r with
    | [] => none
    | c :: t => if c.toNat = 61 then (valueL t).map fun y => ((lowerL nm, y.1), y.2) else none
/-- the parameters -/
def mparsF : Nat → List UInt8 → Option (List Fld)
  | 0, _ => none
  | n + 1, l => match blankL l with
    | [] => some []
    | c :: t => if c.toNat = 59 then match mpar t with
        | none => none
        | some (f, r) => (mparsF n r).map (f :: ·)
      else none
/-- type and subtype, and the rest -/
def mtype (l : List UInt8) : Option (List UInt8 × List UInt8 × List UInt8) :=
  match tokO (blankL l) with
  | none => none
  | some (a, r) => match r with
    | [] => none
    | c :: t => if c.toNat = 47 then (tokO t).map fun y => (lowerL a, lowerL y.1, y.2) else none
/-- type, subtype, parameters -/
def mediaL (l : List UInt8) : Option (List UInt8 × List UInt8 × List Fld) :=
  match mtype l with
  | none => none
  | some (a, b, r) => (mparsF (l.length + 1) r).map fun fs => (a, b, fs)
/-- what was read already, put ahead -/
def preM (acc : List Fld) (x : Option (List Fld)) : Option (List Fld) := x.map (acc ++ ·)
theorem preM_nil (x : Option (List Fld)) : preM [] x = x := by cases x <;> rfl
theorem preM_cons (acc : List Fld) (f : Fld) (x : Option (List Fld)) : preM acc (x.map (f :: ·)) = preM (acc ++ [f]) x := by
  cases x <;> simp [preM]
section
variable {s : ByteArray} {acc : List Fld} {n j : Nat} {l : List UInt8} {X : Option (List Fld)}
theorem md_end (hn : 0 < n) (hl : s.data.toList.drop j = blankL l) (h : ¬ j < s.size) (H : preM acc (mparsF n l) = X) : X = some acc := by
  obtain ⟨n, rfl⟩ : ∃ k, n = k + 1 := ⟨n - 1, by omega⟩
  rw [drop_end s j h] at hl
  rw [← H, mparsF, ← hl]; simp [preM]
theorem md_no (hn : 0 < n) (hl : s.data.toList.drop j = blankL l) (h : j < s.size) (hc : ¬ s[j].toNat = 59) (H : preM acc (mparsF n l) = X) : X = none := by
  obtain ⟨n, rfl⟩ : ∃ k, n = k + 1 := ⟨n - 1, by omega⟩
  rw [drop_cons s j h] at hl
  rw [← H, mparsF, ← hl]; simp only [hc, if_false]; rfl
theorem md_bad (hn : 0 < n) (hl : s.data.toList.drop j = blankL l) (h : j < s.size) (hc : s[j].toNat = 59) (hp : mpar (s.data.toList.drop (j + 1)) = none) (H : preM acc (mparsF n l) = X) : X = none := by
  obtain ⟨n, rfl⟩ : ∃ k, n = k + 1 := ⟨n - 1, by omega⟩
  rw [drop_cons s j h] at hl
  rw [← H, mparsF, ← hl]; simp only [hc, if_true, hp]; rfl
theorem md_step {f : Fld} {r : List UInt8} (hn : 0 < n) (hl : s.data.toList.drop j = blankL l) (h : j < s.size) (hc : s[j].toNat = 59) (hp : mpar (s.data.toList.drop (j + 1)) = some (f, r)) (H : preM acc (mparsF n l) = X) : preM (acc ++ [f]) (mparsF (n - 1) r) = X := by
  obtain ⟨n, rfl⟩ : ∃ k, n = k + 1 := ⟨n - 1, by omega⟩
  rw [drop_cons s j h] at hl
  rw [← H, mparsF, ← hl]; simp only [hc, if_true, hp, Nat.add_sub_cancel]
  rw [preM_cons]
end
end Go.Proofs.YtaopehogpdgkgaaGreat
