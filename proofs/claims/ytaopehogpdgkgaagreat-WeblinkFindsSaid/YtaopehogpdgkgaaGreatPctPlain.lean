/- Percent-encoding in plain functions on lists of bytes: no program in sight. -/
import Derived.Test.YtaopehogpdgkgaaGreatNumPlain
namespace Go.Proofs.YtaopehogpdgkgaaGreat

def hexU (n : Nat) : UInt8 := UInt8.ofNat (if n < 10 then 48 + n else 55 + n)
/-- the escape of a byte -/
def escL (c : UInt8) : List UInt8 := [37, hexU (c.toNat / 16), hexU (c.toNat % 16)]
/-- the byte of the escape at the head of a list -/
def escAt (l : List UInt8) : Option UInt8 :=
  match l with
  | _ :: a :: b :: _ => if hexN a.toNat && hexN b.toNat then some (UInt8.ofNat (16 * hexV a.toNat + hexV b.toNat)) else none
  | _ => none
/-- a loop over a list: st gives the bytes that come out of the head and how many more bytes it takes, or an error -/
def runF (st : List UInt8 → Except Nat (List UInt8 × Nat)) : Nat → List UInt8 → Except Nat (List UInt8)
  | _, [] => .ok []
  | 0, _ :: _ => .error 0
  | f + 1, c :: t => match st (c :: t) with
    | .error e => .error e
    | .ok (o, n) => match runF st f (t.drop n) with
      | .error e => .error e
      | .ok r => .ok (o ++ r)
def runL (st : List UInt8 → Except Nat (List UInt8 × Nat)) (l : List UInt8) : Except Nat (List UInt8) := runF st l.length l
/-- with bytes ahead -/
def pre (acc : List UInt8) (x : Except Nat (List UInt8)) : Except Nat (List UInt8) :=
  match x with
  | .error e => .error e
  | .ok r => .ok (acc ++ r)
theorem pre_nil (x : Except Nat (List UInt8)) : pre [] x = x := by cases x <;> rfl
theorem pre_pre (a b : List UInt8) (x : Except Nat (List UInt8)) : pre a (pre b x) = pre (a ++ b) x := by cases x <;> simp [pre]
theorem run_fuel (st : List UInt8 → Except Nat (List UInt8 × Nat)) : ∀ (f : Nat) (l : List UInt8), l.length ≤ f → runF st f l = runL st l
  | f, [], _ => by cases f <;> rfl
  | 0, _ :: _, h => by simp at h
  | f + 1, c :: t, h => by
    simp only [runL, List.length_cons, runF]
    cases st (c :: t) with
    | error e => rfl
    | ok x =>
      obtain ⟨o, n⟩ := x
      simp only
      have hl : (t.drop n).length ≤ t.length := by rw [List.length_drop]; omega
      rw [run_fuel st f _ (by simp at h; omega), run_fuel st t.length _ hl]
  termination_by f => f
theorem run_nil (st : List UInt8 → Except Nat (List UInt8 × Nat)) : runL st [] = .ok [] := rfl
theorem run_err {st : List UInt8 → Except Nat (List UInt8 × Nat)} {c : UInt8} {t : List UInt8} {e : Nat} (h : st (c :: t) = .error e) : runL st (c :: t) = .error e := by
  simp only [runL, List.length_cons, runF, h]
theorem run_ok {st : List UInt8 → Except Nat (List UInt8 × Nat)} {c : UInt8} {t o : List UInt8} {n : Nat} (h : st (c :: t) = .ok (o, n)) : runL st (c :: t) = pre o (runL st (t.drop n)) := by
  conv => lhs; simp only [runL, List.length_cons, runF, h]
  rw [run_fuel st t.length _ (by rw [List.length_drop]; omega)]
  cases runL st (t.drop n) <;> rfl

def stD (l : List UInt8) : Except Nat (List UInt8 × Nat) :=
  match l with
  | [] => .ok ([], 0)
  | c :: _ => if c.toNat = 37 then (match escAt l with | none => .error 2 | some x => .ok ([x], 2)) else .ok ([c], 0)
def stE (keep l : List UInt8) : Except Nat (List UInt8 × Nat) :=
  match l with
  | [] => .ok ([], 0)
  | c :: _ => if unresN c.toNat || (c.toNat != 37 && memB keep c.toNat) then .ok ([c], 0) else .ok (escL c, 0)
def stN (also l : List UInt8) : Except Nat (List UInt8 × Nat) :=
  match l with
  | [] => .ok ([], 0)
  | c :: _ => if c.toNat = 37 then (match escAt l with | none => .error 2 | some x => .ok (if unresN x.toNat then [x] else escL x, 2))
    else if unresN c.toNat || memB also c.toNat then .ok ([c], 0) else .error 1
def decP (l : List UInt8) := runL stD l
def encP (keep l : List UInt8) := runL (stE keep) l
def normP (also l : List UInt8) := runL (stN also) l

section
variable {s : ByteArray} {k : Nat} {st : List UInt8 → Except Nat (List UInt8 × Nat)} {acc : List UInt8} {X : Except Nat (List UInt8)}
theorem run_step {o : List UInt8} {n : Nat} (hk : k < s.size) (h : st (s.data.toList.drop k) = .ok (o, n)) (H : pre acc (runL st (s.data.toList.drop k)) = X) : pre (acc ++ o) (runL st (s.data.toList.drop (k + 1 + n))) = X := by
  rw [drop_cons s k hk] at h H
  rw [← H, run_ok h, pre_pre, List.drop_drop]
theorem run_stop {e : Nat} (hk : k < s.size) (h : st (s.data.toList.drop k) = .error e) (H : pre acc (runL st (s.data.toList.drop k)) = X) : X = .error e := by
  rw [drop_cons s k hk] at h H
  rw [← H, run_err h]; rfl
theorem run_end (hk : ¬ k < s.size) (H : pre acc (runL st (s.data.toList.drop k)) = X) : X = .ok acc := by
  rw [drop_end s k hk, run_nil] at H
  rw [← H]; simp [pre]
end
theorem stD_plain {s : ByteArray} {k : Nat} (hk : k < s.size) (h : ¬ s[k].toNat = 37) : stD (s.data.toList.drop k) = .ok ([s[k]], 0) := by
  rw [drop_cons s k hk]; simp only [stD]; rw [if_neg h]
theorem stD_esc {s : ByteArray} {k : Nat} (hk : k < s.size) (h : s[k].toNat = 37) {x : UInt8} (hx : escAt (s.data.toList.drop k) = some x) : stD (s.data.toList.drop k) = .ok ([x], 2) := by
  rw [drop_cons s k hk] at hx ⊢; simp only [stD]; rw [if_pos h, hx]
theorem stD_bad {s : ByteArray} {k : Nat} (hk : k < s.size) (h : s[k].toNat = 37) (hx : escAt (s.data.toList.drop k) = none) : stD (s.data.toList.drop k) = .error 2 := by
  rw [drop_cons s k hk] at hx ⊢; simp only [stD]; rw [if_pos h, hx]
theorem esc_len {l : List UInt8} {x : UInt8} (h : escAt l = some x) : 3 ≤ l.length := by
  unfold escAt at h
  split at h
  · simp
  · cases h
theorem escAt_3 {s : ByteArray} {k : Nat} (h : k + 2 < s.size) : escAt (s.data.toList.drop k) = if hexN s[k + 1].toNat && hexN s[k + 2].toNat then some (UInt8.ofNat (16 * hexV s[k + 1].toNat + hexV s[k + 2].toNat)) else none := by
  rw [drop_cons s k (by omega), drop_cons s (k + 1) (by omega), drop_cons s (k + 2) h]; rfl
theorem escAt_short {s : ByteArray} {k : Nat} (h : ¬ k + 2 < s.size) : escAt (s.data.toList.drop k) = none := by
  cases he : escAt (s.data.toList.drop k) with
  | none => rfl
  | some x => have := esc_len he; rw [List.length_drop, size_toList] at this; omega
theorem stE_keep {s : ByteArray} {k : Nat} {keep : List UInt8} (hk : k < s.size) (h : (unresN s[k].toNat || (s[k].toNat != 37 && memB keep s[k].toNat)) = true) : stE keep (s.data.toList.drop k) = .ok ([s[k]], 0) := by
  rw [drop_cons s k hk]; simp only [stE]; rw [if_pos h]
theorem stE_esc {s : ByteArray} {k : Nat} {keep : List UInt8} (hk : k < s.size) (h : (unresN s[k].toNat || (s[k].toNat != 37 && memB keep s[k].toNat)) = false) : stE keep (s.data.toList.drop k) = .ok (escL s[k], 0) := by
  rw [drop_cons s k hk]; simp only [stE]; rw [if_neg (by simp [h])]
theorem stN_esc {s : ByteArray} {k : Nat} {also : List UInt8} (hk : k < s.size) (h : s[k].toNat = 37) {x : UInt8} (hx : escAt (s.data.toList.drop k) = some x) : stN also (s.data.toList.drop k) = .ok (if unresN x.toNat then [x] else escL x, 2) := by
  rw [drop_cons s k hk] at hx ⊢; simp only [stN]; rw [if_pos h, hx]
theorem stN_bad {s : ByteArray} {k : Nat} {also : List UInt8} (hk : k < s.size) (h : s[k].toNat = 37) (hx : escAt (s.data.toList.drop k) = none) : stN also (s.data.toList.drop k) = .error 2 := by
  rw [drop_cons s k hk] at hx ⊢; simp only [stN]; rw [if_pos h, hx]
theorem stN_plain {s : ByteArray} {k : Nat} {also : List UInt8} (hk : k < s.size) (h : ¬ s[k].toNat = 37) (hu : (unresN s[k].toNat || memB also s[k].toNat) = true) : stN also (s.data.toList.drop k) = .ok ([s[k]], 0) := by
  rw [drop_cons s k hk]; simp only [stN]; rw [if_neg h, if_pos hu]
theorem stN_char {s : ByteArray} {k : Nat} {also : List UInt8} (hk : k < s.size) (h : ¬ s[k].toNat = 37) (hu : (unresN s[k].toNat || memB also s[k].toNat) = false) : stN also (s.data.toList.drop k) = .error 1 := by
  rw [drop_cons s k hk]; simp only [stN]; rw [if_neg h, if_neg (by simp [hu])]
end Go.Proofs.YtaopehogpdgkgaaGreat
