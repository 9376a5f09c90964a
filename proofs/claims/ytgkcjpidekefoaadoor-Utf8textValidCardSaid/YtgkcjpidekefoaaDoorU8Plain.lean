/- UTF-8 in plain functions on lists of bytes, and its laws: no program in sight. -/
import Derived.Test.YtgkcjpidekefoaaDoorPlain
namespace Go.Proofs.YtgkcjpidekefoaaDoor

/-- a code point -/
def pointN (r : Nat) : Bool := r ≤ 1114111 && (r < 55296 || 57343 < r)
def contB (b : UInt8) : Bool := 128 ≤ b.toNat && b.toNat < 192
def low6 (b : UInt8) : Nat := b.toNat % 64
/-- the code point at the head of a list and the length of its encoding -/
def decL (l : List UInt8) : Option (Nat × Nat) :=
  match l with
  | [] => none
  | a :: t =>
    if a.toNat < 128 then some (a.toNat, 1)
    else if a.toNat < 192 then none
    else if a.toNat < 224 then
      match t with
      | b :: _ => if contB b && decide (128 ≤ a.toNat % 32 * 64 + low6 b) then some (a.toNat % 32 * 64 + low6 b, 2) else none
      | _ => none
    else if a.toNat < 240 then
      match t with
      | b :: c :: _ => if contB b && contB c && decide (2048 ≤ (a.toNat % 16 * 64 + low6 b) * 64 + low6 c) && pointN ((a.toNat % 16 * 64 + low6 b) * 64 + low6 c) then some ((a.toNat % 16 * 64 + low6 b) * 64 + low6 c, 3) else none
      | _ => none
    else if a.toNat < 248 then
      match t with
      | b :: c :: d :: _ => if contB b && contB c && contB d && decide (65536 ≤ ((a.toNat % 8 * 64 + low6 b) * 64 + low6 c) * 64 + low6 d) && pointN (((a.toNat % 8 * 64 + low6 b) * 64 + low6 c) * 64 + low6 d) then some (((a.toNat % 8 * 64 + low6 b) * 64 + low6 c) * 64 + low6 d, 4) else none
      | _ => none
    else none
def B (n : Nat) : UInt8 := UInt8.ofNat n
theorem B_toNat {n : Nat} (h : n < 256) : (B n).toNat = n := UInt8.toNat_ofNat_of_lt' h
theorem B_of (b : UInt8) : B b.toNat = b := UInt8.ofNat_toNat
theorem B_eq {n : Nat} (h : n < 256) (b : UInt8) : B n = b ↔ n = b.toNat := by
  constructor
  · rintro rfl; exact (B_toNat h).symm
  · rintro rfl; exact B_of b
/-- the encoding of a code point -/
def encL (r : Nat) : List UInt8 :=
  if r < 128 then [B r]
  else if r < 2048 then [B (192 + r / 64), B (128 + r % 64)]
  else if r < 65536 then [B (224 + r / 4096), B (128 + r / 64 % 64), B (128 + r % 64)]
  else [B (240 + r / 262144), B (128 + r / 4096 % 64), B (128 + r / 64 % 64), B (128 + r % 64)]
/-- the number that the bits of up to four bytes make -/
def valT (r : Nat) (l : List UInt8) : Nat := l.foldl (fun r b => r * 64 + low6 b) r
def valL (l : List UInt8) : Nat :=
  match l with
  | [] => 0
  | [a] => a.toNat
  | [a, b] => a.toNat % 32 * 64 + low6 b
  | [a, b, c] => (a.toNat % 16 * 64 + low6 b) * 64 + low6 c
  | a :: b :: c :: d :: _ => ((a.toNat % 8 * 64 + low6 b) * 64 + low6 c) * 64 + low6 d
/-- whether a list is the encoding of the number that its bits make -/
def goodL (l : List UInt8) : Bool := pointN (valL l) && (encL (valL l) == l)

theorem good_of {l : List UInt8} {r : Nat} (h : valL l = r) : goodL l = (pointN r && (encL r == l)) := by subst h; rfl
theorem good1 (a : UInt8) : goodL [a] = decide (a.toNat < 128) := by
  have := a.toNat_lt
  rw [good_of (r := a.toNat) rfl]
  generalize hr : a.toNat = r at *
  unfold encL
  by_cases h : r < 128
  · subst hr; simp [h, B_of, pointN]; omega
  · simp only [h, if_false, decide_false, Bool.and_eq_false_iff]
    right
    rw [if_pos (by omega)]
    simp
theorem lt6 (b : UInt8) : low6 b < 64 := Nat.mod_lt _ (by decide)
theorem contB_iff (b : UInt8) : contB b = true ↔ b.toNat = 128 + low6 b := by
  have := b.toNat_lt
  simp only [contB, low6, Bool.and_eq_true, decide_eq_true_eq]; omega
theorem good2 (a b : UInt8) : goodL [a, b] = (decide (192 ≤ a.toNat ∧ a.toNat < 224) && (contB b && decide (128 ≤ a.toNat % 32 * 64 + low6 b))) := by
  have ha := a.toNat_lt; have hb := lt6 b
  rw [good_of (r := a.toNat % 32 * 64 + low6 b) rfl]
  generalize hr : a.toNat % 32 * 64 + low6 b = r at *
  rw [Bool.eq_iff_iff]
  unfold encL
  simp only [Bool.and_eq_true, beq_iff_eq, decide_eq_true_eq, contB_iff]
  constructor
  · rintro ⟨_, h⟩
    split at h
    · simp at h
    · split at h
      · simp only [List.cons.injEq, and_true] at h
        rw [B_eq (by omega), B_eq (by omega)] at h
        omega
      · omega
  · rintro ⟨⟨h1, h2⟩, h3, h4⟩
    refine ⟨by simp [pointN]; omega, ?_⟩
    rw [if_neg (by omega), if_pos (by omega)]
    simp only [List.cons.injEq, and_true]
    rw [B_eq (by omega), B_eq (by omega)]
    omega
theorem good3 (a b c : UInt8) : goodL [a, b, c] = (decide (224 ≤ a.toNat ∧ a.toNat < 240) && (contB b && contB c && decide (2048 ≤ (a.toNat % 16 * 64 + low6 b) * 64 + low6 c) && pointN ((a.toNat % 16 * 64 + low6 b) * 64 + low6 c))) := by
  have ha := a.toNat_lt; have hb := lt6 b; have hc := lt6 c
  rw [good_of (r := (a.toNat % 16 * 64 + low6 b) * 64 + low6 c) rfl]
  generalize hr : (a.toNat % 16 * 64 + low6 b) * 64 + low6 c = r at *
  rw [Bool.eq_iff_iff]
  unfold encL
  simp only [Bool.and_eq_true, beq_iff_eq, decide_eq_true_eq, contB_iff]
  constructor
  · rintro ⟨hp, h⟩
    refine ⟨?_, ?_⟩ <;>
    (split at h
     · simp at h
     · split at h
       · simp at h
       · split at h
         · simp only [List.cons.injEq, and_true] at h
           rw [B_eq (by omega), B_eq (by omega), B_eq (by omega)] at h
           first | omega | exact ⟨⟨⟨by omega, by omega⟩, by omega⟩, hp⟩
         · omega)
  · rintro ⟨⟨h1, h2⟩, ⟨⟨h3, h4⟩, h5⟩, hp⟩
    refine ⟨hp, ?_⟩
    rw [if_neg (by omega), if_neg (by omega), if_pos (by omega)]
    simp only [List.cons.injEq, and_true]
    rw [B_eq (by omega), B_eq (by omega), B_eq (by omega)]
    omega
theorem good4 (a b c d : UInt8) : goodL [a, b, c, d] = (decide (240 ≤ a.toNat ∧ a.toNat < 248) && (contB b && contB c && contB d && decide (65536 ≤ ((a.toNat % 8 * 64 + low6 b) * 64 + low6 c) * 64 + low6 d) && pointN (((a.toNat % 8 * 64 + low6 b) * 64 + low6 c) * 64 + low6 d))) := by
  have ha := a.toNat_lt; have hb := lt6 b; have hc := lt6 c; have hd := lt6 d
  rw [good_of (r := ((a.toNat % 8 * 64 + low6 b) * 64 + low6 c) * 64 + low6 d) rfl]
  generalize hr : ((a.toNat % 8 * 64 + low6 b) * 64 + low6 c) * 64 + low6 d = r at *
  rw [Bool.eq_iff_iff]
  unfold encL
  simp only [Bool.and_eq_true, beq_iff_eq, decide_eq_true_eq, contB_iff]
  constructor
  · rintro ⟨hp, h⟩
    refine ⟨?_, ?_⟩ <;>
    (split at h
     · simp at h
     · split at h
       · simp at h
       · split at h
         · simp at h
         · simp only [List.cons.injEq, and_true] at h
           rw [B_eq (by omega), B_eq (by omega), B_eq (by omega), B_eq (by omega)] at h
           first | omega | exact ⟨⟨⟨⟨by omega, by omega⟩, by omega⟩, by omega⟩, hp⟩)
  · rintro ⟨⟨h1, h2⟩, ⟨⟨⟨h3, h4⟩, h6⟩, h5⟩, hp⟩
    refine ⟨hp, ?_⟩
    rw [if_neg (by omega), if_neg (by omega), if_neg (by omega)]
    simp only [List.cons.injEq, and_true]
    rw [B_eq (by omega), B_eq (by omega), B_eq (by omega), B_eq (by omega)]
    omega
/-- the reference's search: the first prefix of n, n + 1, .. (in all f) bytes that is an encoding -/
def refF : Nat → List UInt8 → Nat → Option (Nat × Nat)
  | 0, _, _ => none
  | f + 1, l, n => if n ≤ l.length then (if goodL (l.take n) then some (valL (l.take n), n) else refF f l (n + 1)) else none
theorem ref_dec (l : List UInt8) : refF 4 l 1 = decL l := by
  match l with
  | [] => rfl
  | [a] =>
    simp only [refF, List.length_cons, List.length_nil, List.take_succ_cons, List.take_zero, good1, decL]
    by_cases h : a.toNat < 128
    · simp [h, valL]
    · simp [h]
  | [a, b] =>
    simp only [refF, List.length_cons, List.length_nil, List.take_succ_cons, List.take_zero, good1, good2, decL]
    by_cases h : a.toNat < 128
    · simp [h, valL]
    · by_cases h2 : a.toNat < 192
      · have : ¬ 192 ≤ a.toNat := by omega
        simp [h, h2, this]
      · by_cases h3 : a.toNat < 224
        · have : 192 ≤ a.toNat := by omega
          simp [h, h2, h3, this, valL]
        · simp [h, h2, h3]
  | [a, b, c] =>
    simp only [refF, List.length_cons, List.length_nil, List.take_succ_cons, List.take_zero, good1, good2, good3, decL]
    by_cases h : a.toNat < 128
    · simp [h, valL]
    · by_cases h2 : a.toNat < 192
      · have h1 : ¬ 192 ≤ a.toNat := by omega
        have h4 : ¬ 224 ≤ a.toNat := by omega
        simp [h, h2, h1, h4]
      · by_cases h3 : a.toNat < 224
        · have h1 : 192 ≤ a.toNat := by omega
          have h4 : ¬ 224 ≤ a.toNat := by omega
          simp [h, h2, h3, h1, h4, valL]
        · by_cases h5 : a.toNat < 240
          · have h4 : 224 ≤ a.toNat := by omega
            simp [h, h2, h3, h4, h5, valL]
          · simp [h, h2, h3, h5]
  | a :: b :: c :: d :: t =>
    simp only [refF, List.length_cons, List.take_succ_cons, List.take_zero, good1, good2, good3, good4, decL]
    have e1 : 1 ≤ t.length + 1 + 1 + 1 + 1 := by omega
    have e2 : 1 + 1 ≤ t.length + 1 + 1 + 1 + 1 := by omega
    have e3 : 1 + 1 + 1 ≤ t.length + 1 + 1 + 1 + 1 := by omega
    have e4 : 1 + 1 + 1 + 1 ≤ t.length + 1 + 1 + 1 + 1 := by omega
    by_cases h : a.toNat < 128
    · simp [h, valL]
    · by_cases h2 : a.toNat < 192
      · have h1 : ¬ 192 ≤ a.toNat := by omega
        have h4 : ¬ 224 ≤ a.toNat := by omega
        have h6 : ¬ 240 ≤ a.toNat := by omega
        simp [h, h2, h1, h4, h6]
      · by_cases h3 : a.toNat < 224
        · have h1 : 192 ≤ a.toNat := by omega
          have h4 : ¬ 224 ≤ a.toNat := by omega
          have h6 : ¬ 240 ≤ a.toNat := by omega
          simp [h, h2, h3, h1, h4, h6, valL]
        · by_cases h5 : a.toNat < 240
          · have h4 : 224 ≤ a.toNat := by omega
            have h6 : ¬ 240 ≤ a.toNat := by omega
            simp [h, h2, h3, h4, h5, h6, valL]
          · by_cases h7 : a.toNat < 248
            · have h6 : 240 ≤ a.toNat := by omega
              simp [h, h2, h3, h5, h6, h7, valL]
            · simp [h, h2, h3, h5, h7]

/-- the program's table of forms -/
def mkN (i : Nat) : Nat := match i with | 0 => 0 | 1 => 192 | 2 => 224 | _ => 240
def msN (i : Nat) : Nat := match i with | 0 => 127 | 1 => 31 | 2 => 15 | _ => 7
def lsN (i : Nat) : Nat := match i with | 0 => 0 | 1 => 128 | 2 => 2048 | _ => 65536
def headOk (i : Nat) (a : UInt8) : Bool := (a.toNat &&& (255 - msN i)) == mkN i
def headV (i : Nat) (a : UInt8) : Nat := a.toNat &&& msN i
/-- n more bytes of a code point -/
def contsF : List UInt8 → Nat → Nat → Option Nat
  | _, 0, r => some r
  | [], _ + 1, _ => none
  | b :: t, n + 1, r => if contB b then contsF t n (r * 64 + low6 b) else none
def finV (i : Nat) (o : Option Nat) : Option (Nat × Nat) :=
  match o with
  | none => none
  | some r => if decide (lsN i ≤ r) && pointN r then some (r, i + 1) else none
/-- the program's search from form i on -/
def decFrom : Nat → Nat → List UInt8 → Option (Nat × Nat)
  | 0, _, _ => none
  | f + 1, i, l => match l with
    | [] => none
    | a :: t => if headOk i a then (if t.length < i then none else finV i (contsF t i (headV i a))) else decFrom f (i + 1) l

theorem headOk_all : ∀ n : Fin 256, ((n.val &&& (255 - msN 0)) == mkN 0) = decide (n.val < 128) ∧ ((n.val &&& (255 - msN 1)) == mkN 1) = decide (192 ≤ n.val ∧ n.val < 224) ∧
    ((n.val &&& (255 - msN 2)) == mkN 2) = decide (224 ≤ n.val ∧ n.val < 240) ∧ ((n.val &&& (255 - msN 3)) == mkN 3) = decide (240 ≤ n.val ∧ n.val < 248) := by decide +kernel
theorem headV_all : ∀ n : Fin 256, n.val &&& msN 0 = n.val % 128 ∧ n.val &&& msN 1 = n.val % 32 ∧ n.val &&& msN 2 = n.val % 16 ∧ n.val &&& msN 3 = n.val % 8 := by decide +kernel
theorem dec_from (l : List UInt8) : decFrom 4 0 l = decL l := by
  match l with
  | [] => rfl
  | a :: t =>
    obtain ⟨h0, h1, h2, h3⟩ := headOk_all ⟨a.toNat, a.toNat_lt⟩
    obtain ⟨v0, v1, v2, v3⟩ := headV_all ⟨a.toNat, a.toNat_lt⟩
    have k0 : headOk 0 a = decide (a.toNat < 128) := h0
    have k1 : headOk 1 a = decide (192 ≤ a.toNat ∧ a.toNat < 224) := h1
    have k2 : headOk 2 a = decide (224 ≤ a.toNat ∧ a.toNat < 240) := h2
    have k3 : headOk 3 a = decide (240 ≤ a.toNat ∧ a.toNat < 248) := h3
    have u0 : headV 0 a = a.toNat % 128 := v0
    have u1 : headV 1 a = a.toNat % 32 := v1
    have u2 : headV 2 a = a.toNat % 16 := v2
    have u3 : headV 3 a = a.toNat % 8 := v3
    simp only [decFrom, Nat.zero_add, Nat.reduceAdd, k0, k1, k2, k3, u0, u1, u2, u3, decL, decide_eq_true_eq]
    by_cases c0 : a.toNat < 128
    · have e : a.toNat % 128 = a.toNat := by omega
      have hp : pointN a.toNat = true := by simp [pointN]; omega
      simp [c0, contsF, finV, e, lsN, hp]
    · by_cases c1 : a.toNat < 192
      · have d1 : ¬ 192 ≤ a.toNat := by omega
        have d2 : ¬ 224 ≤ a.toNat := by omega
        have d3 : ¬ 240 ≤ a.toNat := by omega
        simp [c0, c1, d1, d2, d3]
      · by_cases c2 : a.toNat < 224
        · have d1 : 192 ≤ a.toNat := by omega
          match t with
          | [] => simp [c0, c1, c2, d1]
          | b :: t =>
            by_cases cb : contB b = true
            · have hp : pointN (a.toNat % 32 * 64 + low6 b) = true := by have := lt6 b; simp [pointN]; omega
              simp [c0, c1, c2, d1, contsF, finV, cb, lsN, hp]
            · simp [c0, c1, c2, d1, contsF, finV, cb]
        · have d1 : ¬ (192 ≤ a.toNat ∧ a.toNat < 224) := by omega
          by_cases c3 : a.toNat < 240
          · have d2 : 224 ≤ a.toNat := by omega
            match t with
            | [] => simp [c0, c1, c2, c3, d2]
            | [b] => simp [c0, c1, c2, c3, d2]
            | b :: c :: t =>
              have e2 : ¬ t.length + 1 + 1 < 2 := by omega
              by_cases cb : contB b = true <;> by_cases cc : contB c = true <;> simp [c0, c1, c2, c3, d2, contsF, finV, cb, cc, lsN, e2]
          · have d2 : ¬ (224 ≤ a.toNat ∧ a.toNat < 240) := by omega
            by_cases c4 : a.toNat < 248
            · have d3 : 240 ≤ a.toNat := by omega
              match t with
              | [] => simp [c0, c1, c2, c3, c4, d3]
              | [b] => simp [c0, c1, c2, c3, c4, d3]
              | [b, c] => simp [c0, c1, c2, c3, c4, d3]
              | b :: c :: d :: t =>
                have e2 : ¬ t.length + 1 + 1 + 1 < 3 := by omega
                by_cases cb : contB b = true <;> by_cases cc : contB c = true <;> by_cases cd : contB d = true <;> simp [c0, c1, c2, c3, c4, d3, contsF, finV, cb, cc, cd, lsN, e2]
            · simp [c0, c1, c2, c3, c4]

section
variable {s : ByteArray} {at_ i k r : Nat} {X : Option (Nat × Nat)} {Y : Option Nat}
theorem dec_none (hi : i ≤ 4) (h : ¬ i < 4) (H : decFrom (4 - i) i (s.data.toList.drop at_) = X) : X = none := by
  rw [show 4 - i = 0 by omega] at H; exact H.symm
theorem dec_next (ha : at_ < s.size) (hi : i < 4) (hok : ¬ headOk i s[at_] = true) (H : decFrom (4 - i) i (s.data.toList.drop at_) = X) : decFrom (4 - (i + 1)) (i + 1) (s.data.toList.drop at_) = X := by
  rw [← H, show 4 - i = (4 - (i + 1)) + 1 by omega, drop_cons s at_ ha]
  simp only [decFrom, hok]
  rfl
theorem dec_short (ha : at_ < s.size) (hi : i < 4) (hok : headOk i s[at_] = true) (hl : s.size < at_ + 1 + i) (H : decFrom (4 - i) i (s.data.toList.drop at_) = X) : X = none := by
  rw [← H, show 4 - i = (4 - (i + 1)) + 1 by omega, drop_cons s at_ ha]
  simp only [decFrom, hok, if_true]
  rw [if_pos (by rw [List.length_drop, size_toList]; omega)]
theorem dec_go (ha : at_ < s.size) (hi : i < 4) (hok : headOk i s[at_] = true) (hl : ¬ s.size < at_ + 1 + i) (H : decFrom (4 - i) i (s.data.toList.drop at_) = X) :
    finV i (contsF (s.data.toList.drop (at_ + 1)) i (headV i s[at_])) = X := by
  rw [← H, show 4 - i = (4 - (i + 1)) + 1 by omega, drop_cons s at_ ha]
  simp only [decFrom, hok, if_true]
  rw [if_neg (by rw [List.length_drop, size_toList]; omega)]
theorem conts_step (hk : k ≤ i) (ha : at_ + k < s.size) (hc : contB s[at_ + k] = true) (H : contsF (s.data.toList.drop (at_ + k)) (i + 1 - k) r = Y) :
    contsF (s.data.toList.drop (at_ + (k + 1))) (i + 1 - (k + 1)) (r * 64 + low6 s[at_ + k]) = Y := by
  rw [← H, show i + 1 - k = (i + 1 - (k + 1)) + 1 by omega, drop_cons s (at_ + k) ha]
  simp only [contsF, hc, if_true, Nat.add_assoc]
theorem conts_bad (hk : k ≤ i) (ha : at_ + k < s.size) (hc : contB s[at_ + k] = false) (H : contsF (s.data.toList.drop (at_ + k)) (i + 1 - k) r = Y) : Y = none := by
  rw [← H, show i + 1 - k = (i + 1 - (k + 1)) + 1 by omega, drop_cons s (at_ + k) ha]
  simp [contsF, hc]
theorem conts_end (hk : k ≤ i + 1) (hk' : ¬ k ≤ i) (H : contsF (s.data.toList.drop (at_ + k)) (i + 1 - k) r = Y) : Y = some r := by
  rw [← H, show i + 1 - k = 0 by omega]; cases s.data.toList.drop (at_ + k) <;> rfl
end
theorem contB_all : ∀ n : Fin 256, ((n.val &&& 192) == 128) = (decide (128 ≤ n.val) && decide (n.val < 192)) := by decide +kernel
theorem contB_and (b : UInt8) : ((b.toNat &&& 192) == 128) = contB b := contB_all ⟨b.toNat, b.toNat_lt⟩
theorem bound_next {k r x : Nat} (h : (k = 1 ∧ r < 256) ∨ (k = 2 ∧ r < 16384) ∨ (k = 3 ∧ r < 1048576) ∨ (k = 4 ∧ r < 67108864)) (hk : k ≤ 3) (hx : x < 64) :
    (k + 1 = 1 ∧ r * 64 + x < 256) ∨ (k + 1 = 2 ∧ r * 64 + x < 16384) ∨ (k + 1 = 3 ∧ r * 64 + x < 1048576) ∨ (k + 1 = 4 ∧ r * 64 + x < 67108864) := by omega
end Go.Proofs.YtgkcjpidekefoaaDoor
