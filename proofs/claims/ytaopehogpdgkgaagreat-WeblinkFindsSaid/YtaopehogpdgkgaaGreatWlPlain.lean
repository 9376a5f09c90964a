/- Links of a Link header: plain. -/
import Derived.Test.YtaopehogpdgkgaaGreatParamRef
import Derived.Lib.FieldsP
namespace Go.Proofs.YtaopehogpdgkgaaGreat
abbrev Lnk := List UInt8 × List (List UInt8) × List Fld
/-- the words of a value; acc is the word under way -/
def wordsA : List UInt8 → List UInt8 → List (List UInt8)
  | acc, [] => if acc.isEmpty then [] else [acc]
  | acc, c :: t => if blankN c.toNat then (if acc.isEmpty then wordsA [] t else acc :: wordsA [] t) else wordsA (acc ++ [c]) t
def wordsL (l : List UInt8) : List (List UInt8) := wordsA [] l
theorem blank_lower (c : UInt8) : blankN (lowerB c).toNat = blankN c.toNat := by
  by_cases h : upB c = true
  · have h' := h
    simp only [upB, Bool.and_eq_true, decide_eq_true_eq] at h'
    have e := lowerB_up (b := c) (by omega) (by omega)
    have e' : (lowerB c).toNat = c.toNat + 32 := by omega
    rw [e']
    have h1 : blankN (c.toNat + 32) = false := by simp [blankN]; omega
    have h2 : blankN c.toNat = false := by simp [blankN]; omega
    rw [h1, h2]
  · have h' : upB c = false := by simpa using h
    simp [lowerB, h']
theorem wordsA_lower (l : List UInt8) : ∀ acc, wordsA (lowerL acc) (lowerL l) = (wordsA acc l).map lowerL := by
  induction l with
  | nil =>
    intro acc
    show wordsA (lowerL acc) [] = _
    cases acc <;> simp [wordsA, lowerL]
  | cons c t ih =>
    intro acc
    show wordsA (lowerL acc) (lowerB c :: lowerL t) = _
    unfold wordsA
    rw [blank_lower]
    by_cases h : blankN c.toNat = true
    · rw [if_pos h, if_pos h]
      have h0 := ih []
      have h0' : wordsA [] (lowerL t) = (wordsA [] t).map lowerL := h0
      cases acc with
      | nil => simpa [lowerL] using h0'
      | cons a us => simp only [List.isEmpty_cons, lowerL, List.map_cons, Bool.false_eq_true, if_false]; rw [show t.map lowerB = lowerL t from rfl, h0']
    · rw [if_neg h, if_neg h]
      have := ih (acc ++ [c])
      rw [← this]
      simp [lowerL]
theorem words_lower (l : List UInt8) : wordsL (lowerL l) = (wordsL l).map lowerL := wordsA_lower l []
theorem wordsA_word (l : List UInt8) : ∀ acc, wordsA acc l = (if (acc ++ l.takeWhile fun x => !blankN x.toNat).isEmpty then [] else [acc ++ l.takeWhile fun x => !blankN x.toNat]) ++ wordsA [] (l.dropWhile fun x => !blankN x.toNat) := by
  induction l with
  | nil => intro acc; simp [wordsA]
  | cons c t ih =>
    intro acc
    by_cases h : blankN c.toNat = true
    · cases acc with
      | nil => simp [h]
      | cons a us =>
        rw [wordsA, if_pos h]
        simp [h, wordsA]
    · have h' : blankN c.toNat = false := by simpa using h
      rw [wordsA, if_neg h, ih]
      simp [h']
theorem wordsA_blank (l : List UInt8) : wordsA [] (blankL l) = wordsA [] l := by
  induction l with
  | nil => rfl
  | cons c t ih =>
    by_cases h : blankN c.toNat = true
    · have e : blankL (c :: t) = blankL t := by simp [blankL, h]
      rw [e, ih]
      simp [wordsA, h]
    · have e : blankL (c :: t) = c :: t := by simp [blankL, h]
      rw [e]
def relW : List UInt8 := [114, 101, 108]
/-- the words of the first parameter rel -/
def relsL : List Fld → List (List UInt8)
  | [] => []
  | f :: t => if f.1 = relW then wordsL (lowerL f.2) else relsL t
/-- the parameters of a link, and the rest -/
def paramsF : Nat → List UInt8 → Option (List Fld × List UInt8)
  | 0, _ => none
  | n + 1, l =>
    match blankL l with
    | [] => some ([], [])
    | c :: t =>
      if c.toNat = 59 then
        match paramL (blankL t) with
        | none => none
        | some (f, r) => (paramsF n r).map fun x => (f :: x.1, x.2)
      else some ([], c :: t)
/-- a link, behind its '<' -/
def linkL (l : List UInt8) : Option (Lnk × List UInt8) :=
  match tgtL l with
  | none => none
  | some (t, r) => (paramsF (r.length + 1) r).map fun x => ((t, relsL x.1, x.1), x.2)
/-- the links of a value; k have been read -/
def wlF : Nat → Nat → List UInt8 → Except Nat (List Lnk)
  | 0, _, _ => .error 0
  | n + 1, k, l =>
    match blankL l with
    | [] => .ok []
    | c :: t =>
      if c.toNat = 44 then wlF n k t else
      if c.toNat = 60 then
        if 64 ≤ k then .error 161 else
        match linkL t with
        | none => .error 6
        | some (x, []) => .ok [x]
        | some (x, d :: r) => if d.toNat = 44 then (wlF n (k + 1) r).map (x :: ·) else .error 6
      else .error 6
def preE (acc : List Lnk) (x : Except Nat (List Lnk)) : Except Nat (List Lnk) := x.map (acc ++ ·)
theorem preE_nil (x : Except Nat (List Lnk)) : preE [] x = x := by cases x <;> rfl
theorem preE_cons (acc : List Lnk) (y : Lnk) (x : Except Nat (List Lnk)) : preE acc (x.map (y :: ·)) = preE (acc ++ [y]) x := by
  cases x with
  | error e => rfl
  | ok l => simp [preE, Except.map]
def preP (acc : List Fld) (x : Option (List Fld × List UInt8)) : Option (List Fld × List UInt8) := x.map fun y => (acc ++ y.1, y.2)
theorem preP_nil (x : Option (List Fld × List UInt8)) : preP [] x = x := by cases x <;> rfl
theorem preP_cons (acc : List Fld) (f : Fld) (x : Option (List Fld × List UInt8)) : preP acc (x.map fun y => (f :: y.1, y.2)) = preP (acc ++ [f]) x := by
  cases x <;> simp [preP]
section
variable {s : ByteArray} {n j k : Nat} {l t : List UInt8} {acc : List Fld} {X : Option (List Fld × List UInt8)}
theorem blank_len (l : List UInt8) : (blankL l).length ≤ l.length := List.Sublist.length_le (List.dropWhile_sublist _)
theorem pars_end (hn : l.length < n) (hl : s.data.toList.drop j = blankL l) (h : ¬ j < s.size) (H : preP acc (paramsF n l) = X) : X = some (acc, []) := by
  obtain ⟨m, rfl⟩ : ∃ m, n = m + 1 := ⟨n - 1, by omega⟩
  rw [drop_end s j h] at hl
  rw [paramsF, ← hl] at H
  rw [← H]; simp [preP]
theorem pars_stop (hn : l.length < n) (hl : s.data.toList.drop j = blankL l) (h : j < s.size) (hc : ¬ s[j].toNat = 59) (H : preP acc (paramsF n l) = X) : X = some (acc, s.data.toList.drop j) := by
  obtain ⟨m, rfl⟩ : ∃ m, n = m + 1 := ⟨n - 1, by omega⟩
  rw [paramsF, ← hl, drop_cons s j h] at H
  simp only [if_neg hc] at H
  rw [← H, drop_cons s j h]; simp [preP]
theorem pars_bad (hn : l.length < n) (hl : s.data.toList.drop j = blankL l) (h : j < s.size) (hc : s[j].toNat = 59) (hp : paramL (blankL (s.data.toList.drop (j + 1))) = none) (H : preP acc (paramsF n l) = X) : X = none := by
  obtain ⟨m, rfl⟩ : ∃ m, n = m + 1 := ⟨n - 1, by omega⟩
  rw [paramsF, ← hl, drop_cons s j h] at H
  simp only [if_pos hc, hp] at H
  rw [← H]; rfl
theorem pars_step {f : Fld} {r : List UInt8} (hn : l.length < n) (hl : s.data.toList.drop j = blankL l) (h : j < s.size) (hc : s[j].toNat = 59) (hp : paramL (blankL (s.data.toList.drop (j + 1))) = some (f, r)) (H : preP acc (paramsF n l) = X) : preP (acc ++ [f]) (paramsF (n - 1) r) = X := by
  obtain ⟨m, rfl⟩ : ∃ m, n = m + 1 := ⟨n - 1, by omega⟩
  rw [paramsF, ← hl, drop_cons s j h] at H
  simp only [if_pos hc, hp] at H
  rw [preP_cons] at H; exact H
end
section
variable {s : ByteArray} {n j k : Nat} {l : List UInt8} {acc : List Lnk} {x : Lnk} {X : Except Nat (List Lnk)}
theorem drop_len (s : ByteArray) (j : Nat) : (s.data.toList.drop j).length = s.size - j := by rw [List.length_drop, size_toList]
theorem wl_end (hn : l.length < n) (hl : s.data.toList.drop j = blankL l) (h : ¬ j < s.size) (H : preE acc (wlF n acc.length l) = X) : X = .ok acc := by
  obtain ⟨m, rfl⟩ : ∃ m, n = m + 1 := ⟨n - 1, by omega⟩
  rw [drop_end s j h] at hl
  rw [wlF, ← hl] at H
  rw [← H]; simp [preE, Except.map]
theorem wl_comma (hn : l.length < n) (hl : s.data.toList.drop j = blankL l) (h : j < s.size) (hc : s[j].toNat = 44) (H : preE acc (wlF n acc.length l) = X) : preE acc (wlF (n - 1) acc.length (s.data.toList.drop (j + 1))) = X := by
  obtain ⟨m, rfl⟩ : ∃ m, n = m + 1 := ⟨n - 1, by omega⟩
  rw [wlF, ← hl, drop_cons s j h] at H
  simp only [if_pos hc] at H
  exact H
theorem wl_form (hn : l.length < n) (hl : s.data.toList.drop j = blankL l) (h : j < s.size) (hc : ¬ s[j].toNat = 44) (hc2 : ¬ s[j].toNat = 60) (H : preE acc (wlF n acc.length l) = X) : X = .error 6 := by
  obtain ⟨m, rfl⟩ : ∃ m, n = m + 1 := ⟨n - 1, by omega⟩
  rw [wlF, ← hl, drop_cons s j h] at H
  simp only [if_neg hc, if_neg hc2] at H
  rw [← H]; rfl
theorem wl_many (hn : l.length < n) (hl : s.data.toList.drop j = blankL l) (h : j < s.size) (hc2 : s[j].toNat = 60) (hk : 64 ≤ acc.length) (H : preE acc (wlF n acc.length l) = X) : X = .error 161 := by
  obtain ⟨m, rfl⟩ : ∃ m, n = m + 1 := ⟨n - 1, by omega⟩
  rw [wlF, ← hl, drop_cons s j h] at H
  simp only [if_neg (show ¬ s[j].toNat = 44 by omega), if_pos hc2, if_pos hk] at H
  rw [← H]; rfl
theorem wl_bad (hn : l.length < n) (hl : s.data.toList.drop j = blankL l) (h : j < s.size) (hc2 : s[j].toNat = 60) (hk : ¬ 64 ≤ acc.length) (hL : linkL (s.data.toList.drop (j + 1)) = none) (H : preE acc (wlF n acc.length l) = X) : X = .error 6 := by
  obtain ⟨m, rfl⟩ : ∃ m, n = m + 1 := ⟨n - 1, by omega⟩
  rw [wlF, ← hl, drop_cons s j h] at H
  simp only [if_neg (show ¬ s[j].toNat = 44 by omega), if_pos hc2, if_neg hk, hL] at H
  rw [← H]; rfl
theorem wl_last (hn : l.length < n) (hl : s.data.toList.drop j = blankL l) (h : j < s.size) (hc2 : s[j].toNat = 60) (hk : ¬ 64 ≤ acc.length) (hL : linkL (s.data.toList.drop (j + 1)) = some (x, s.data.toList.drop k)) (h' : ¬ k < s.size) (H : preE acc (wlF n acc.length l) = X) : X = .ok (acc ++ [x]) := by
  obtain ⟨m, rfl⟩ : ∃ m, n = m + 1 := ⟨n - 1, by omega⟩
  rw [drop_end s k h'] at hL
  rw [wlF, ← hl, drop_cons s j h] at H
  simp only [if_neg (show ¬ s[j].toNat = 44 by omega), if_pos hc2, if_neg hk, hL] at H
  rw [← H]; rfl
theorem wl_tail (hn : l.length < n) (hl : s.data.toList.drop j = blankL l) (h : j < s.size) (hc2 : s[j].toNat = 60) (hk : ¬ 64 ≤ acc.length) (hL : linkL (s.data.toList.drop (j + 1)) = some (x, s.data.toList.drop k)) (h' : k < s.size) (h4 : ¬ s[k].toNat = 44) (H : preE acc (wlF n acc.length l) = X) : X = .error 6 := by
  obtain ⟨m, rfl⟩ : ∃ m, n = m + 1 := ⟨n - 1, by omega⟩
  rw [drop_cons s k h'] at hL
  rw [wlF, ← hl, drop_cons s j h] at H
  simp only [if_neg (show ¬ s[j].toNat = 44 by omega), if_pos hc2, if_neg hk, hL, if_neg h4] at H
  rw [← H]; rfl
theorem wl_next (hn : l.length < n) (hl : s.data.toList.drop j = blankL l) (h : j < s.size) (hc2 : s[j].toNat = 60) (hk : ¬ 64 ≤ acc.length) (hL : linkL (s.data.toList.drop (j + 1)) = some (x, s.data.toList.drop k)) (h' : k < s.size) (h4 : s[k].toNat = 44) (H : preE acc (wlF n acc.length l) = X) : preE (acc ++ [x]) (wlF (n - 1) (acc ++ [x]).length (s.data.toList.drop (k + 1))) = X := by
  obtain ⟨m, rfl⟩ : ∃ m, n = m + 1 := ⟨n - 1, by omega⟩
  rw [drop_cons s k h'] at hL
  rw [wlF, ← hl, drop_cons s j h] at H
  simp only [if_neg (show ¬ s[j].toNat = 44 by omega), if_pos hc2, if_neg hk, hL, if_pos h4] at H
  rw [preE_cons] at H
  rw [List.length_append]; exact H
theorem wl_ok (hn : 0 < n) (h' : ¬ k < s.size) (hX : X = .ok acc) : preE acc (wlF n acc.length (s.data.toList.drop k)) = X := by
  obtain ⟨m, rfl⟩ : ∃ m, n = m + 1 := ⟨n - 1, by omega⟩
  rw [drop_end s k h', hX, wlF]; simp [preE, Except.map, blankL]
end
/-- bytes that a decoder takes for one rune -/
theorem get_at {s : ByteArray} {i : Nat} (h : i < s.size) : s.get! i = s[i] := by
  have : i < s.data.size := h
  show s.data[i]! = s.data[i]
  rw [getElem!_pos s.data i this]
theorem decode_blank {s : ByteArray} {pos : Nat} (h : pos < s.size) (hb : blankN (Utf8.decode s pos).1 = true) : (Utf8.decode s pos).2 = 1 ∧ blankN s[pos].toNat = true := by
  have h0 : (s.get! (pos + 0)).toNat = s[pos].toNat := by rw [Nat.add_zero, get_at h]
  unfold Utf8.decode at hb ⊢
  simp only [h0] at hb ⊢
  by_cases c : s[pos].toNat < 128
  · rw [if_pos c] at hb ⊢; exact ⟨rfl, hb⟩
  · rw [if_neg c] at hb ⊢
    exfalso
    have e : ∀ r k, 128 ≤ r → blankN ((r, k) : Nat × Nat).1 = true → False := fun r k hr hh => by simp [blankN] at hh; omega
    have er : ∀ k, blankN ((Utf8.runeError, k) : Nat × Nat).1 = true → False := fun k hh => by simp [Utf8.runeError, blankN] at hh
    split at hb
    · split at hb
      · exact e _ _ (by assumption) hb
      · exact er _ hb
    · split at hb
      · split at hb
        · rename_i hh; exact e _ _ (by simp at hh; omega) hb
        · exact er _ hb
      · split at hb
        · split at hb
          · rename_i hh; exact e _ _ (by simp at hh; omega) hb
          · exact er _ hb
        · exact er _ hb
theorem decode_word {s : ByteArray} {pos : Nat} (h : pos < s.size) (hb : blankN (Utf8.decode s pos).1 = false) : ∀ i, i < (Utf8.decode s pos).2 → ∃ hi : pos + i < s.size, blankN s[pos + i].toNat = false := by
  have h0 : (s.get! (pos + 0)).toNat = s[pos].toNat := by rw [Nat.add_zero, get_at h]
  have one : blankN s[pos].toNat = false → ∀ i, i < 1 → ∃ hi : pos + i < s.size, blankN s[pos + i].toNat = false := fun hh i hi => by
    obtain rfl : i = 0 := by omega
    exact ⟨h, hh⟩
  have big : ∀ m, 128 ≤ m → blankN m = false := fun m hm => by simp [blankN]; omega
  have con : ∀ k, (decide (pos + k < s.size) && (s.get! (pos + k)).toNat / 64 == 2) = true → ∃ hi : pos + k < s.size, blankN s[pos + k].toNat = false := fun k hk => by
    rw [Bool.and_eq_true, decide_eq_true_eq, beq_iff_eq] at hk
    obtain ⟨h1, h2⟩ := hk
    rw [get_at h1] at h2
    exact ⟨h1, big _ (by omega)⟩
  unfold Utf8.decode at hb ⊢
  simp only [h0] at hb ⊢
  by_cases c : s[pos].toNat < 128
  · rw [if_pos c] at hb ⊢; exact one hb
  · rw [if_neg c]
    have o := one (big _ (by omega))
    split
    · rename_i g
      rw [Bool.and_eq_true] at g
      split
      · intro i hi
        match i, hi with
        | 0, _ => exact o 0 (by omega)
        | 1, _ => exact con 1 g.2
        | (i + 2), hi => exact absurd hi (by simp)
      · exact o
    · split
      · rename_i g
        rw [Bool.and_eq_true, Bool.and_eq_true] at g
        split
        · intro i hi
          match i, hi with
          | 0, _ => exact o 0 (by omega)
          | 1, _ => exact con 1 g.1.2
          | 2, _ => exact con 2 g.2
          | (i + 3), hi => exact absurd hi (by simp)
        · exact o
      · split
        · rename_i g
          rw [Bool.and_eq_true, Bool.and_eq_true, Bool.and_eq_true] at g
          split
          · intro i hi
            match i, hi with
            | 0, _ => exact o 0 (by omega)
            | 1, _ => exact con 1 g.1.1.2
            | 2, _ => exact con 2 g.1.2
            | 3, _ => exact con 3 g.2
            | (i + 4), hi => exact absurd hi (by simp)
          · exact o
        · exact o
theorem wordsA_skip (m t : List UInt8) : ∀ acc, (∀ b ∈ m, blankN b.toNat = false) → wordsA acc (m ++ t) = wordsA (acc ++ m) t := by
  induction m with
  | nil => intro acc _; simp
  | cons b m ih =>
    intro acc h
    have hb := h b (List.mem_cons_self ..)
    show wordsA acc (b :: (m ++ t)) = _
    rw [wordsA, if_neg (by simp [hb]), ih _ (fun x hx => h x (List.mem_cons_of_mem _ hx)), List.append_assoc]; rfl
/-- what FieldsFunc answers at blanks -/
def curW (s : ByteArray) (pos : Nat) : Option Nat → List UInt8
  | none => []
  | some a => (s.data.toList.drop a).take (pos - a)
theorem fields_words (s : ByteArray) : ∀ (f pos : Nat) (st : Option Nat) (acc : List (Nat × Nat)), s.size ≤ pos + f → pos ≤ s.size → (∀ a, st = some a → a < pos) →
    (Lib.closeSpans s (Lib.spansFromP blankN s f pos st acc)).map (fun x => s.extract x.1 x.2) = (acc.map fun x => s.extract x.1 x.2) ++ (wordsA (curW s pos st) (s.data.toList.drop pos)).map S := by
  have ext : ∀ a b, s.extract a b = S ((s.data.toList.drop a).take (b - a)) := fun a b => by
    apply ByteArray.ext; apply Array.toList_inj.1; rw [Lib.extract_data]; rfl
  intro f
  induction f with
  | zero =>
    intro pos st acc hf hp hst
    obtain rfl : pos = s.size := by omega
    rw [drop_end s s.size (by omega)]
    cases st with
    | none => simp [Lib.spansFromP, Lib.closeSpans, wordsA, curW]
    | some a =>
      have ha := hst a rfl
      have hne : (curW s s.size (some a)).isEmpty = false := by
        have hl : (curW s s.size (some a)).length = s.size - a := by simp only [curW, List.length_take, drop_len]; omega
        cases hc : curW s s.size (some a) with
        | nil => rw [hc] at hl; simp at hl; omega
        | cons _ _ => rfl
      rw [wordsA, hne]
      simp [Lib.spansFromP, Lib.closeSpans, curW, ext]
  | succ f ih =>
    intro pos st acc hf hp hst
    by_cases hlt : pos < s.size
    · have hwd := Lib.width_pos s pos
      unfold Lib.spansFromP
      rw [if_pos hlt]
      by_cases hb : blankN (Utf8.decode s pos).1 = true
      · obtain ⟨hK, hbb⟩ := decode_blank hlt hb
        rw [if_pos hb, hK, drop_cons s pos hlt, wordsA, if_pos hbb]
        cases st with
        | none =>
          rw [ih (pos + 1) none acc (by omega) (by omega) (by intro a h; cases h)]
          rfl
        | some a =>
          have ha := hst a rfl
          have hne : (curW s pos (some a)).isEmpty = false := by
            have hl : (curW s pos (some a)).length = pos - a := by simp only [curW, List.length_take, drop_len]; omega
            cases hc : curW s pos (some a) with
            | nil => rw [hc] at hl; simp at hl; omega
            | cons _ _ => rfl
          rw [hne]
          simp only [Bool.false_eq_true, if_false]
          rw [ih (pos + 1) none (acc ++ [(a, pos)]) (by omega) (by omega) (by intro a h; cases h)]
          simp [curW, ext]
      · have hb' : blankN (Utf8.decode s pos).1 = false := by simpa using hb
        have hw := decode_word hlt hb'
        rw [if_neg hb]
        generalize hKK : (Utf8.decode s pos).2 = K at *
        have hle : pos + K ≤ s.size := by
          obtain ⟨h1, _⟩ := hw (K - 1) (by omega); omega
        have hsp : s.data.toList.drop pos = (s.data.toList.drop pos).take K ++ s.data.toList.drop (pos + K) := by
          rw [← List.drop_drop, List.take_append_drop]
        have hal : ∀ b ∈ (s.data.toList.drop pos).take K, blankN b.toNat = false := by
          intro b hb2
          obtain ⟨i, hi, rfl⟩ := List.getElem_of_mem hb2
          have hi' : i < K := by simp at hi; omega
          obtain ⟨h1, h2⟩ := hw i hi'
          rw [List.getElem_take, List.getElem_drop]
          exact h2
        rw [hsp, wordsA_skip _ _ _ hal]
        have hcur : curW s pos st ++ (s.data.toList.drop pos).take K = curW s (pos + K) (some (st.getD pos)) := by
          cases st with
          | none => simp [curW]
          | some a =>
            have ha := hst a rfl
            simp only [curW, Option.getD_some]
            rw [show pos + K - a = (pos - a) + K by omega, List.take_add, List.drop_drop, show a + (pos - a) = pos by omega]
        rw [hcur]
        cases st with
        | none => exact ih (pos + K) (some pos) acc (by omega) hle (by intro a h; cases h; omega)
        | some a => exact ih (pos + K) (some a) acc (by omega) hle (by intro b h; cases h; have := hst a rfl; omega)
    · obtain rfl : pos = s.size := by omega
      rw [Lib.spansFromP_end _ _ _ _ _ _ hlt]
      have := ih s.size st acc (by omega) (Nat.le_refl _) hst
      rwa [Lib.spansFromP_end _ _ _ _ _ _ hlt] at this
theorem goFields_words (s : ByteArray) : Lib.goFieldsP blankN s = (wordsL s.data.toList).map S := by
  unfold Lib.goFieldsP Lib.spansOfP
  rw [fields_words s s.size 0 none [] (by omega) (by omega) (by intro a h; cases h)]
  rfl
theorem quoL_le : ∀ (n : Nat) (l : List UInt8) (v r : List UInt8), l.length ≤ n → quoL l = some (v, r) → v.length ≤ l.length := by
  intro n
  induction n with
  | zero =>
    intro l v r hl h
    have : l = [] := List.eq_nil_of_length_eq_zero (by omega)
    subst this; cases h
  | succ n ih =>
    intro l v r hl h
    cases l with
    | nil => cases h
    | cons c t =>
      rw [quoL_cons] at h
      simp only [List.length_cons] at hl ⊢
      by_cases h1 : c.toNat = 34
      · rw [if_pos h1] at h; injection h with h; injection h with h2 h3; subst h2; simp
      · rw [if_neg h1] at h
        by_cases h2 : c.toNat = 92
        · rw [if_pos h2] at h
          cases t with
          | nil => cases h
          | cons d u =>
            simp only at h
            by_cases h3 : inVN d.toNat = true
            · rw [if_pos h3] at h
              cases hq : quoL u with
              | none => rw [hq] at h; cases h
              | some y =>
                rw [hq] at h
                have := ih u y.1 y.2 (by simp at hl; omega) hq
                simp only [Option.map_some] at h; injection h with h; injection h with h4 h5; subst h4; simp; omega
            · rw [if_neg h3] at h; cases h
        · rw [if_neg h2] at h
          by_cases h3 : inVN c.toNat = true
          · rw [if_pos h3] at h
            cases hq : quoL t with
            | none => rw [hq] at h; cases h
            | some y =>
              rw [hq] at h
              have := ih t y.1 y.2 (by omega) hq
              simp only [Option.map_some] at h; injection h with h; injection h with h4 h5; subst h4; simp; omega
          · rw [if_neg h3] at h; cases h
theorem tokL_le (l : List UInt8) : (tokL l).length ≤ l.length := List.Sublist.length_le (List.takeWhile_sublist _)
theorem tokR_le (l : List UInt8) : (tokR l).length ≤ l.length := List.Sublist.length_le (List.dropWhile_sublist _)
theorem valueL_le {l v r : List UInt8} (h : valueL l = some (v, r)) : v.length ≤ l.length := by
  cases l with
  | nil => cases h
  | cons c t =>
    simp only [valueL] at h
    by_cases h1 : c.toNat = 34
    · rw [if_pos h1] at h
      have := quoL_le _ t v r (Nat.le_refl _) h
      simp; omega
    · rw [if_neg h1] at h
      obtain ⟨_, rfl, _⟩ := tokO_some h
      exact tokL_le _
theorem quoL_rest : ∀ (n : Nat) (l : List UInt8) (v r : List UInt8), l.length ≤ n → quoL l = some (v, r) → r.length ≤ l.length := by
  intro n
  induction n with
  | zero =>
    intro l v r hl h
    have : l = [] := List.eq_nil_of_length_eq_zero (by omega)
    subst this; cases h
  | succ n ih =>
    intro l v r hl h
    cases l with
    | nil => cases h
    | cons c t =>
      rw [quoL_cons] at h
      simp only [List.length_cons] at hl ⊢
      by_cases h1 : c.toNat = 34
      · rw [if_pos h1] at h; injection h with h; injection h with h2 h3; subst h3; omega
      · rw [if_neg h1] at h
        by_cases h2 : c.toNat = 92
        · rw [if_pos h2] at h
          cases t with
          | nil => cases h
          | cons d u =>
            simp only at h
            by_cases h3 : inVN d.toNat = true
            · rw [if_pos h3] at h
              cases hq : quoL u with
              | none => rw [hq] at h; cases h
              | some y =>
                rw [hq] at h
                have := ih u y.1 y.2 (by simp at hl; omega) hq
                simp only [Option.map_some] at h; injection h with h; injection h with h4 h5; subst h5; simp; omega
            · rw [if_neg h3] at h; cases h
        · rw [if_neg h2] at h
          by_cases h3 : inVN c.toNat = true
          · rw [if_pos h3] at h
            cases hq : quoL t with
            | none => rw [hq] at h; cases h
            | some y =>
              rw [hq] at h
              have := ih t y.1 y.2 (by omega) hq
              simp only [Option.map_some] at h; injection h with h; injection h with h4 h5; subst h5; omega
          · rw [if_neg h3] at h; cases h
theorem valueL_rest {l v r : List UInt8} (h : valueL l = some (v, r)) : r.length ≤ l.length := by
  cases l with
  | nil => cases h
  | cons c t =>
    simp only [valueL] at h
    by_cases h1 : c.toNat = 34
    · rw [if_pos h1] at h
      have := quoL_rest _ t v r (Nat.le_refl _) h
      simp; omega
    · rw [if_neg h1] at h
      obtain ⟨_, _, rfl⟩ := tokO_some h
      exact tokR_le _
theorem paramL_le {l r : List UInt8} {f : Fld} (h : paramL l = some (f, r)) : f.1.length ≤ l.length ∧ f.2.length ≤ l.length := by
  unfold paramL at h
  by_cases h0 : (tokL l).isEmpty = true
  · rw [if_pos h0] at h; cases h
  · rw [if_neg h0] at h
    have ht := tokL_le l
    cases hb : blankL (tokR l) with
    | nil =>
      rw [hb] at h; injection h with h; injection h with h1 _; subst h1
      exact ⟨by rw [lowerL_len]; exact ht, by simp⟩
    | cons c t =>
      have hlen : t.length + 1 ≤ l.length := by
        have h1 := blank_len (tokR l)
        have h2 := tokR_le l
        rw [hb] at h1; simp at h1; omega
      rw [hb] at h
      simp only at h
      by_cases h1 : c.toNat = 61
      · rw [if_pos h1] at h
        cases hv : valueL (blankL t) with
        | none => rw [hv] at h; cases h
        | some y =>
          rw [hv] at h
          have h3 := valueL_le hv
          have h4 := blank_len t
          simp only [Option.map_some] at h; injection h with h; injection h with h2 _; subst h2
          exact ⟨by simp only [lowerL_len]; exact ht, by simp only; omega⟩
      · rw [if_neg h1] at h; injection h with h; injection h with h2 _; subst h2
        exact ⟨by rw [lowerL_len]; exact ht, by simp⟩
end Go.Proofs.YtaopehogpdgkgaaGreat
