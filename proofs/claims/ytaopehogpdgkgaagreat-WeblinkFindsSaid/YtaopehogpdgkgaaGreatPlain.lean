/- Plain functions and laws on bytes and lists of bytes: no program in sight. -/
import Derived.Lib.Bytealg
import Derived.Lib.Strings
import Derived.Laws.Strings
namespace Go.Proofs.YtaopehogpdgkgaaGreat

def alphaN (n : Nat) : Bool := (65 ≤ n && n ≤ 90) || (97 ≤ n && n ≤ 122)
def digitN (n : Nat) : Bool := 48 ≤ n && n ≤ 57
def hexN (n : Nat) : Bool := digitN n || (65 ≤ n && n ≤ 70) || (97 ≤ n && n ≤ 102)
def blankN (n : Nat) : Bool := n == 32 || n == 9
def alnumN (n : Nat) : Bool := alphaN n || digitN n
def subN (n : Nat) : Bool := [33, 36, 38, 39, 40, 41, 42, 43, 44, 59, 61].contains n
def unresN (n : Nat) : Bool := alnumN n || [45, 46, 95, 126].contains n
def pcharN (n : Nat) : Bool := unresN n || subN n || n == 58 || n == 64
def tokenN (n : Nat) : Bool := alnumN n || [33, 35, 36, 37, 38, 39, 42, 43, 45, 46, 94, 95, 96, 124, 126].contains n
/-- whether a byte is one of a list -/
def memB (l : List UInt8) (n : Nat) : Bool := l.any fun b => b.toNat == n

theorem memB_indexByte (l : List UInt8) (n : Nat) (h : n < 256) : decide (0 ≤ Lib.indexByte l n.toUInt8) = memB l n := by
  induction l with
  | nil => rfl
  | cons b l ih =>
    have hb : (b == n.toUInt8) = (b.toNat == n) := by
      rw [Bool.eq_iff_iff]; simp only [beq_iff_eq]
      constructor
      · rintro rfl; exact UInt8.toNat_ofNat_of_lt' h
      · intro e; rw [← e]; exact (UInt8.ofNat_toNat).symm
    have hge := Lib.indexByte_ge l n.toUInt8
    unfold Lib.indexByte memB
    rw [List.any_cons, ← hb]
    by_cases hc : (b == n.toUInt8) = true
    · simp [hc]
    · have hc' : (b == n.toUInt8) = false := by simpa using hc
      have ih' : decide (0 ≤ Lib.indexByte l n.toUInt8) = l.any fun b => b.toNat == n := ih
      rw [hc', ← ih']
      by_cases hm : Lib.indexByte l n.toUInt8 = -1
      · simp [hm]
      · have : (Lib.indexByte l n.toUInt8 == -1) = false := by simpa using hm
        simp only [this, Bool.false_eq_true, if_false, Bool.false_or]
        rw [decide_eq_decide]
        omega

theorem size_toList (s : ByteArray) : s.data.toList.length = s.size := rfl
theorem drop_cons (s : ByteArray) (k : Nat) (h : k < s.size) : s.data.toList.drop k = s[k] :: s.data.toList.drop (k + 1) := by
  rw [List.drop_eq_getElem_cons (by simpa using h)]; rfl
theorem drop_end (s : ByteArray) (k : Nat) (h : ¬ k < s.size) : s.data.toList.drop k = [] := List.drop_of_length_le (by simpa using Nat.le_of_not_lt h)

theorem mem_hit {s : ByteArray} {k : Nat} {n : Nat} {b : Bool} (hk : k < s.size) (H : memB (s.data.toList.drop k) n = b) (h : ((s[k].toNat : Int) == (n : Int)) = true) : true = b := by
  rw [← H, drop_cons s k hk]
  have : s[k].toNat = n := by have := eq_of_beq h; omega
  simp [memB, this]
theorem mem_miss {s : ByteArray} {k : Nat} {n : Nat} {b : Bool} (hk : k < s.size) (H : memB (s.data.toList.drop k) n = b) (h : ((s[k].toNat : Int) == (n : Int)) = false) : memB (s.data.toList.drop (k + 1)) n = b := by
  rw [← H, drop_cons s k hk]
  have h' : s[k].toNat ≠ n := by intro e; rw [e] at h; simp at h
  have : (s[k].toNat == n) = false := by simpa using h'
  simp [memB, this]
theorem mem_end {s : ByteArray} {k : Nat} {n : Nat} {b : Bool} (hk : ¬ k < s.size) (H : memB (s.data.toList.drop k) n = b) : false = b := by
  rw [← H, drop_end s k hk]; rfl

/-- strings as lists of bytes -/
def S (l : List UInt8) : ByteArray := ⟨l.toArray⟩
theorem S_size (l : List UInt8) : (S l).size = l.length := by simp [S, ByteArray.size]
theorem S_list (l : List UInt8) : (S l).data.toList = l := rfl
theorem S_of (s : ByteArray) : S s.data.toList = s := rfl
theorem S_inj {a b : List UInt8} (h : S a = S b) : a = b := by have := congrArg (fun s : ByteArray => s.data.toList) h; simpa [S] using this

def upB (b : UInt8) : Bool := 65 ≤ b.toNat && b.toNat ≤ 90
def lowerB (b : UInt8) : UInt8 := if upB b then b + 32 else b
def lowerL (l : List UInt8) : List UInt8 := l.map lowerB
/-- the first k bytes lowered -/
def lowK (l : List UInt8) (k : Nat) : List UInt8 := lowerL (l.take k) ++ l.drop k
theorem lowK_len (l : List UInt8) (k : Nat) : (lowK l k).length = l.length := by simp [lowK, lowerL]; omega
theorem lowK_at (l : List UInt8) (k : Nat) (h : k < l.length) : (lowK l k)[k]'(by rw [lowK_len]; exact h) = l[k] := by
  simp only [lowK, lowerL]
  rw [List.getElem_append_right (by simp; omega)]
  simp [Nat.min_eq_left (Nat.le_of_lt h)]
theorem lowK_succ (l : List UInt8) (k : Nat) (h : k < l.length) : lowK l (k + 1) = (lowK l k).set k (lowerB l[k]) := by
  have e1 : l.take (k + 1) = l.take k ++ [l[k]] := List.take_succ_eq_append_getElem h
  have e2 : l.drop k = l[k] :: l.drop (k + 1) := List.drop_eq_getElem_cons h
  have hlen : (lowerL (l.take k)).length = k := by simp [lowerL]; omega
  simp only [lowK, e1]
  rw [e2, List.set_append_right _ _ (by omega), hlen, Nat.sub_self, List.set_cons_zero]
  simp only [lowerL, List.map_append, List.map_cons, List.map_nil, List.append_assoc, List.cons_append, List.nil_append]
theorem lowK_zero (l : List UInt8) : lowK l 0 = l := by simp [lowK, lowerL]
theorem lowK_all (l : List UInt8) (k : Nat) (h : l.length ≤ k) : lowK l k = lowerL l := by
  simp [lowK, List.take_of_length_le h, List.drop_of_length_le h]
theorem lowerL_len (l : List UInt8) : (lowerL l).length = l.length := by simp [lowerL]
theorem lowerB_up {b : UInt8} (h : 65 ≤ (b.toNat : Int)) (h' : (b.toNat : Int) ≤ 90) : ((lowerB b).toNat : Int) = b.toNat + 32 := by
  have : upB b = true := by simp [upB]; omega
  simp only [lowerB, this, if_true]
  rw [UInt8.toNat_add]
  have : (32 : UInt8).toNat = 32 := rfl
  omega
theorem lowerB_not {b : UInt8} (h : ¬ (65 ≤ (b.toNat : Int) ∧ (b.toNat : Int) ≤ 90)) : lowerB b = b := by
  have : upB b = false := by simp [upB]; omega
  simp [lowerB, this]

def trimF : List UInt8 → List UInt8
  | [] => []
  | b :: l => if blankN b.toNat then trimF l else b :: l
def trimL (l : List UInt8) : List UInt8 := (trimF (trimF l).reverse).reverse
def allB (p : Nat → Bool) (l : List UInt8) : Bool := l.all fun b => p b.toNat
def digitsL (l : List UInt8) : Bool := !l.isEmpty && allB digitN l

theorem list_head {t : ByteArray} (h : 0 < t.size) : t.data.toList = t[0] :: t.data.toList.drop 1 := by
  have := drop_cons t 0 h; simpa using this
theorem trimF_blank {t : ByteArray} (h : 0 < t.size) (hb : blankN t[0].toNat = true) : trimF (t.data.toList.drop 1) = trimF t.data.toList := by
  rw [list_head h]; simp [trimF, hb]
theorem trimF_stop {t : ByteArray} (h : 0 < t.size) (hb : blankN t[0].toNat = false) : trimF t.data.toList = t.data.toList := by
  rw [list_head h]; simp [trimF, hb]
theorem trimF_empty {t : ByteArray} (h : ¬ 0 < t.size) : trimF t.data.toList = t.data.toList := by
  have : t.data.toList = [] := List.eq_nil_of_length_eq_zero (by rw [size_toList]; omega)
  rw [this]; rfl
theorem list_last {t : ByteArray} (h : 0 < t.size) : t.data.toList = t.data.toList.take (t.size - 1) ++ [t[t.size - 1]] := by
  have hl : t.data.toList.length = t.size := rfl
  have e := List.take_succ_eq_append_getElem (l := t.data.toList) (i := t.size - 1) (by omega)
  rw [show t.size - 1 + 1 = t.size by omega, List.take_of_length_le (by omega)] at e
  exact e
theorem trimR_blank {t : ByteArray} (h : 0 < t.size) (hb : blankN t[t.size - 1].toNat = true) : trimF (t.data.toList.take (t.size - 1)).reverse = trimF t.data.toList.reverse := by
  conv => rhs; rw [list_last h]
  rw [List.reverse_append]; simp [trimF, hb]
theorem trimR_stop {t : ByteArray} (h : 0 < t.size) (hb : blankN t[t.size - 1].toNat = false) : trimF t.data.toList.reverse = t.data.toList.reverse := by
  conv => lhs; rw [list_last h]
  rw [List.reverse_append]; simp only [List.reverse_cons, List.reverse_nil, List.nil_append, List.cons_append, trimF, hb]
  conv => rhs; rw [list_last h, List.reverse_append]
  rfl
theorem trimR_empty {t : ByteArray} (h : ¬ 0 < t.size) : trimF t.data.toList.reverse = t.data.toList.reverse := by
  have : t.data.toList = [] := List.eq_nil_of_length_eq_zero (by rw [size_toList]; omega)
  rw [this]; rfl
theorem trim_fin {t : ByteArray} {l : List UInt8} (h : trimF t.data.toList.reverse = trimF l.reverse) (e : trimF t.data.toList.reverse = t.data.toList.reverse) : t = S (trimF l.reverse).reverse := by
  rw [← h, e, List.reverse_reverse]; rfl

theorem all_hit {p : Nat → Bool} {s : ByteArray} {k : Nat} {b : Bool} (hk : k < s.size) (H : allB p (s.data.toList.drop k) = b) (h : p s[k].toNat = true) : allB p (s.data.toList.drop (k + 1)) = b := by
  rw [← H, drop_cons s k hk]; simp [allB, h]
theorem all_miss {p : Nat → Bool} {s : ByteArray} {k : Nat} {b : Bool} (hk : k < s.size) (H : allB p (s.data.toList.drop k) = b) (h : p s[k].toNat = false) : false = b := by
  rw [← H, drop_cons s k hk]; simp [allB, h]
theorem all_end {p : Nat → Bool} {s : ByteArray} {k : Nat} {b : Bool} (hk : ¬ k < s.size) (H : allB p (s.data.toList.drop k) = b) : true = b := by
  rw [← H, drop_end s k hk]; rfl
theorem byte_lt (b : UInt8) : (b.toNat : Int) ≤ 255 := by have := b.toNat_lt; omega

theorem S_toList (l : List UInt8) : (S l).toList = l := by rw [ByteArray.toList_eq]; rfl
theorem digits_empty {s : ByteArray} (h : s.toList = []) : false = digitsL s.data.toList := by
  rw [← ByteArray.toList_eq, h]; rfl
theorem digits_of (s : ByteArray) : (!s.toList.isEmpty && allB digitN s.data.toList) = digitsL s.data.toList := by
  rw [ByteArray.toList_eq]; rfl
theorem digits_hit {s : ByteArray} (h : allB digitN s.data.toList = false) : false = digitsL s.data.toList := by simp [digitsL, h]
theorem digits_all {s : ByteArray} (h : allB digitN s.data.toList = true) : (!s.toList.isEmpty) = digitsL s.data.toList := by
  rw [ByteArray.toList_eq]; simp [digitsL, h]
def strLen : Value → Nat | .string t => t.size | _ => 0
def natSize (s : ByteArray) : Nat := s.size
theorem drop1_list (t : ByteArray) : (t.extract 1 t.size).data.toList = t.data.toList.drop 1 := by
  rw [Lib.extract_data]; exact List.take_of_length_le (by rw [List.length_drop, size_toList]; omega)
theorem take1_list (t : ByteArray) : (t.extract 0 (t.size - 1)).data.toList = t.data.toList.take (t.size - 1) := by
  rw [Lib.extract_data]; simp

theorem upB_lower (b : UInt8) : upB (lowerB b) = false := by
  by_cases h : upB b = true
  · have h' := h
    simp only [upB, Bool.and_eq_true, decide_eq_true_eq] at h'
    have e := lowerB_up (b := b) (by omega) (by omega)
    simp [upB]; omega
  · have h' : upB b = false := by simpa using h
    simp [lowerB, h']
theorem lower_lower (l : List UInt8) : lowerL (lowerL l) = lowerL l := by
  simp only [lowerL, List.map_map]
  apply List.map_congr_left
  intro b _
  show lowerB (lowerB b) = lowerB b
  have h := upB_lower b
  generalize lowerB b = x at *
  simp [lowerB, h]
theorem equal_lower (l : List UInt8) : (lowerL l == lowerL (lowerL l)) = true := by rw [lower_lower]; simp
theorem trimF_le (l : List UInt8) : (trimF l).length ≤ l.length := by
  induction l with
  | nil => simp [trimF]
  | cons b l ih => simp only [trimF]; split <;> simp; omega
theorem trimL_len (l : List UInt8) : (trimL l).length ≤ l.length := by
  have h1 := trimF_le l; have h2 := trimF_le (trimF l).reverse
  simp [trimL] at *; omega
theorem trimF_trimF (l : List UInt8) : trimF (trimF l) = trimF l := by
  induction l with
  | nil => rfl
  | cons b l ih =>
    by_cases h : blankN b.toNat = true
    · simp [trimF, h, ih]
    · simp [trimF, h]
theorem trimF_app (l : List UInt8) (b : UInt8) (hb : blankN b.toNat = false) : trimF (l ++ [b]) = trimF l ++ [b] := by
  induction l with
  | nil => simp [trimF, hb]
  | cons a l ih =>
    by_cases h : blankN a.toNat = true
    · simp [trimF, h, ih]
    · simp [trimF, h]
theorem trimF_head (l : List UInt8) : trimF l = [] ∨ ∃ b m, trimF l = b :: m ∧ blankN b.toNat = false := by
  induction l with
  | nil => left; rfl
  | cons a l ih =>
    by_cases h : blankN a.toNat = true
    · simp only [trimF, h, if_true]; exact ih
    · right; exact ⟨a, l, by simp [trimF, h], by simpa using h⟩
theorem trim_trim (l : List UInt8) : trimL (trimL l) = trimL l := by
  have key : trimF (trimL l) = trimL l := by
    unfold trimL
    rcases trimF_head l with h | ⟨b, m, h, hb⟩
    · rw [h]; rfl
    · rw [h, List.reverse_cons, trimF_app _ _ hb, List.reverse_append]
      simp [trimF, hb]
  show (trimF (trimF (trimL l)).reverse).reverse = trimL l
  rw [key]
  unfold trimL
  rw [List.reverse_reverse, trimF_trimF]
theorem unres_pchar {n : Nat} (h : n < 256) : (!unresN n || (pcharN n && !subN n)) = true := by
  have : ∀ m : Fin 256, (!unresN m.val || (pcharN m.val && !subN m.val)) = true := by decide +kernel
  exact this ⟨n, h⟩
end Go.Proofs.YtaopehogpdgkgaaGreat
