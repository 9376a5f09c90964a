/- The cursor of package grammar: words for its two cells, for a frame that leaves one block out; contracts of the methods that make nothing. -/
import Derived.Test.YtaopehogpdgkgaaGreatPctMem
import Derived.BigQuiet
namespace Go.Proofs.YtaopehogpdgkgaaGreat
open Go.RowKit
/-- block b is a cursor over s at offset k -/
def Cur (w : World) (b : Nat) (s : ByteArray) (k : Nat) : Prop := w.heap[b]? = some (.cells #[.string s, .int .i64 (k : Int)] 47 (0, 0))
/-- nothing but block b is written -/
def Only (b : Nat) (w w' : World) : Prop := w.grownBy w' (some b)
theorem Only.refl (b : Nat) (w : World) : Only b w w := World.grownBy.refl w _
theorem Only.trans {b : Nat} {w w1 w2 : World} (h : Only b w w1) (k : Only b w1 w2) : Only b w w2 :=
  ⟨k.os.trans h.os, k.tape.trans h.tape, k.output.trans h.output, Nat.le_trans h.size k.size, fun j hj hne => (k.block j (Nat.lt_of_lt_of_le hj h.size) hne).trans (h.block j hj hne)⟩
theorem Only.of_below {b : Nat} {w w' : World} (h : Below w.heap.size w w') : Only b w w' := ⟨h.os, h.tape, h.output, h.size, fun j hj _ => h.block j hj⟩
theorem Only.below {b B : Nat} {w w' : World} (h : Only b w w') (hB : B ≤ b) (hs : B ≤ w.heap.size) : Below B w w' :=
  ⟨h.os, h.tape, h.output, h.size, fun j hj => h.block j (by omega) (by simp; omega)⟩
theorem Only.set {b j : Nat} {w : World} (u : Value) : Only b w (w.setCell ⟨b, j, none⟩ u) :=
  ⟨rfl, rfl, rfl, by simp, fun k _ hk => Below.heap_setCell w _ u k (fun e => hk (by rw [e]))⟩
theorem Only.own {b B : Nat} {w w' : World} {e : TypeId} {size n : Nat} {v : Value} {xs : List Value} (h : Only b w w') (ho : w.ownsRow B e size v n xs) (hb : v.ownBlock ≠ some b) : w'.ownsRow B e size v n xs := ho.kept h (.inr hb)
section
variable {w w' : World} {b k : Nat} {s : ByteArray}
theorem Cur.lt (h : Cur w b s k) : b < w.heap.size := heap_lt h
theorem Cur.c0 (h : Cur w b s k) : w.cell? ⟨b, 0, none⟩ = some (.string s) := by unfold Cur at h; simp [World.cell?, h]
theorem Cur.c1 (h : Cur w b s k) : w.cell? ⟨b, 1, none⟩ = some (.int .i64 (k : Int)) := by unfold Cur at h; simp [World.cell?, h]
theorem Cur.f1 (h : Cur w b s k) : w.frozen? ⟨b, 1, none⟩ = false := by unfold Cur at h; simp [World.frozen?, h]
theorem Cur.set (h : Cur w b s k) (k' : Nat) : Cur (w.setCell ⟨b, 1, none⟩ (.int .i64 (k' : Int))) b s k' := by
  have hlt := h.lt
  unfold Cur at *
  have h' : w.heap[b] = .cells #[.string s, .int .i64 (k : Int)] 47 (0, 0) := by simpa [Array.getElem?_eq_getElem hlt] using h
  show (w.heap.modify b _)[b]? = _
  rw [Array.getElem?_eq_getElem (by simpa using hlt), Array.getElem_modify_self, h']
  rfl
theorem Cur.alloc (h : Cur w b s k) (o : Obj) : Cur (w.alloc o) b s k := (Below.heap_alloc w o b h.lt).trans h
theorem Cur.kept {b' : Nat} (h : Cur w b s k) (ho : Only b' w w') (hne : b ≠ b') : Cur w' b s k := (ho.block b h.lt (by simp; omega)).trans h
theorem Cur.below {B : Nat} (h : Cur w b s k) (hB : Below B w w') (hlt : b < B) : Cur w' b s k := (hB.block b hlt).trans h
end

set_option maxHeartbeats 400000 in
theorem cDone_c (b : Nat) (s : ByteArray) (k : Nat) (w : World) (hc : Cur w b s k) :
    Calls Tryz.prog 31 #[.pointer (some ⟨b, 0, none⟩)] w fun e w' => e = .returned (.bool (decide (s.size ≤ k))) ∧ ∃ m, w' = w.drewN m := by
  have c0 := hc.c0
  have c1 := hc.c1
  clear hc
  go_enter Tryz.func31, Tryz.ntmps31
  go_wp2_with fail
  go_quiet (fail)
  go_wp2_with fail
  go_ret
  exact ⟨ret_b (by simp), _, rfl⟩
theorem q_done {f : FuncId} {args : Array Value} {w : World} {n : Nat} {v : Value}
    (h : Calls Tryz.prog f args (w.drewN n) fun e w' => e = .returned v ∧ ∃ m, w' = (w.drewN n).drewN m) : Calls Tryz.prog f args (w.drewN n) fun e w'' => e = .returned v ∧ ∃ m, w'' = w.drewN m :=
  h.mono fun _ _ ⟨he, m, hm⟩ => ⟨he, n + m, by rw [hm, World.drewN_drewN]⟩
theorem ret_w {a b : Value} (h : b = a) : Ending.returned a = .returned b := by rw [h]
theorem q_same {f : FuncId} {args : Array Value} {w : World} {n : Nat} {v : Value}
    (h : Calls Tryz.prog f args (w.drewN n) fun e w' => e = .returned v ∧ w.drewN n = w') : Calls Tryz.prog f args (w.drewN n) fun e w'' => e = .returned v ∧ ∃ m, w'' = w.drewN m :=
  h.mono fun _ _ ⟨he, hm⟩ => ⟨he, n, hm.symm⟩
theorem Cur.drewN {w : World} {b k : Nat} {s : ByteArray} (h : Cur w b s k) (n : Nat) : Cur (w.drewN n) b s k := h
theorem Only.drewN {b : Nat} {w w' : World} (h : Only b w w') (n : Nat) : Only b w (w'.drewN n) := ⟨h.os, h.tape, h.output, h.size, h.block⟩
set_option maxHeartbeats 400000 in
theorem cTake_c (b : Nat) (s : ByteArray) (k : Nat) (hk : k ≤ s.size) (hs : s.size ≤ 1000000) (c : Int) (h0 : 0 ≤ c) (h1 : c ≤ 255) (w : World) (hc : Cur w b s k) :
    Calls Tryz.prog 30 #[.pointer (some ⟨b, 0, none⟩), .int .u8 c] w fun e w' => ∃ t : Bool, e = .returned (.bool t) ∧
      (t = true → ∃ hlt : k < s.size, (s[k].toNat : Int) = c ∧ Cur w' b s (k + 1)) ∧ (t = false → (∀ hlt : k < s.size, (s[k].toNat : Int) ≠ c) ∧ Cur w' b s k) ∧ Only b w w' := by
  have HC := Lib.hid hc
  have c0 := hc.c0
  have c1 := hc.c1
  have f1 := hc.f1
  clear hc
  by_cases hlt : k < s.size
  · have hd : decide (s.size ≤ k) = false := by simp; omega
    by_cases he : (s[k].toNat : Int) = c
    · subst he
      have hn : ((s[k].toNat : Int) != (s[k].toNat : Int)) = false := by simp
      have HD := fun n => cDone_c b s k _ (HC.out.drewN n)
      rw [hd] at HD
      have HD := Lib.hid HD
      go_enter Tryz.func30, Tryz.ntmps30
      go_wp2_with fail
      go_quiet ((go_at_call 31; exact q_done (HD.out _)))
      go_wp2_with fail
      go_ret
      exact ⟨true, rfl, (fun _ => ⟨hlt, by simp, (HC.out.drewN _).set (k + 1)⟩), (fun h => nomatch h), ((Only.refl _ _).drewN _).trans (Only.set _)⟩
    · have hn : ((s[k].toNat : Int) != c) = true := by simpa using he
      have HD := fun n => cDone_c b s k _ (HC.out.drewN n)
      rw [hd] at HD
      have HD := Lib.hid HD
      go_enter Tryz.func30, Tryz.ntmps30
      go_wp2_with fail
      go_quiet ((go_at_call 31; exact q_done (HD.out _)))
      go_wp2_with fail
      go_ret
      exact ⟨false, rfl, (fun h => nomatch h), (fun _ => ⟨fun _ => he, HC.out.drewN _⟩), (Only.refl _ _).drewN _⟩
  · have hd : decide (s.size ≤ k) = true := by simp; omega
    have HD := fun n => cDone_c b s k _ (HC.out.drewN n)
    rw [hd] at HD
    have HD := Lib.hid HD
    go_enter Tryz.func30, Tryz.ntmps30
    go_wp2_with fail
    go_quiet ((go_at_call 31; exact q_done (HD.out _)))
    go_wp2_with fail
    go_ret
    exact ⟨false, rfl, (fun h => nomatch h), (fun _ => ⟨fun h => absurd h hlt, HC.out.drewN _⟩), (Only.refl _ _).drewN _⟩
end Go.Proofs.YtaopehogpdgkgaaGreat
