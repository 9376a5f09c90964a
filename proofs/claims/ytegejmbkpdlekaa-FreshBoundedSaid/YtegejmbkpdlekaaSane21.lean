/- Contracts of Least (both), of heads and of the sanity check of chapter 21. -/
import Derived.Test.YtegejmbkpdlekaaROf
namespace Go.Proofs.Ytegejmbkpdlekaa
open Go.RowKit
def lstV (a : Bool) (x : Int) (b : Bool) (y : Int) : Value := if a && b then .agg #[.bool true, .int .u64 (min x y)] else .agg #[.bool false, .int .u64 0]
set_option maxRecDepth 100000 in
set_option maxHeartbeats 1000000 in
theorem fleast_c (a b : Bool) (x y : Int) (w : World) : Calls Try.prog 19 #[.agg #[.bool a, .int .u64 x], .agg #[.bool b, .int .u64 y]] w fun e w' => e = .returned (lstV a x b y) ∧ Below w.heap.size w w' := by
  have q0 : (((w.alloc (.cells #[.bool a, .int .u64 x] 33)).alloc (.cells #[.bool b, .int .u64 y] 33)).alloc (.cells #[.bool false, .int .u64 0] 33)).heap[w.heap.size]? = some (.cells #[.bool a, .int .u64 x] 33 (0, 0)) :=
    (Below.heap_alloc _ _ _ (by simp; omega)).trans ((Below.heap_alloc _ _ _ (by simp)).trans (heap_alloc_new w _))
  have q1 : (((w.alloc (.cells #[.bool a, .int .u64 x] 33)).alloc (.cells #[.bool b, .int .u64 y] 33)).alloc (.cells #[.bool false, .int .u64 0] 33)).heap[w.heap.size + 1]? = some (.cells #[.bool b, .int .u64 y] 33 (0, 0)) :=
    (Below.heap_alloc _ _ _ (by simp)).trans (by have := heap_alloc_new (w.alloc (.cells #[.bool a, .int .u64 x] 33)) (.cells #[.bool b, .int .u64 y] 33); simpa using this)
  have q2 : (((w.alloc (.cells #[.bool a, .int .u64 x] 33)).alloc (.cells #[.bool b, .int .u64 y] 33)).alloc (.cells #[.bool false, .int .u64 0] 33)).heap[w.heap.size + 1 + 1]? = some (.cells #[.bool false, .int .u64 0] 33 (0, 0)) := by
    have := heap_alloc_new ((w.alloc (.cells #[.bool a, .int .u64 x] 33)).alloc (.cells #[.bool b, .int .u64 y] 33)) (.cells #[.bool false, .int .u64 0] 33); simpa using this
  obtain ⟨a0, a1, _, _⟩ := cells2 q0
  obtain ⟨b0, b1, _, _⟩ := cells2 q1
  obtain ⟨r0, r1, r2, r3⟩ := cells2 q2
  clear q0 q1 q2
  cases a with
  | false =>
    go_enter Try.func19, Try.ntmps19
    go_wp2_with fail
    refine bodyPost_ret (v := .agg #[.bool false, .int .u64 0]) (by simp [results, Try.results19, go_sem]) rfl ⟨rfl, (((Below.refl _ w).alloc (Nat.le_refl _) _).alloc (by simp) _).alloc (by simp; omega) _⟩
  | true =>
    cases b with
    | false =>
      go_enter Try.func19, Try.ntmps19
      go_wp2_with fail
      refine bodyPost_ret (v := .agg #[.bool false, .int .u64 0]) (by simp [results, Try.results19, go_sem]) rfl ⟨rfl, (((Below.refl _ w).alloc (Nat.le_refl _) _).alloc (by simp) _).alloc (by simp; omega) _⟩
    | true =>
      go_enter Try.func19, Try.ntmps19
      go_wp2_with fail
      refine bodyPost_ret (v := .agg #[.bool true, .int .u64 (min x y)]) (by simp [results, Try.results19, go_sem]) rfl ⟨rfl, (((Below.refl _ w).alloc (Nat.le_refl _) _).alloc (by simp) _).alloc (by simp; omega) _⟩
set_option maxRecDepth 100000 in
set_option maxHeartbeats 1000000 in
theorem rfleast_c (a b : Bool) (x y : Int) (w : World) : Calls Try.prog 20 #[.agg #[.bool a, .int .u64 x], .agg #[.bool b, .int .u64 y]] w fun e w' => e = .returned (lstV a x b y) ∧ Below w.heap.size w w' := by
  have q0 : (((w.alloc (.cells #[.bool a, .int .u64 x] 33)).alloc (.cells #[.bool b, .int .u64 y] 33)).alloc (.cells #[.bool false, .int .u64 0] 33)).heap[w.heap.size]? = some (.cells #[.bool a, .int .u64 x] 33 (0, 0)) :=
    (Below.heap_alloc _ _ _ (by simp; omega)).trans ((Below.heap_alloc _ _ _ (by simp)).trans (heap_alloc_new w _))
  have q1 : (((w.alloc (.cells #[.bool a, .int .u64 x] 33)).alloc (.cells #[.bool b, .int .u64 y] 33)).alloc (.cells #[.bool false, .int .u64 0] 33)).heap[w.heap.size + 1]? = some (.cells #[.bool b, .int .u64 y] 33 (0, 0)) :=
    (Below.heap_alloc _ _ _ (by simp)).trans (by have := heap_alloc_new (w.alloc (.cells #[.bool a, .int .u64 x] 33)) (.cells #[.bool b, .int .u64 y] 33); simpa using this)
  have q2 : (((w.alloc (.cells #[.bool a, .int .u64 x] 33)).alloc (.cells #[.bool b, .int .u64 y] 33)).alloc (.cells #[.bool false, .int .u64 0] 33)).heap[w.heap.size + 1 + 1]? = some (.cells #[.bool false, .int .u64 0] 33 (0, 0)) := by
    have := heap_alloc_new ((w.alloc (.cells #[.bool a, .int .u64 x] 33)).alloc (.cells #[.bool b, .int .u64 y] 33)) (.cells #[.bool false, .int .u64 0] 33); simpa using this
  obtain ⟨a0, a1, _, _⟩ := cells2 q0
  obtain ⟨b0, b1, _, _⟩ := cells2 q1
  obtain ⟨r0, r1, r2, r3⟩ := cells2 q2
  clear q0 q1 q2
  cases a with
  | false =>
    go_enter Try.func20, Try.ntmps20
    go_wp2_with fail
    refine bodyPost_ret (v := .agg #[.bool false, .int .u64 0]) (by simp [results, Try.results20, go_sem]) rfl ⟨rfl, (((Below.refl _ w).alloc (Nat.le_refl _) _).alloc (by simp) _).alloc (by simp; omega) _⟩
  | true =>
    cases b with
    | false =>
      go_enter Try.func20, Try.ntmps20
      go_wp2_with fail
      refine bodyPost_ret (v := .agg #[.bool false, .int .u64 0]) (by simp [results, Try.results20, go_sem]) rfl ⟨rfl, (((Below.refl _ w).alloc (Nat.le_refl _) _).alloc (by simp) _).alloc (by simp; omega) _⟩
    | true =>
      go_enter Try.func20, Try.ntmps20
      go_wp2_with fail
      refine bodyPost_ret (v := .agg #[.bool true, .int .u64 (min x y)]) (by simp [results, Try.results20, go_sem]) rfl ⟨rfl, (((Below.refl _ w).alloc (Nat.le_refl _) _).alloc (by simp) _).alloc (by simp; omega) _⟩
theorem news_at (w : World) (l : List Value) (T : TypeId) (C : Array Value) (hC : C = l.toArray) (n : Nat) (hn : n = w.heap.size) : ∀ j u, l[j]? = some u → (w.alloc (.cells C T)).cell? ((⟨n, 0, none⟩ : Addr).add j) = some u := by
  subst hn; exact news_of w l T C hC
def headsL (a b : List UInt8) : List Fld := [(ccW, a), (agW, b)]
set_option maxRecDepth 100000 in
set_option maxHeartbeats 1000000 in
theorem heads_c (a b : ByteArray) (w : World) : Calls Try.prog 18 #[.string a, .string b] w fun e w' => ∃ A c, e = .returned (.agg #[.int .i64 0, .int .i64 200, .slice A 2 c]) ∧ Rd w' 2 (.slice A 2 c) 2 (fldsV (headsL a.data.toList b.data.toList)) ∧ Below w.heap.size w w' := by
  go_enter Try.func18, Try.ntmps18
  go_wp2_with fail
  refine bodyPost_ret (v := .agg #[.int .i64 0, .int .i64 200, .slice (some ⟨w.heap.size + 1, 0, none⟩) 2 2]) (by simp [results, Try.results18, go_sem]) rfl ⟨_, _, rfl, ?_, ((Below.refl _ w).alloc (Nat.le_refl _) _).alloc (by simp) _⟩
  refine ⟨_, _, rfl, rfl, fun _ => ⟨_, rfl, by simp, ?_⟩⟩
  exact news_at _ _ _ _ rfl _ (by simp)
theorem lens2 (a b : List UInt8) : Lib.lens ((headsL a b).map (·.2)) = a.length + b.length := by simp [headsL, Lib.lens]
theorem names2 (a b : List UInt8) : ∀ f ∈ headsL a b, f.1.length ≤ 1000000 := by
  intro f hf
  simp only [headsL, List.mem_cons, List.not_mem_nil, or_false] at hf
  rcases hf with rfl | rfl
  · show ccW.length ≤ 1000000; decide
  · show agW.length ≤ 1000000; decide
theorem of_heads (a b : ByteArray) (w : World) (A : Option Addr) (c : Nat) (hl : a.size + b.size ≤ 500000) (h : Rd w 2 (.slice A 2 c) 2 (fldsV (headsL a.data.toList b.data.toList))) :
    Calls Try.prog 16 #[.agg #[.int .i64 0, .int .i64 200, .slice A 2 c]] w fun e w' => e = .returned (freshV (ofL (headsL a.data.toList b.data.toList))) ∧ Below w.heap.size w w' :=
  of_c w 0 200 _ (headsL a.data.toList b.data.toList) (by simp [headsL]) (names2 _ _) (by rw [lens2, size_toList, size_toList]; exact hl) h
theorem rof_heads (a b : ByteArray) (w : World) (A : Option Addr) (c : Nat) (hl : a.size + b.size ≤ 500000) (h : Rd w 2 (.slice A 2 c) 2 (fldsV (headsL a.data.toList b.data.toList))) :
    Calls Try.prog 17 #[.agg #[.int .i64 0, .int .i64 200, .slice A 2 c]] w fun e w' => e = .returned (freshV (ofL (headsL a.data.toList b.data.toList))) ∧ Below w.heap.size w w' :=
  rof_c w 0 200 _ (headsL a.data.toList b.data.toList) (by simp [headsL]) (names2 _ _) (by rw [lens2, size_toList, size_toList]; exact hl) h
theorem sane21_a : freshV (ofL (headsL (S [109, 97, 120, 45, 97, 103, 101, 61, 49, 48, 48, 44, 32, 112, 117, 98, 108, 105, 99]).data.toList (S [52, 48]).data.toList)) = .agg #[.bool true, .int .u64 60] := by kernel_rfl
theorem sane21_b : freshV (ofL (headsL (S [109, 97, 120, 45, 97, 103, 101, 61, 49, 48, 48, 44, 32, 110, 111, 45, 115, 116, 111, 114, 101]).data.toList (S [49]).data.toList)) = .agg #[.bool false, .int .u64 0] := by kernel_rfl
set_option maxRecDepth 100000 in
set_option maxHeartbeats 1000000 in
theorem sane21_c (w : World) : Calls Try.prog 11 #[] w fun e w' => e = .returned (.bool true) ∧ Below w.heap.size w w' := by
  have hB := Below.refl w.heap.size w
  go_enter Try.func11, Try.ntmps11
  go_wp2_with fail
  refine (heads_c (S [109, 97, 120, 45, 97, 103, 101, 61, 49, 48, 48, 44, 32, 112, 117, 98, 108, 105, 99]) (S [52, 48]) _).mono ?_
  rintro e w1 ⟨X1, c1, rfl, hR1, hb1⟩
  replace hB := hB.trans (hb1.mono hB.size)
  go_wp2_with fail
  refine (of_heads _ _ _ _ _ (by decide) hR1).mono ?_
  rintro e w2 ⟨he, hb2⟩
  rw [sane21_a] at he
  subst he
  replace hB := hB.trans (hb2.mono hB.size)
  clear hb1 hb2 hR1
  go_wp2_with fail
  refine (heads_c (S [109, 97, 120, 45, 97, 103, 101, 61, 49, 48, 48, 44, 32, 110, 111, 45, 115, 116, 111, 114, 101]) (S [49]) _).mono ?_
  rintro e w3 ⟨X2, c2, rfl, hR2, hb3⟩
  replace hB := hB.trans (hb3.mono hB.size)
  go_wp2_with fail
  refine (of_heads _ _ _ _ _ (by decide) hR2).mono ?_
  rintro e w4 ⟨he, hb4⟩
  rw [sane21_b] at he
  subst he
  replace hB := hB.trans (hb4.mono hB.size)
  clear hb3 hb4 hR2
  go_wp2_with fail
  refine (fleast_c true false 60 0 _).mono ?_
  rintro e w5 ⟨he, hb5⟩
  have he' : e = .returned (.agg #[.bool false, .int .u64 0]) := he
  subst he'
  replace hB := (hB.alloc hB.size (.cells #[.bool true, .int .u64 60] 33)).alloc (by have := hB.size; simp; omega) (.cells #[.bool false, .int .u64 0] 33)
  replace hB := hB.trans (hb5.mono hB.size)
  go_wp2_with fail
  go_ret
  exact ⟨rfl, hB⟩
end Go.Proofs.Ytegejmbkpdlekaa
