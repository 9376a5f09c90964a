/- Contracts of Values and Get of package head and of its reference. -/
import Derived.Test.YtegejmbkpdlekaaShelfJoin
import Derived.Test.YtegejmbkpdlekaaDirPlain
namespace Go.Proofs.Ytegejmbkpdlekaa
open Go.RowKit
def namedL (nm : List UInt8) (f : Fld) : Bool := lowerL f.1 == lowerL nm
/-- the values of the fields with a name -/
def valuesL : List Fld → List UInt8 → List (List UInt8)
  | [], _ => []
  | f :: t, nm => if namedL nm f then f.2 :: valuesL t nm else valuesL t nm
theorem values_hit {fs : List Fld} {k : Nat} {nm : List UInt8} (h : k < fs.length) (hp : namedL nm fs[k] = true) : valuesL (fs.drop k) nm = fs[k].2 :: valuesL (fs.drop (k + 1)) nm := by
  rw [List.drop_eq_getElem_cons h, valuesL, if_pos hp]
theorem values_miss {fs : List Fld} {k : Nat} {nm : List UInt8} (h : k < fs.length) (hp : namedL nm fs[k] = false) : valuesL (fs.drop k) nm = valuesL (fs.drop (k + 1)) nm := by
  rw [List.drop_eq_getElem_cons h, valuesL, if_neg (by simp [hp])]
theorem values_len (fs : List Fld) (nm : List UInt8) : (valuesL fs nm).length ≤ fs.length := by
  induction fs with
  | nil => simp [valuesL]
  | cons f t ih => simp only [valuesL]; split <;> simp <;> omega
theorem lens_cons' (l : List UInt8) (r : List (List UInt8)) : Lib.lens (l :: r) = l.length + Lib.lens r := by simp [Lib.lens]
theorem values_le (fs : List Fld) (nm : List UInt8) : Lib.lens (valuesL fs nm) ≤ Lib.lens (fs.map (·.2)) := by
  induction fs with
  | nil => simp [valuesL]
  | cons f t ih => simp only [valuesL, List.map_cons, lens_cons']; split <;> (try simp only [lens_cons']) <;> omega
set_option maxRecDepth 100000 in
set_option maxHeartbeats 2000000 in
theorem values_c (w : World) (mi st : Int) (fv : Value) (fs : List Fld) (nm : ByteArray) (hnm : nm.size ≤ 9223372036854775807) (hn : fs.length ≤ 1000000) (hl : ∀ f ∈ fs, f.1.length ≤ 1000000) (h : Rd w 2 fv fs.length (fldsV fs)) :
    Calls Try.prog 29 #[.agg #[.int .i64 mi, .int .i64 st, fv], .string nm] w fun e w' => ∃ A c, e = .returned (.slice A (valuesL fs nm.data.toList).length c) ∧ Strs w' w.heap.size (.slice A (valuesL fs nm.data.toList).length c) (valuesL fs nm.data.toList) ∧ Below w.heap.size w w' := by
  have HN : ∀ W : World, Below w.heap.size w W → (∃ A c, Ending.returned (.slice none 0 0) = .returned (.slice A ([] : List (List UInt8)).length c) ∧ Strs W w.heap.size (.slice A ([] : List (List UInt8)).length c) [] ∧ Below w.heap.size w W) := fun W hW => ⟨_, _, rfl, Strs.nil, hW⟩
  have hB0 : Below w.heap.size w (w.alloc (.cells #[.int .i64 mi, .int .i64 st, fv] 29)) := (Below.refl _ w).alloc (Nat.le_refl _) _
  by_cases h0 : 0 < fs.length
  · obtain ⟨ad, c1, rfl, hb1, hc1⟩ := h.at_ h0
    have HK := Lib.hid (show ∀ W, Below w.heap.size w W → ∀ j u, (fldsV fs)[j]? = some u → W.cell? (ad.add j) = some u from
      fun W hW j u hu => (hW.cell (p := ad.add j) (by rw [add_block]; exact hb1)).trans (hc1 j u hu))
    have HL := Lib.hid hl
    generalize hR : valuesL fs nm.data.toList = R
    have HR := Lib.hid hR
    clear h hc1 hl hR HN
    go_enter Try.func29, Try.ntmps29
    go_wp2_with fail
    generalize w.alloc (.cells #[.int .i64 mi, .int .i64 st, .slice (some ad) fs.length c1] 29) = w0 at *
    go_loopw [5, 11] (fun v i wr => ∃ (k : Nat) (acc : List (List UInt8)), k ≤ fs.length ∧ i = .int .i64 (k : Int) ∧ acc.length ≤ k ∧ acc ++ valuesL (fs.drop k) nm.data.toList = R ∧ Strs wr w.heap.size v acc ∧ Below w.heap.size w wr) (fun _ i _ => fs.length - (intOf i).toNat)
    case atStart => exact ⟨0, [], Nat.zero_le _, rfl, by simp, by simpa using HR.out, Strs.nil, hB0⟩
    case round =>
      obtain ⟨k, acc, hk, rfl, hal, hX, hS, hB⟩ := hrel
      obtain ⟨uA, uc, rfl⟩ := own_slice_n hS
      have HX := Lib.hid hX
      have HS := Lib.hid hS
      clear hX hS
      by_cases hlt : k < fs.length
      · obtain ⟨x0, x1⟩ := fld_at (HK.out wr hB) hlt
        have hsz : (S fs[k].1).size ≤ 1000000 := by rw [S_size]; exact HL.out _ (List.getElem_mem hlt)
        have HSZ := Lib.hid hsz
        have hg : (wr.alloc (.cells #[.string (S fs[k].1), .string (S fs[k].2)] 61)).heap[wr.heap.size]? = some (.cells #[.string (S fs[k].1), .string (S fs[k].2)] 61 (0, 0)) := heap_alloc_new wr _
        have HG := Lib.hid hg
        clear hsz hg
        go_wp2_with fail
        refine (equal_c (S fs[k].1) nm (Nat.le_trans HSZ.out (by decide)) hnm _).mono ?_
        rintro e w2 ⟨he, hb2⟩
        have hg2 : w2.heap[wr.heap.size]? = some (.cells #[.string (S fs[k].1), .string (S fs[k].2)] 61 (0, 0)) := (hb2.block _ (by simp)).trans HG.out
        have hB1 := hB.alloc hB.size (.cells #[.string (S fs[k].1), .string (S fs[k].2)] 61)
        have hB2 := hB1.trans (hb2.mono hB1.size)
        have hS2 : w2.ownsRow w.heap.size 9 1 (.slice uA acc.length uc) acc.length (strsV acc) := (World.ownsRow.alloc HS.out (.cells #[.string (S fs[k].1), .string (S fs[k].2)] 61)).kept (grown_below hb2 none) (by cases hv : (Value.slice uA acc.length uc).ownBlock <;> simp)
        obtain ⟨l0, l1, l2, l3⟩ := fld_cells hg2
        clear HS hb2 hB1 x0 x1
        cases hE : namedL nm.data.toList fs[k] with
        | true =>
          obtain rfl : e = .returned (.bool true) := by rw [he, ← hE]; rfl
          have HN := Lib.hid ((values_hit hlt hE).symm ▸ HX.out : acc ++ fs[k].2 :: valuesL (fs.drop (k + 1)) nm.data.toList = R)
          clear he hE
          go_wp2_with (at_builtin; refine wpList_append_row infoS rfl (by decide) (by decide) rfl (.tmp 19) (.tmp 22) 49 rfl Try.underlying49 w.heap.size _ acc.length (strsV acc) rfl (hS2.alloc _) ⟨w2.heap.size, 0, none⟩ 1 [.string (S fs[k].2)] rfl rfl ?c1 ?c2 ?c3 ?c4 ?_)
          case c1 => exact news_of _ _ _ _ rfl
          case c2 => intro u hu; simp at hu; subst hu; rfl
          case c3 => omega
          case c4 => have := hB2.size; simp; omega
          intro g cap w3 hown3 hg3
          have hB3 : Below w.heap.size w w3 := (hB2.alloc hB2.size _).grown hg3 (by have := hB2.size; simp; omega) (fun q hq => (World.ownsRow.lt hS2 q hq).1)
          have hS3 : Strs w3 w.heap.size (.slice (some ⟨g, 0, none⟩) (acc.length + 1) cap) (acc ++ [fs[k].2]) := by unfold Strs; rw [List.length_append]; simpa [strsV] using hown3
          clear hg3 hB2 hS2 hown3
          go_wp2_with fail
          go_roundw
          case rel => exact ⟨k + 1, acc ++ [fs[k].2], by omega, by go_num, by simp; omega, by have := HN.out; simpa using this, hS3, hB3⟩
          case measure => simp [intOf]; omega
        | false =>
          obtain rfl : e = .returned (.bool false) := by rw [he, ← hE]; rfl
          have HN := Lib.hid ((values_miss hlt hE) ▸ HX.out : acc ++ valuesL (fs.drop (k + 1)) nm.data.toList = R)
          clear he hE
          go_wp2_with fail
          go_roundw
          case rel => exact ⟨k + 1, acc, by omega, by go_num, by omega, HN.out, hS2, hB2⟩
          case measure => simp [intOf]; omega
      · have hR : R = acc := by rw [← HX.out, List.drop_of_length_le (by omega)]; simp [valuesL]
        subst hR
        go_wp2_with fail
        go_ret
        exact ⟨_, _, rfl, HS.out, hB⟩
  · obtain ⟨A1, c1, rfl⟩ := h.slice
    have hz : fs = [] := List.eq_nil_of_length_eq_zero (by omega)
    subst hz
    clear h hn hl
    go_enter Try.func29, Try.ntmps29
    go_wp2_with fail
    refine wp_loop_rounds 1 ?_
    rw [rounds_succ]
    go_wp2_with fail
    go_ret
    exact HN _ hB0
set_option maxRecDepth 100000 in
set_option maxHeartbeats 2000000 in
theorem rvalues_c (w : World) (mi st : Int) (fv : Value) (fs : List Fld) (nm : ByteArray) (hnm : nm.size ≤ 9223372036854775807) (hn : fs.length ≤ 1000000) (hl : ∀ f ∈ fs, f.1.length ≤ 1000000) (h : Rd w 2 fv fs.length (fldsV fs)) :
    Calls Try.prog 30 #[.agg #[.int .i64 mi, .int .i64 st, fv], .string nm] w fun e w' => ∃ A c, e = .returned (.slice A (valuesL fs nm.data.toList).length c) ∧ Strs w' w.heap.size (.slice A (valuesL fs nm.data.toList).length c) (valuesL fs nm.data.toList) ∧ Below w.heap.size w w' := by
  have HN : ∀ W : World, Below w.heap.size w W → (∃ A c, Ending.returned (.slice none 0 0) = .returned (.slice A ([] : List (List UInt8)).length c) ∧ Strs W w.heap.size (.slice A ([] : List (List UInt8)).length c) [] ∧ Below w.heap.size w W) := fun W hW => ⟨_, _, rfl, Strs.nil, hW⟩
  have hB0 : Below w.heap.size w (w.alloc (.cells #[.int .i64 mi, .int .i64 st, fv] 29)) := (Below.refl _ w).alloc (Nat.le_refl _) _
  by_cases h0 : 0 < fs.length
  · obtain ⟨ad, c1, rfl, hb1, hc1⟩ := h.at_ h0
    have HK := Lib.hid (show ∀ W, Below w.heap.size w W → ∀ j u, (fldsV fs)[j]? = some u → W.cell? (ad.add j) = some u from
      fun W hW j u hu => (hW.cell (p := ad.add j) (by rw [add_block]; exact hb1)).trans (hc1 j u hu))
    have HL := Lib.hid hl
    generalize hR : valuesL fs nm.data.toList = R
    have HR := Lib.hid hR
    clear h hc1 hl hR HN
    go_enter Try.func30, Try.ntmps30
    go_wp2_with fail
    generalize w.alloc (.cells #[.int .i64 mi, .int .i64 st, .slice (some ad) fs.length c1] 29) = w0 at *
    go_loopw [5, 11] (fun v i wr => ∃ (k : Nat) (acc : List (List UInt8)), k ≤ fs.length ∧ i = .int .i64 (k : Int) ∧ acc.length ≤ k ∧ acc ++ valuesL (fs.drop k) nm.data.toList = R ∧ Strs wr w.heap.size v acc ∧ Below w.heap.size w wr) (fun _ i _ => fs.length - (intOf i).toNat)
    case atStart => exact ⟨0, [], Nat.zero_le _, rfl, by simp, by simpa using HR.out, Strs.nil, hB0⟩
    case round =>
      obtain ⟨k, acc, hk, rfl, hal, hX, hS, hB⟩ := hrel
      obtain ⟨uA, uc, rfl⟩ := own_slice_n hS
      have HX := Lib.hid hX
      have HS := Lib.hid hS
      clear hX hS
      by_cases hlt : k < fs.length
      · obtain ⟨x0, x1⟩ := fld_at (HK.out wr hB) hlt
        have hsz : (S fs[k].1).size ≤ 1000000 := by rw [S_size]; exact HL.out _ (List.getElem_mem hlt)
        have HSZ := Lib.hid hsz
        have hg : (wr.alloc (.cells #[.string (S fs[k].1), .string (S fs[k].2)] 61)).heap[wr.heap.size]? = some (.cells #[.string (S fs[k].1), .string (S fs[k].2)] 61 (0, 0)) := heap_alloc_new wr _
        have HG := Lib.hid hg
        clear hsz hg
        go_wp2_with fail
        refine (rEqual_c (S fs[k].1) nm (Nat.le_trans HSZ.out (by decide)) hnm _).mono ?_
        rintro e w2 ⟨he, hb2⟩
        have hg2 : w2.heap[wr.heap.size]? = some (.cells #[.string (S fs[k].1), .string (S fs[k].2)] 61 (0, 0)) := (hb2.block _ (by simp)).trans HG.out
        have hB1 := hB.alloc hB.size (.cells #[.string (S fs[k].1), .string (S fs[k].2)] 61)
        have hB2 := hB1.trans (hb2.mono hB1.size)
        have hS2 : w2.ownsRow w.heap.size 9 1 (.slice uA acc.length uc) acc.length (strsV acc) := (World.ownsRow.alloc HS.out (.cells #[.string (S fs[k].1), .string (S fs[k].2)] 61)).kept (grown_below hb2 none) (by cases hv : (Value.slice uA acc.length uc).ownBlock <;> simp)
        obtain ⟨l0, l1, l2, l3⟩ := fld_cells hg2
        clear HS hb2 hB1 x0 x1
        cases hE : namedL nm.data.toList fs[k] with
        | true =>
          obtain rfl : e = .returned (.bool true) := by rw [he, ← hE]; rfl
          have HN := Lib.hid ((values_hit hlt hE).symm ▸ HX.out : acc ++ fs[k].2 :: valuesL (fs.drop (k + 1)) nm.data.toList = R)
          clear he hE
          go_wp2_with (at_builtin; refine wpList_append_row infoS rfl (by decide) (by decide) rfl (.tmp 19) (.tmp 22) 49 rfl Try.underlying49 w.heap.size _ acc.length (strsV acc) rfl (hS2.alloc _) ⟨w2.heap.size, 0, none⟩ 1 [.string (S fs[k].2)] rfl rfl ?c1 ?c2 ?c3 ?c4 ?_)
          case c1 => exact news_of _ _ _ _ rfl
          case c2 => intro u hu; simp at hu; subst hu; rfl
          case c3 => omega
          case c4 => have := hB2.size; simp; omega
          intro g cap w3 hown3 hg3
          have hB3 : Below w.heap.size w w3 := (hB2.alloc hB2.size _).grown hg3 (by have := hB2.size; simp; omega) (fun q hq => (World.ownsRow.lt hS2 q hq).1)
          have hS3 : Strs w3 w.heap.size (.slice (some ⟨g, 0, none⟩) (acc.length + 1) cap) (acc ++ [fs[k].2]) := by unfold Strs; rw [List.length_append]; simpa [strsV] using hown3
          clear hg3 hB2 hS2 hown3
          go_wp2_with fail
          go_roundw
          case rel => exact ⟨k + 1, acc ++ [fs[k].2], by omega, by go_num, by simp; omega, by have := HN.out; simpa using this, hS3, hB3⟩
          case measure => simp [intOf]; omega
        | false =>
          obtain rfl : e = .returned (.bool false) := by rw [he, ← hE]; rfl
          have HN := Lib.hid ((values_miss hlt hE) ▸ HX.out : acc ++ valuesL (fs.drop (k + 1)) nm.data.toList = R)
          clear he hE
          go_wp2_with fail
          go_roundw
          case rel => exact ⟨k + 1, acc, by omega, by go_num, by omega, HN.out, hS2, hB2⟩
          case measure => simp [intOf]; omega
      · have hR : R = acc := by rw [← HX.out, List.drop_of_length_le (by omega)]; simp [valuesL]
        subst hR
        go_wp2_with fail
        go_ret
        exact ⟨_, _, rfl, HS.out, hB⟩
  · obtain ⟨A1, c1, rfl⟩ := h.slice
    have hz : fs = [] := List.eq_nil_of_length_eq_zero (by omega)
    subst hz
    clear h hn hl
    go_enter Try.func30, Try.ntmps30
    go_wp2_with fail
    refine wp_loop_rounds 1 ?_
    rw [rounds_succ]
    go_wp2_with fail
    go_ret
    exact HN _ hB0
def sepL : List UInt8 := [44, 32]
theorem join_snoc (xs : List (List UInt8)) (x : List UInt8) (sep : List UInt8) : Lib.join (xs ++ [x]) sep = Lib.join xs sep ++ (if xs = [] then [] else sep) ++ x := by
  cases xs with
  | nil => rw [List.nil_append, Lib.join_one, Lib.join_nil]; rfl
  | cons a r =>
    show Lib.join (a :: (r ++ [x])) sep = _
    rw [Lib.join_cons, Lib.join_cons, if_neg (by simp)]
    simp [Lib.joinTail]
theorem join_len (xs : List (List UInt8)) : (Lib.join xs sepL).length ≤ 2 * xs.length + Lib.lens xs := by
  cases xs with
  | nil => simp [Lib.join_nil]
  | cons a r => rw [Lib.join_length]; simp [sepL]; omega
def joinG (fs : List Fld) (nm : List UInt8) : List UInt8 := Lib.join (valuesL fs nm) sepL
theorem joinG_len (fs : List Fld) (nm : List UInt8) : (joinG fs nm).length ≤ 2 * fs.length + Lib.lens (fs.map (·.2)) := by
  have h1 := join_len (valuesL fs nm)
  have h2 := values_len fs nm
  have h3 := values_le fs nm
  unfold joinG; omega
theorem join_c (w : World) (B : Nat) (v : Value) (l : List (List UInt8)) (h : Strs w B v l) (hlen : (Lib.join l sepL).length ≤ 1000000000) (hn : l.length ≤ 1000000000) :
    Calls Try.prog 61 #[v, .string ⟨#[44, 32]⟩] w fun e w' => e = .returned (.string (S (Lib.join l sepL))) ∧ Below w.heap.size w w' := by
  rcases h.2 with ⟨rfl, h0⟩ | ⟨g, cap, cur, rfl, hb, hh, hnc, hcm, hcs, htk⟩
  · have : l = [] := List.eq_nil_of_length_eq_zero h0
    subst this
    refine (Any.strings_Join_none lays156 Builder_Extra_156 none 0 ⟨#[44, 32]⟩ w).mono ?_
    rintro e w' ⟨he, rfl⟩
    exact ⟨he, Below.refl _ _⟩
  · have hc : ∀ (j : Nat) x, (l.map S)[j]? = some x → w.cell? ⟨g, 0 + j, none⟩ = some (.string x) := fun j x hj => by
      rw [Nat.zero_add]
      have hjl : j < l.length := by
        have := (List.getElem?_eq_some_iff.1 hj).1; simpa using this
      rw [World.ownsRow.cellAt h j (by omega), strsV_at l j hjl]
      rw [List.getElem?_map, List.getElem?_eq_getElem hjl] at hj
      injection hj with hj; rw [hj]
    have hmap : (l.map S).map (fun x : ByteArray => x.data.toList) = l := by rw [List.map_map]; exact List.map_id' l
    have hJ := Any.strings_Join lays156 Builder_Extra_156 g 0 cap (l.map S) ⟨#[44, 32]⟩ w hc (heap_lt hh) (by rw [List.length_map]; omega) (by rw [List.length_map]; exact hnc) (by rw [hmap]; show (Lib.join l sepL).length ≤ _; omega)
    rw [hmap, List.length_map] at hJ
    exact hJ
set_option maxRecDepth 100000 in
set_option maxHeartbeats 2000000 in
theorem get_c (w : World) (mi st : Int) (fv : Value) (fs : List Fld) (nm : ByteArray) (hnm : nm.size ≤ 9223372036854775807) (hn : fs.length ≤ 1000) (hl : ∀ f ∈ fs, f.1.length ≤ 1000000) (hv : Lib.lens (fs.map (·.2)) ≤ 500000) (h : Rd w 2 fv fs.length (fldsV fs)) :
    Calls Try.prog 26 #[.agg #[.int .i64 mi, .int .i64 st, fv], .string nm] w fun e w' => e = .returned (.tuple #[.string (S (joinG fs nm.data.toList)), .bool (decide (0 < (valuesL fs nm.data.toList).length))]) ∧ Below w.heap.size w w' := by
  unfold joinG
  obtain ⟨A, c, rfl⟩ := h.slice
  have hB0 : Below w.heap.size w (w.alloc (.cells #[.int .i64 mi, .int .i64 st, .slice A fs.length c] 29)) := (Below.refl _ w).alloc (Nat.le_refl _) _
  have hg0 : (w.alloc (.cells #[.int .i64 mi, .int .i64 st, .slice A fs.length c] 29)).heap[w.heap.size]? = some (.cells #[.int .i64 mi, .int .i64 st, .slice A fs.length c] 29 (0, 0)) := heap_alloc_new w _
  have HR := Lib.hid (h.later hB0)
  have HL := Lib.hid hl
  have hjl := joinG_len fs nm.data.toList
  have hvl := values_len fs nm.data.toList
  have HJ := Lib.hid hjl
  have hVC := fun W H => values_c W mi st (.slice A fs.length c) fs nm hnm (by omega) HL.out H
  unfold joinG at HJ
  clear h hl hjl
  generalize valuesL fs nm.data.toList = vs at *
  have HVC := Lib.hid hVC
  clear hVC
  go_enter Try.func26, Try.ntmps26
  go_wp2_with fail
  refine (HVC.out _ HR.out).mono ?_
  rintro e w1 ⟨A1, c1, rfl, hS, hb1⟩
  have hB1 := hB0.trans (hb1.mono hB0.size)
  have hJ := join_c w1 _ _ _ hS (by have := HJ.out; omega) (by omega)
  have HJC := Lib.hid hJ
  clear hS hb1 hJ
  go_wp2_with fail
  refine HJC.out.mono ?_
  rintro e w2 ⟨rfl, hb2⟩
  go_wp2_with fail
  go_ret2
  exact ⟨ret_w (by simp), hB1.trans (hb2.mono hB1.size)⟩
theorem S_append (a b : List UInt8) : S a ++ S b = S (a ++ b) := by
  apply ByteArray.ext; simp [S]
theorem join_take (vs : List (List UInt8)) (k : Nat) (h : k < vs.length) : Lib.join (vs.take (k + 1)) sepL = Lib.join (vs.take k) sepL ++ (if k = 0 then [] else sepL) ++ vs[k] := by
  rw [List.take_succ_eq_append_getElem h, join_snoc]
  by_cases h0 : k = 0
  · subst h0; simp
  · have hne : vs.take k ≠ [] := fun hh => by
      have := congrArg List.length hh
      rw [List.length_take] at this; simp only [List.length_nil] at this; omega
    rw [if_neg hne, if_neg h0]
theorem lens_take (vs : List (List UInt8)) (k : Nat) (h : k < vs.length) : vs[k].length ≤ Lib.lens vs := by
  have := Lib.lens_take_succ vs k vs[k] (List.getElem?_eq_getElem h)
  have := Lib.lens_take_le vs (k + 1)
  omega
def JL (vs : List (List UInt8)) (t i : Value) : Prop := ∃ k : Nat, k ≤ vs.length ∧ i = .int .i64 (k : Int) ∧ t = .string (S (Lib.join (vs.take k) sepL))
set_option maxRecDepth 100000 in
set_option maxHeartbeats 2000000 in
theorem rget_c (w : World) (mi st : Int) (fv : Value) (fs : List Fld) (nm : ByteArray) (hnm : nm.size ≤ 9223372036854775807) (hn : fs.length ≤ 1000) (hl : ∀ f ∈ fs, f.1.length ≤ 1000000) (hv : Lib.lens (fs.map (·.2)) ≤ 500000) (h : Rd w 2 fv fs.length (fldsV fs)) :
    Calls Try.prog 27 #[.agg #[.int .i64 mi, .int .i64 st, fv], .string nm] w fun e w' => e = .returned (.tuple #[.string (S (joinG fs nm.data.toList)), .bool (decide (0 < (valuesL fs nm.data.toList).length))]) ∧ Below w.heap.size w w' := by
  obtain ⟨A, c, rfl⟩ := h.slice
  have hB0 : Below w.heap.size w (w.alloc (.cells #[.int .i64 mi, .int .i64 st, .slice A fs.length c] 29)) := (Below.refl _ w).alloc (Nat.le_refl _) _
  have hg0 : (w.alloc (.cells #[.int .i64 mi, .int .i64 st, .slice A fs.length c] 29)).heap[w.heap.size]? = some (.cells #[.int .i64 mi, .int .i64 st, .slice A fs.length c] 29 (0, 0)) := heap_alloc_new w _
  have HR := Lib.hid (h.later hB0)
  have HL := Lib.hid hl
  have hvl := values_len fs nm.data.toList
  have hvs := values_le fs nm.data.toList
  unfold joinG
  have hVC := fun W H => rvalues_c W mi st (.slice A fs.length c) fs nm hnm (by omega) HL.out H
  clear h hl
  generalize valuesL fs nm.data.toList = vs at *
  have HVC := Lib.hid hVC
  clear hVC
  go_enter Try.func27, Try.ntmps27
  go_wp2_with fail
  refine (HVC.out _ HR.out).mono ?_
  rintro e w1 ⟨A1, c1, rfl, hS, hb1⟩
  have hB1 := hB0.trans (hb1.mono hB0.size)
  have hK := Rd.of_own hS
  clear hS hb1
  by_cases h0 : 0 < vs.length
  · obtain ⟨ad, c2, he, hb2, hc2⟩ := hK.at_ h0
    injection he with he _ he2
    subst he
    subst he2
    have HC := Lib.hid hc2
    clear hK hc2
    go_wp2_with fail
    go_loop [7, 15] (fun t i => JL vs t i) (fun _ i => vs.length - (intOf i).toNat)
    case atStart => exact ⟨0, Nat.zero_le _, rfl, rfl⟩
    case round =>
      obtain ⟨k, hk, rfl, rfl⟩ := hrel
      by_cases hlt : k < vs.length
      · have x0 := HC.out _ _ (strsV_at vs k hlt)
        have hj := join_len (vs.take k)
        have ht := Lib.lens_take_le vs k
        have hu := lens_take vs k hlt
        have hsz : (S (Lib.join (vs.take k) sepL)).size ≤ 600000 := by rw [S_size]; simp at hj; omega
        have hsz2 : (S (Lib.join (vs.take k) sepL) ++ ⟨#[44, 32]⟩).size ≤ 600010 := by rw [ByteArray.size_append]; have : (⟨#[44, 32]⟩ : ByteArray).size = 2 := rfl; omega
        have hsz3 : (S vs[k]).size ≤ 500000 := by rw [S_size]; omega
        have HJT := Lib.hid (join_take vs k hlt)
        clear hj ht hu
        by_cases hk0 : k = 0
        · subst hk0
          have hsz0 : (S (Lib.join [] sepL)).size ≤ 600000 := by rw [S_size]; simp [Lib.join_nil]
          have x00 : w1.cell? ad = some (.string (S vs[0])) := by simpa [Addr.add] using x0
          go_wp2_with fail
          go_round
          case rel => exact ⟨1, by omega, by go_num, by rw [HJT.out, if_pos rfl]; exact congrArg Value.string (S_append [] vs[0])⟩
          case measure => simp [intOf]; omega
        · have hpos : 0 < k := by omega
          go_wp2_with fail
          go_round
          case rel => exact ⟨k + 1, by omega, by go_num, by rw [HJT.out, if_neg hk0, ← S_append, ← S_append]; rfl⟩
          case measure => simp [intOf]; omega
      · obtain rfl : k = vs.length := by omega
        go_wp2_with fail
        go_ret2
        exact ⟨rfl, hB1⟩
  · have hz : vs = [] := List.eq_nil_of_length_eq_zero (by omega)
    subst hz
    clear hK
    go_wp2_with fail
    refine wp_loop_rounds 1 ?_
    rw [rounds_succ]
    go_wp2_with fail
    go_ret2
    exact ⟨rfl, hB1⟩
end Go.Proofs.Ytegejmbkpdlekaa
