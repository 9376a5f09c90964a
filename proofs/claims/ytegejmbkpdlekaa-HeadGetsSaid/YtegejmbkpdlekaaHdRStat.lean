/- The walk of the reference's status (chapter 18). -/
import Derived.Test.YtegejmbkpdlekaaHdStatW
namespace Go.Proofs.Ytegejmbkpdlekaa
open Go.RowKit
section
variable {s : ByteArray} {X : Option (Nat × Nat)}
theorem chN_drop (l : List UInt8) (i j : Nat) : chN (l.drop i) j = chN l (i + j) := by
  unfold chN
  rw [List.getD_eq_getElem?_getD, List.getD_eq_getElem?_getD, List.getElem?_drop]
theorem pre_ext (s : ByteArray) : ((s.extract 0 7).toList == preL) = Lib.hasPrefix s.data.toList preL := by
  rw [ByteArray.toList_eq, ext_tk, List.drop_zero]
  unfold Lib.hasPrefix
  rw [Bool.eq_iff_iff, List.isPrefixOf_iff_prefix, beq_iff_eq]
  constructor
  · intro e; rw [← e]; exact List.take_prefix _ _
  · intro e
    exact (List.prefix_iff_eq_take.1 e).symm
theorem rs_none (h : statusL s.data.toList = X) (k : Lib.hasPrefix s.data.toList preL = true → statusR (s.data.toList.drop 7) = none) : X = none := by
  rw [← h]; unfold statusL
  cases e : Lib.hasPrefix s.data.toList preL with
  | false => rfl
  | true => exact k e
theorem rs_no (h : statusL s.data.toList = X) (k : ¬ (6 ≤ (s.data.toList.drop 7).length ∧ (chN s.data.toList 7 = 48 ∨ chN s.data.toList 7 = 49) ∧ chN s.data.toList 8 = 32 ∧ chN s.data.toList 12 = 32 ∧ valueB (s.data.toList.drop 13) = true)) : X = none := by
  refine rs_none h fun _ => ?_
  unfold statusR
  rw [if_neg]
  rw [chN_drop, chN_drop, chN_drop, List.drop_drop]
  exact k
theorem rs_len (h : ¬ 13 ≤ s.size) (H : statusL s.data.toList = X) : X = none := rs_no H fun q => h (by have := q.1; rw [List.length_drop, size_toList] at this; omega)
theorem rs_pre (_ : 13 ≤ s.size) (hp : Lib.hasPrefix s.data.toList preL = false) (H : statusL s.data.toList = X) : X = none := rs_none H fun q => by rw [hp] at q; cases q
theorem rs_m (h : 13 ≤ s.size) (h0 : ¬ (s[7].toNat : Int) = 48) (h1 : ¬ (s[7].toNat : Int) = 49) (H : statusL s.data.toList = X) : X = none :=
  rs_no H (fun ⟨_, q, _⟩ => by rw [chN_at (by omega)] at q; omega)
theorem rs_1 (h : 13 ≤ s.size) (h0 : ¬ (s[8].toNat : Int) = 32) (H : statusL s.data.toList = X) : X = none :=
  rs_no H (fun ⟨_, _, q, _⟩ => by rw [chN_at (by omega)] at q; omega)
theorem rs_5 (h : 13 ≤ s.size) (h0 : ¬ (s[12].toNat : Int) = 32) (H : statusL s.data.toList = X) : X = none :=
  rs_no H (fun ⟨_, _, _, q, _⟩ => by rw [chN_at (by omega)] at q; omega)
theorem rs_v (h0 : valueB (s.data.toList.drop 13) = false) (H : statusL s.data.toList = X) : X = none :=
  rs_no H (fun ⟨_, _, _, _, q⟩ => by rw [h0] at q; cases q)
theorem rs_go (h : 13 ≤ s.size) (hp : Lib.hasPrefix s.data.toList preL = true) (h0 : (s[7].toNat : Int) = 48 ∨ (s[7].toNat : Int) = 49) (h1 : (s[8].toNat : Int) = 32) (h5 : (s[12].toNat : Int) = 32) (hv : valueB (s.data.toList.drop 13) = true) (H : statusL s.data.toList = X) :
    X = (num3 ((s.data.toList.drop 9).take 3)).map fun n => (s[7].toNat - 48, n) := by
  rw [← H]; unfold statusL; rw [hp]; unfold statusR
  rw [chN_drop, chN_drop, chN_drop, List.drop_drop, List.drop_drop]
  rw [if_pos rfl, if_pos ⟨by rw [List.length_drop, size_toList]; omega, by rw [chN_at (i := 7) (by omega)]; omega, by rw [chN_at (i := 8) (by omega)]; omega, by rw [chN_at (i := 12) (by omega)]; omega, hv⟩, chN_at (i := 7) (by omega)]
theorem rs_dig (hd : digitsL ((s.data.toList.drop 9).take 3) = false) (H : statusL s.data.toList = X) : X = none := by
  refine rs_none H fun _ => ?_
  unfold statusR
  split
  · rw [List.drop_drop]; unfold num3; rw [hd]; rfl
  · rfl
theorem rs_num {k : Nat} (hd : digitsL ((s.data.toList.drop 9).take 3) = true) (h : (100 ≤ (parseL digitN 10 999 ((s.data.toList.drop 9).take 3)).1 ∧ (parseL digitN 10 999 ((s.data.toList.drop 9).take 3)).1 ≤ 599)) (H : X = (num3 ((s.data.toList.drop 9).take 3)).map fun n => (k, n)) : X = some (k, (parseL digitN 10 999 ((s.data.toList.drop 9).take 3)).1) := by
  rw [H]; unfold num3; rw [hd, decide_eq_true h]; rfl
theorem rs_nonum {k : Nat} (h : ¬ (100 ≤ (parseL digitN 10 999 ((s.data.toList.drop 9).take 3)).1 ∧ (parseL digitN 10 999 ((s.data.toList.drop 9).take 3)).1 ≤ 599)) (H : X = (num3 ((s.data.toList.drop 9).take 3)).map fun n => (k, n)) : X = none := by
  rw [H]; unfold num3; rw [decide_eq_false h, Bool.and_false]; rfl
end
/-- what the reference's status answers -/
def RStat (X : Option (Nat × Nat)) (e : Ending) : Prop :=
  match X with
  | none => ∃ a b : Int, e = .returned (.tuple #[.agg #[.int .i64 a, .int .i64 b, .slice none 0 0], .bool false])
  | some (m, n) => e = .returned (.tuple #[.agg #[.int .i64 (m : Int), .int .i64 (n : Int), .slice none 0 0], .bool true])
theorem rstat_none {X : Option (Nat × Nat)} {a b : Int} (h : X = none) : RStat X (.returned (.tuple #[.agg #[.int .i64 a, .int .i64 b, .slice none 0 0], .bool false])) := by subst h; exact ⟨a, b, rfl⟩
theorem rstat_some {X : Option (Nat × Nat)} {m n : Nat} {a : Int} (h : X = some (m, n)) (ha : (m : Int) = a) : RStat X (.returned (.tuple #[.agg #[.int .i64 a, .int .i64 (n : Int), .slice none 0 0], .bool true])) := by subst h ha; rfl

set_option maxRecDepth 100000 in
set_option maxHeartbeats 4000000 in
theorem rStatus_c (s : ByteArray) (hs : s.size ≤ 1000000) (w : World) :
    Calls Try.prog 56 #[.string s] w fun e w' => RStat (statusL s.data.toList) e ∧ Below w.heap.size w w' := by
  have hB0 : Below w.heap.size w (w.alloc (.cells #[.int .i64 0, .int .i64 0, .slice none 0 0] 29)) := (Below.refl _ w).alloc (Nat.le_refl _) _
  have hg0 := heap_alloc_new w (.cells #[.int .i64 0, .int .i64 0, .slice none 0 0] 29)
  obtain ⟨a0, a1, a2, q0, q1, q2⟩ := cells3f hg0
  clear hg0
  obtain ⟨X, hX⟩ : ∃ X, statusL s.data.toList = X := ⟨_, rfl⟩
  rw [hX]
  have HX := Lib.hid hX
  clear hX
  go_enter Try.func56, Try.ntmps56
  by_cases h13 : 13 ≤ s.size
  · have hpx := pre_ext s
    obtain ⟨pb, hpb⟩ : ∃ pb, Lib.hasPrefix s.data.toList preL = pb := ⟨_, rfl⟩
    rw [hpb] at hpx
    unfold preL at hpx
    have b7 := byte_lt s[7]
    have b8 := byte_lt s[8]
    have b12 := byte_lt s[12]
    cases pb with
    | false =>
      have HX := Lib.hid (rs_pre h13 hpb HX.out)
      clear hpb
      go_wp2_with fail
      refine bodyPost_ret (v := .tuple #[.agg #[.int .i64 0, .int .i64 0, .slice none 0 0], .bool false]) (by simp [results, Try.results56, go_sem, *]) rfl ⟨rstat_none HX.out, ?_⟩
      exact (Below.refl _ w).alloc (Nat.le_refl _) _
    | true =>
      by_cases hm : (s[7].toNat : Int) = 48 ∨ (s[7].toNat : Int) = 49
      · by_cases h1 : (s[8].toNat : Int) = 32
        · by_cases h5 : (s[12].toNat : Int) = 32
          · have HD := rDigits_c (s.extract 9 12) (by simp; omega)
            rw [ext_tk, show 12 - 9 = 3 from rfl] at HD
            have HV := rPrintables_c (s.extract 13 s.size) (by simp; omega)
            rw [ext_drop] at HV
            have HN := rnParse_c (s.extract 9 12) (by simp; omega) 999 (U_nat (by unfold maxU; omega))
            rw [ext_tk, show 12 - 9 = 3 from rfl] at HN
            obtain ⟨vb, hvb⟩ : ∃ vb, valueB (s.data.toList.drop 13) = vb := ⟨_, rfl⟩
            obtain ⟨db, hdb⟩ : ∃ db, digitsL ((s.data.toList.drop 9).take 3) = db := ⟨_, rfl⟩
            rw [hvb] at HV
            rw [hdb] at HD
            have HV := Lib.hid HV
            have HD := Lib.hid HD
            cases db with
            | false =>
              have HX := Lib.hid (rs_dig hdb HX.out)
              clear hvb hdb hpb HN
              rcases hm with hm | hm
              · go_wp2_with (first | (go_at_call 82; refine (HD.out _).mono ?_; rintro e w' ⟨rfl, rfl⟩) | (go_at_call 59; refine (HV.out _).mono ?_; rintro e w' ⟨rfl, rfl⟩) | (go_at_call 76; refine (HN.out _).mono ?_; rintro e w' ⟨rfl, rfl⟩))
                refine bodyPost_ret (v := .tuple #[.agg #[.int .i64 0, .int .i64 0, .slice none 0 0], .bool false]) (by simp [results, Try.results56, go_sem, *]) rfl ⟨rstat_none HX.out, ?_⟩
                exact (Below.refl _ w).alloc (Nat.le_refl _) _
              · go_wp2_with (first | (go_at_call 82; refine (HD.out _).mono ?_; rintro e w' ⟨rfl, rfl⟩) | (go_at_call 59; refine (HV.out _).mono ?_; rintro e w' ⟨rfl, rfl⟩) | (go_at_call 76; refine (HN.out _).mono ?_; rintro e w' ⟨rfl, rfl⟩))
                refine bodyPost_ret (v := .tuple #[.agg #[.int .i64 0, .int .i64 0, .slice none 0 0], .bool false]) (by simp [results, Try.results56, go_sem, *]) rfl ⟨rstat_none HX.out, ?_⟩
                exact (Below.refl _ w).alloc (Nat.le_refl _) _
            | true =>
              cases vb with
              | false =>
                have HX := Lib.hid (rs_v hvb HX.out)
                clear hvb hdb hpb HN
                rcases hm with hm | hm
                · go_wp2_with (first | (go_at_call 82; refine (HD.out _).mono ?_; rintro e w' ⟨rfl, rfl⟩) | (go_at_call 59; refine (HV.out _).mono ?_; rintro e w' ⟨rfl, rfl⟩) | (go_at_call 76; refine (HN.out _).mono ?_; rintro e w' ⟨rfl, rfl⟩))
                  refine bodyPost_ret (v := .tuple #[.agg #[.int .i64 0, .int .i64 0, .slice none 0 0], .bool false]) (by simp [results, Try.results56, go_sem, *]) rfl ⟨rstat_none HX.out, ?_⟩
                  exact (Below.refl _ w).alloc (Nat.le_refl _) _
                · go_wp2_with (first | (go_at_call 82; refine (HD.out _).mono ?_; rintro e w' ⟨rfl, rfl⟩) | (go_at_call 59; refine (HV.out _).mono ?_; rintro e w' ⟨rfl, rfl⟩) | (go_at_call 76; refine (HN.out _).mono ?_; rintro e w' ⟨rfl, rfl⟩))
                  refine bodyPost_ret (v := .tuple #[.agg #[.int .i64 0, .int .i64 0, .slice none 0 0], .bool false]) (by simp [results, Try.results56, go_sem, *]) rfl ⟨rstat_none HX.out, ?_⟩
                  exact (Below.refl _ w).alloc (Nat.le_refl _) _
              | true =>
                have HY := Lib.hid (rs_go h13 hpb hm h1 h5 hvb HX.out)
                have HS := fun k h => rs_num (k := k) hdb h (X := X)
                have HF := fun k h => rs_nonum (s := s) (k := k) h (X := X)
                have h4 := parse_le digitN 10 999 ((s.data.toList.drop 9).take 3)
                clear hvb hdb hpb
                generalize parseL digitN 10 999 ((s.data.toList.drop 9).take 3) = P at *
                obtain ⟨n, ee⟩ := P
                have HN := Lib.hid HN
                simp only at h4 HS HF
                have HS := Lib.hid HS
                have HF := Lib.hid HF
                rcases hm with hm | hm
                · by_cases hn : 100 ≤ n
                  · by_cases hn5 : n ≤ 599
                    · have HX := Lib.hid (HS.out _ ⟨hn, hn5⟩ HY.out)
                      have hi5 : (n : Int) ≤ 599 := by omega
                      go_wp2_with (first | (go_at_call 82; refine (HD.out _).mono ?_; rintro e w' ⟨rfl, rfl⟩) | (go_at_call 59; refine (HV.out _).mono ?_; rintro e w' ⟨rfl, rfl⟩) | (go_at_call 76; refine (HN.out _).mono ?_; rintro e w' ⟨rfl, rfl⟩))
                      refine bodyPost_ret (v := .tuple #[.agg #[.int .i64 ((s[7].toNat : Int) - 48), .int .i64 (n : Int), .slice none 0 0], .bool true]) (by simp [results, Try.results56, go_sem, *]) rfl ⟨rstat_some HX.out (by omega), ?_⟩
                      exact (Below.refl _ w).alloc (Nat.le_refl _) _
                    · have HX := Lib.hid (HF.out _ (fun h => hn5 h.2) HY.out)
                      have hi5 : 599 < (n : Int) := by omega
                      go_wp2_with (first | (go_at_call 82; refine (HD.out _).mono ?_; rintro e w' ⟨rfl, rfl⟩) | (go_at_call 59; refine (HV.out _).mono ?_; rintro e w' ⟨rfl, rfl⟩) | (go_at_call 76; refine (HN.out _).mono ?_; rintro e w' ⟨rfl, rfl⟩))
                      refine bodyPost_ret (v := .tuple #[.agg #[.int .i64 ((s[7].toNat : Int) - 48), .int .i64 (n : Int), .slice none 0 0], .bool false]) (by simp [results, Try.results56, go_sem, *]) rfl ⟨rstat_none HX.out, ?_⟩
                      exact (Below.refl _ w).alloc (Nat.le_refl _) _
                  · have HX := Lib.hid (HF.out _ (fun h => hn h.1) HY.out)
                    go_wp2_with (first | (go_at_call 82; refine (HD.out _).mono ?_; rintro e w' ⟨rfl, rfl⟩) | (go_at_call 59; refine (HV.out _).mono ?_; rintro e w' ⟨rfl, rfl⟩) | (go_at_call 76; refine (HN.out _).mono ?_; rintro e w' ⟨rfl, rfl⟩))
                    refine bodyPost_ret (v := .tuple #[.agg #[.int .i64 ((s[7].toNat : Int) - 48), .int .i64 (n : Int), .slice none 0 0], .bool false]) (by simp [results, Try.results56, go_sem, *]) rfl ⟨rstat_none HX.out, ?_⟩
                    exact (Below.refl _ w).alloc (Nat.le_refl _) _
                · by_cases hn : 100 ≤ n
                  · by_cases hn5 : n ≤ 599
                    · have HX := Lib.hid (HS.out _ ⟨hn, hn5⟩ HY.out)
                      have hi5 : (n : Int) ≤ 599 := by omega
                      go_wp2_with (first | (go_at_call 82; refine (HD.out _).mono ?_; rintro e w' ⟨rfl, rfl⟩) | (go_at_call 59; refine (HV.out _).mono ?_; rintro e w' ⟨rfl, rfl⟩) | (go_at_call 76; refine (HN.out _).mono ?_; rintro e w' ⟨rfl, rfl⟩))
                      refine bodyPost_ret (v := .tuple #[.agg #[.int .i64 ((s[7].toNat : Int) - 48), .int .i64 (n : Int), .slice none 0 0], .bool true]) (by simp [results, Try.results56, go_sem, *]) rfl ⟨rstat_some HX.out (by omega), ?_⟩
                      exact (Below.refl _ w).alloc (Nat.le_refl _) _
                    · have HX := Lib.hid (HF.out _ (fun h => hn5 h.2) HY.out)
                      have hi5 : 599 < (n : Int) := by omega
                      go_wp2_with (first | (go_at_call 82; refine (HD.out _).mono ?_; rintro e w' ⟨rfl, rfl⟩) | (go_at_call 59; refine (HV.out _).mono ?_; rintro e w' ⟨rfl, rfl⟩) | (go_at_call 76; refine (HN.out _).mono ?_; rintro e w' ⟨rfl, rfl⟩))
                      refine bodyPost_ret (v := .tuple #[.agg #[.int .i64 ((s[7].toNat : Int) - 48), .int .i64 (n : Int), .slice none 0 0], .bool false]) (by simp [results, Try.results56, go_sem, *]) rfl ⟨rstat_none HX.out, ?_⟩
                      exact (Below.refl _ w).alloc (Nat.le_refl _) _
                  · have HX := Lib.hid (HF.out _ (fun h => hn h.1) HY.out)
                    go_wp2_with (first | (go_at_call 82; refine (HD.out _).mono ?_; rintro e w' ⟨rfl, rfl⟩) | (go_at_call 59; refine (HV.out _).mono ?_; rintro e w' ⟨rfl, rfl⟩) | (go_at_call 76; refine (HN.out _).mono ?_; rintro e w' ⟨rfl, rfl⟩))
                    refine bodyPost_ret (v := .tuple #[.agg #[.int .i64 ((s[7].toNat : Int) - 48), .int .i64 (n : Int), .slice none 0 0], .bool false]) (by simp [results, Try.results56, go_sem, *]) rfl ⟨rstat_none HX.out, ?_⟩
                    exact (Below.refl _ w).alloc (Nat.le_refl _) _
          · have HX := Lib.hid (rs_5 h13 h5 HX.out)
            clear hpb
            rcases hm with hm | hm
            · go_wp2_with fail
              refine bodyPost_ret (v := .tuple #[.agg #[.int .i64 0, .int .i64 0, .slice none 0 0], .bool false]) (by simp [results, Try.results56, go_sem, *]) rfl ⟨rstat_none HX.out, ?_⟩
              exact (Below.refl _ w).alloc (Nat.le_refl _) _
            · go_wp2_with fail
              refine bodyPost_ret (v := .tuple #[.agg #[.int .i64 0, .int .i64 0, .slice none 0 0], .bool false]) (by simp [results, Try.results56, go_sem, *]) rfl ⟨rstat_none HX.out, ?_⟩
              exact (Below.refl _ w).alloc (Nat.le_refl _) _
        · have HX := Lib.hid (rs_1 h13 h1 HX.out)
          clear hpb
          rcases hm with hm | hm
          · go_wp2_with fail
            refine bodyPost_ret (v := .tuple #[.agg #[.int .i64 0, .int .i64 0, .slice none 0 0], .bool false]) (by simp [results, Try.results56, go_sem, *]) rfl ⟨rstat_none HX.out, ?_⟩
            exact (Below.refl _ w).alloc (Nat.le_refl _) _
          · go_wp2_with fail
            refine bodyPost_ret (v := .tuple #[.agg #[.int .i64 0, .int .i64 0, .slice none 0 0], .bool false]) (by simp [results, Try.results56, go_sem, *]) rfl ⟨rstat_none HX.out, ?_⟩
            exact (Below.refl _ w).alloc (Nat.le_refl _) _
      · have h0 : ¬ (s[7].toNat : Int) = 48 := fun h => hm (.inl h)
        have h0' : ¬ (s[7].toNat : Int) = 49 := fun h => hm (.inr h)
        have HX := Lib.hid (rs_m h13 h0 h0' HX.out)
        clear hm hpb
        go_wp2_with fail
        refine bodyPost_ret (v := .tuple #[.agg #[.int .i64 0, .int .i64 0, .slice none 0 0], .bool false]) (by simp [results, Try.results56, go_sem, *]) rfl ⟨rstat_none HX.out, ?_⟩
        exact (Below.refl _ w).alloc (Nat.le_refl _) _
  · have HX := Lib.hid (rs_len h13 HX.out)
    go_wp2_with fail
    refine bodyPost_ret (v := .tuple #[.agg #[.int .i64 0, .int .i64 0, .slice none 0 0], .bool false]) (by simp [results, Try.results56, go_sem, *]) rfl ⟨rstat_none HX.out, ?_⟩
    exact (Below.refl _ w).alloc (Nat.le_refl _) _
end Go.Proofs.Ytegejmbkpdlekaa
