/- The walk of head.status (chapter 18). -/
import Derived.Test.YtegejmbkpdlekaaHdStat
import Derived.Test.YtegejmbkpdlekaaStrict
namespace Go.Proofs.Ytegejmbkpdlekaa
open Go.RowKit
theorem cells3f {w : World} {g : Nat} {x y z : Value} {T : TypeId} (h : w.heap[g]? = some (.cells #[x, y, z] T (0, 0))) : w.cell? ⟨g, 0, none⟩ = some x ∧ w.cell? ⟨g, 1, none⟩ = some y ∧ w.cell? ⟨g, 2, none⟩ = some z ∧ w.frozen? ⟨g, 0, none⟩ = false ∧ w.frozen? ⟨g, 1, none⟩ = false ∧ w.frozen? ⟨g, 2, none⟩ = false := by
  simp [World.cell?, World.frozen?, h]

set_option maxRecDepth 100000 in
set_option maxHeartbeats 4000000 in
theorem hStatus_c (s : ByteArray) (hs : s.size ≤ 1000000) (w : World) :
    Calls Try.prog 49 #[.string s] w fun e w' => e = .returned (statV (statusL s.data.toList)) ∧ Below w.heap.size w w' := by
  have hB0 : Below w.heap.size w (w.alloc (.cells #[.int .i64 0, .int .i64 0, .slice none 0 0] 29)) := (Below.refl _ w).alloc (Nat.le_refl _) _
  have hg0 := heap_alloc_new w (.cells #[.int .i64 0, .int .i64 0, .slice none 0 0] 29)
  obtain ⟨a0, a1, a2, q0, q1, q2⟩ := cells3f hg0
  go_enter Try.func49, Try.ntmps49
  go_wp2_with fail
  generalize w.alloc (.cells #[.int .i64 0, .int .i64 0, .slice none 0 0] 29) = W at *
  refine (cutPrefix_c s ⟨#[72, 84, 84, 80, 47, 49, 46]⟩ _).mono ?_
  rintro e w' ⟨rfl, rfl⟩
  obtain ⟨r, hr⟩ : ∃ r : ByteArray, r = ⟨(Lib.trimPrefix s.data.toList preL).toArray⟩ := ⟨_, rfl⟩
  obtain ⟨ok, hok⟩ : ∃ ok : Bool, ok = Lib.hasPrefix s.data.toList preL := ⟨_, rfl⟩
  have hrs : r.size ≤ 1000000 := by
    subst hr
    have : (Lib.trimPrefix s.data.toList preL).length ≤ s.size := by
      unfold Lib.trimPrefix; split
      · rw [List.length_drop, size_toList]; omega
      · rw [size_toList]; omega
    show (Lib.trimPrefix s.data.toList preL).toArray.size ≤ 1000000
    simp only [List.size_toArray]
    omega
  have HS := Lib.hid (statusL_pre hr hok)
  rw [show (⟨#[72, 84, 84, 80, 47, 49, 46]⟩ : ByteArray).data.toList = preL from rfl, ← hr, ← hok]
  clear hr hok
  cases ok with
  | false =>
    go_wp2_with fail
    refine bodyPost_ret (v := .tuple #[.agg #[.int .i64 0, .int .i64 0, .slice none 0 0], .bool false]) (by simp [results, Try.results49, go_sem, a0, a1, a2]) rfl ⟨ret_w (by rw [HS.out, show (if false then statusR r.data.toList else none) = none from rfl]; rfl), ?_⟩
    exact ((hB0.setCell (Nat.le_refl _) _).setCell (Nat.le_refl _) _).setCell (Nat.le_refl _) _
  | true =>
    obtain ⟨X, hX⟩ : ∃ X, statusR r.data.toList = X := ⟨_, rfl⟩
    have HSX := Lib.hid (show statusL s.data.toList = X from HS.out.trans hX)
    have HX := Lib.hid hX
    clear hX HS
    have HS := HSX
    clear HSX
    by_cases h6 : 6 ≤ r.size
    · have b0 := byte_lt r[0]
      have b1 := byte_lt r[1]
      have b5 := byte_lt r[5]
      by_cases hm : (r[0].toNat : Int) = 48 ∨ (r[0].toNat : Int) = 49
      · by_cases h1 : (r[1].toNat : Int) = 32
        · by_cases h5 : (r[5].toNat : Int) = 32
          · have HV := hValue_c (r.extract 6 r.size) (by simp; omega)
            rw [ext_drop] at HV
            obtain ⟨vb, hvb⟩ : ∃ vb, valueB (r.data.toList.drop 6) = vb := ⟨_, rfl⟩
            rw [hvb] at HV
            have HV := Lib.hid HV
            cases vb with
            | false =>
              have HX := Lib.hid (st_v hvb HX.out)
              clear hvb
              rcases hm with hm | hm
              · go_wp2_with (go_at_call 53; refine (HV.out _).mono ?_; rintro e w' ⟨rfl, rfl⟩)
                refine bodyPost_ret (v := .tuple #[.agg #[.int .i64 0, .int .i64 0, .slice none 0 0], .bool false]) (by simp [results, Try.results49, go_sem, a0, a1, a2]) rfl ⟨ret_w (by rw [HS.out, HX.out]; rfl), ?_⟩
                exact ((hB0.setCell (Nat.le_refl _) _).setCell (Nat.le_refl _) _).setCell (Nat.le_refl _) _
              · go_wp2_with (go_at_call 53; refine (HV.out _).mono ?_; rintro e w' ⟨rfl, rfl⟩)
                refine bodyPost_ret (v := .tuple #[.agg #[.int .i64 0, .int .i64 0, .slice none 0 0], .bool false]) (by simp [results, Try.results49, go_sem, a0, a1, a2]) rfl ⟨ret_w (by rw [HS.out, HX.out]; rfl), ?_⟩
                exact ((hB0.setCell (Nat.le_refl _) _).setCell (Nat.le_refl _) _).setCell (Nat.le_refl _) _
            | true =>
              have HY := Lib.hid (st_go h6 hm h1 h5 hvb HX.out)
              have HT := fun w => strict_c (r.extract 2 5) (by simp; omega) 599 (U_nat (by unfold maxU; omega)) w
              rw [ext_tk] at HT
              have h4 := strict_le ((r.data.toList.drop 2).take 3)
              have hb2 := fun h k => st_bad (X := X) h6 h k
              have hb3 := fun h h' k => st_ok (X := X) h6 h h' k
              rw [show 5 - 2 = 3 from rfl] at HT
              clear hvb HX
              generalize strictL 599 ((r.data.toList.drop 2).take 3) = P at *
              obtain ⟨n, ee⟩ := P
              have HT := Lib.hid HT
              simp only at h4 hb2 hb3
              have HB2 := Lib.hid hb2
              have HB3 := Lib.hid hb3
              clear hb2 hb3
              rcases hm with hm | hm
              · by_cases he : ee = 0
                · subst he
                  by_cases hn : 100 ≤ n
                  · have HX := Lib.hid (HB3.out rfl hn _ HY.out)
                    go_wp2_with (first | (go_at_call 53; refine (HV.out _).mono ?_; rintro e w' ⟨rfl, rfl⟩) | (go_at_call 79; refine (HT.out _).mono ?_; rintro e w' ⟨rfl, rfl⟩))
                    refine bodyPost_ret (v := .tuple #[.agg #[.int .i64 ((r[0].toNat : Int) - 48), .int .i64 (n : Int), .slice none 0 0], .bool true]) (by simp [results, Try.results49, go_sem, *]) rfl ⟨ret_w (by rw [HS.out, HX.out]; simp only [statV]; rw [show ((r[0].toNat - 48 : Nat) : Int) = (r[0].toNat : Int) - 48 by omega]), ?_⟩
                    exact ((hB0.setCell (Nat.le_refl _) _).setCell (Nat.le_refl _) _).setCell (Nat.le_refl _) _
                  · have HX := Lib.hid (HB2.out (.inr (by omega)) _ HY.out)
                    go_wp2_with (first | (go_at_call 53; refine (HV.out _).mono ?_; rintro e w' ⟨rfl, rfl⟩) | (go_at_call 79; refine (HT.out _).mono ?_; rintro e w' ⟨rfl, rfl⟩))
                    refine bodyPost_ret (v := .tuple #[.agg #[.int .i64 0, .int .i64 0, .slice none 0 0], .bool false]) (by simp [results, Try.results49, go_sem, a0, a1, a2]) rfl ⟨ret_w (by rw [HS.out, HX.out]; rfl), ?_⟩
                    exact ((hB0.setCell (Nat.le_refl _) _).setCell (Nat.le_refl _) _).setCell (Nat.le_refl _) _
                · have HX := Lib.hid (HB2.out (.inl he) _ HY.out)
                  have he' : ((ee : Int) != 0) = true := by simp; omega
                  go_wp2_with (first | (go_at_call 53; refine (HV.out _).mono ?_; rintro e w' ⟨rfl, rfl⟩) | (go_at_call 79; refine (HT.out _).mono ?_; rintro e w' ⟨rfl, rfl⟩))
                  refine bodyPost_ret (v := .tuple #[.agg #[.int .i64 0, .int .i64 0, .slice none 0 0], .bool false]) (by simp [results, Try.results49, go_sem, a0, a1, a2]) rfl ⟨ret_w (by rw [HS.out, HX.out]; rfl), ?_⟩
                  exact ((hB0.setCell (Nat.le_refl _) _).setCell (Nat.le_refl _) _).setCell (Nat.le_refl _) _
              · by_cases he : ee = 0
                · subst he
                  by_cases hn : 100 ≤ n
                  · have HX := Lib.hid (HB3.out rfl hn _ HY.out)
                    go_wp2_with (first | (go_at_call 53; refine (HV.out _).mono ?_; rintro e w' ⟨rfl, rfl⟩) | (go_at_call 79; refine (HT.out _).mono ?_; rintro e w' ⟨rfl, rfl⟩))
                    refine bodyPost_ret (v := .tuple #[.agg #[.int .i64 ((r[0].toNat : Int) - 48), .int .i64 (n : Int), .slice none 0 0], .bool true]) (by simp [results, Try.results49, go_sem, *]) rfl ⟨ret_w (by rw [HS.out, HX.out]; simp only [statV]; rw [show ((r[0].toNat - 48 : Nat) : Int) = (r[0].toNat : Int) - 48 by omega]), ?_⟩
                    exact ((hB0.setCell (Nat.le_refl _) _).setCell (Nat.le_refl _) _).setCell (Nat.le_refl _) _
                  · have HX := Lib.hid (HB2.out (.inr (by omega)) _ HY.out)
                    go_wp2_with (first | (go_at_call 53; refine (HV.out _).mono ?_; rintro e w' ⟨rfl, rfl⟩) | (go_at_call 79; refine (HT.out _).mono ?_; rintro e w' ⟨rfl, rfl⟩))
                    refine bodyPost_ret (v := .tuple #[.agg #[.int .i64 0, .int .i64 0, .slice none 0 0], .bool false]) (by simp [results, Try.results49, go_sem, a0, a1, a2]) rfl ⟨ret_w (by rw [HS.out, HX.out]; rfl), ?_⟩
                    exact ((hB0.setCell (Nat.le_refl _) _).setCell (Nat.le_refl _) _).setCell (Nat.le_refl _) _
                · have HX := Lib.hid (HB2.out (.inl he) _ HY.out)
                  have he' : ((ee : Int) != 0) = true := by simp; omega
                  go_wp2_with (first | (go_at_call 53; refine (HV.out _).mono ?_; rintro e w' ⟨rfl, rfl⟩) | (go_at_call 79; refine (HT.out _).mono ?_; rintro e w' ⟨rfl, rfl⟩))
                  refine bodyPost_ret (v := .tuple #[.agg #[.int .i64 0, .int .i64 0, .slice none 0 0], .bool false]) (by simp [results, Try.results49, go_sem, a0, a1, a2]) rfl ⟨ret_w (by rw [HS.out, HX.out]; rfl), ?_⟩
                  exact ((hB0.setCell (Nat.le_refl _) _).setCell (Nat.le_refl _) _).setCell (Nat.le_refl _) _
          · have HX := Lib.hid (st_5 h6 h5 HX.out)
            rcases hm with hm | hm
            · go_wp2_with fail
              refine bodyPost_ret (v := .tuple #[.agg #[.int .i64 0, .int .i64 0, .slice none 0 0], .bool false]) (by simp [results, Try.results49, go_sem, a0, a1, a2]) rfl ⟨ret_w (by rw [HS.out, HX.out]; rfl), ?_⟩
              exact ((hB0.setCell (Nat.le_refl _) _).setCell (Nat.le_refl _) _).setCell (Nat.le_refl _) _
            · go_wp2_with fail
              refine bodyPost_ret (v := .tuple #[.agg #[.int .i64 0, .int .i64 0, .slice none 0 0], .bool false]) (by simp [results, Try.results49, go_sem, a0, a1, a2]) rfl ⟨ret_w (by rw [HS.out, HX.out]; rfl), ?_⟩
              exact ((hB0.setCell (Nat.le_refl _) _).setCell (Nat.le_refl _) _).setCell (Nat.le_refl _) _
        · have HX := Lib.hid (st_1 h6 h1 HX.out)
          rcases hm with hm | hm
          · go_wp2_with fail
            refine bodyPost_ret (v := .tuple #[.agg #[.int .i64 0, .int .i64 0, .slice none 0 0], .bool false]) (by simp [results, Try.results49, go_sem, a0, a1, a2]) rfl ⟨ret_w (by rw [HS.out, HX.out]; rfl), ?_⟩
            exact ((hB0.setCell (Nat.le_refl _) _).setCell (Nat.le_refl _) _).setCell (Nat.le_refl _) _
          · go_wp2_with fail
            refine bodyPost_ret (v := .tuple #[.agg #[.int .i64 0, .int .i64 0, .slice none 0 0], .bool false]) (by simp [results, Try.results49, go_sem, a0, a1, a2]) rfl ⟨ret_w (by rw [HS.out, HX.out]; rfl), ?_⟩
            exact ((hB0.setCell (Nat.le_refl _) _).setCell (Nat.le_refl _) _).setCell (Nat.le_refl _) _
      · have h0 : ¬ (r[0].toNat : Int) = 48 := fun h => hm (.inl h)
        have h0' : ¬ (r[0].toNat : Int) = 49 := fun h => hm (.inr h)
        have HX := Lib.hid (st_m h6 h0 h0' HX.out)
        clear hm
        go_wp2_with fail
        refine bodyPost_ret (v := .tuple #[.agg #[.int .i64 0, .int .i64 0, .slice none 0 0], .bool false]) (by simp [results, Try.results49, go_sem, a0, a1, a2]) rfl ⟨ret_w (by rw [HS.out, HX.out]; rfl), ?_⟩
        exact ((hB0.setCell (Nat.le_refl _) _).setCell (Nat.le_refl _) _).setCell (Nat.le_refl _) _
    · have HX := Lib.hid (st_len h6 HX.out)
      go_wp2_with fail
      refine bodyPost_ret (v := .tuple #[.agg #[.int .i64 0, .int .i64 0, .slice none 0 0], .bool false]) (by simp [results, Try.results49, go_sem, a0, a1, a2]) rfl ⟨ret_w (by rw [HS.out, HX.out]; rfl), ?_⟩
      exact ((hB0.setCell (Nat.le_refl _) _).setCell (Nat.le_refl _) _).setCell (Nat.le_refl _) _
end Go.Proofs.Ytegejmbkpdlekaa
