/- Contract of webfingerref22.words. -/
import Derived.Test.YtaopehogpdgkgaaWlParse
namespace Go.Proofs.Ytaopehogpdgkgaa
open Go.RowKit
def nbN (n : Nat) : Bool := !blankN n
theorem blank_head {l t : List UInt8} {c : UInt8} (h : blankL l = c :: t) : blankN c.toNat = false := by
  induction l with
  | nil => cases h
  | cons x u ih =>
    by_cases hx : blankN x.toNat = true
    · exact ih (by rw [← h]; simp [blankL, hx])
    · have e : blankL (x :: u) = x :: u := by simp [blankL, hx]
      rw [e] at h; injection h with h1 _; subst h1; simpa using hx
theorem words_step {s : ByteArray} {j : Nat} {l : List UInt8} (h : j < s.size) (hl : s.data.toList.drop j = blankL l) :
    wordsL (s.data.toList.drop j) = ((s.data.toList.drop j).takeWhile fun x => nbN x.toNat) :: wordsL (blankL (s.data.toList.drop (j + twN nbN (s.data.toList.drop j)))) := by
  have hb : blankN s[j].toNat = false := blank_head (hl.symm.trans (drop_cons s j h))
  unfold wordsL
  rw [wordsA_blank, tw_dropS, wordsA_word]
  have hne : ((s.data.toList.drop j).takeWhile fun x => !blankN x.toNat).isEmpty = false := by
    rw [drop_cons s j h]; simp [hb]
  rw [List.nil_append, hne]
  rfl
theorem words_end {s : ByteArray} {j : Nat} (h : ¬ j < s.size) : wordsL (s.data.toList.drop j) = [] := by rw [drop_end s j h]; rfl
set_option maxRecDepth 100000 in
set_option maxHeartbeats 2000000 in
theorem rwords_c (s : ByteArray) (hs : s.size ≤ 1000000) (w : World) :
    Calls Try.prog 39 #[.string s] w fun e w' => (∃ A n c, e = .returned (.slice A n c) ∧ Strs w' w.heap.size (.slice A n c) (wordsL (lowerL s.data.toList))) ∧ Below w.heap.size w w' := by
  rw [words_lower]
  generalize hR : wordsL s.data.toList = R
  have HR := Lib.hid hR
  clear hR
  have HS0 := Lib.hid (rSkip_c s 0 (Nat.zero_le _) hs w)
  go_enter Try.func39, Try.ntmps39
  go_wp2_with fail
  refine HS0.out.mono ?_
  rintro e w1 ⟨⟨k1, i1, i2, i3, rfl⟩, rfl⟩
  have I3 := Lib.hid i3
  clear i3 HS0
  go_wp2_with fail
  go_loopg [3, 4] s.size (fun gf s3 s4 wr => ∃ (j : Nat) (acc : List (List UInt8)) (l : List UInt8), j ≤ s.size ∧ s.size ≤ j + gf ∧ s4 = .int .i64 (j : Int) ∧ acc.length ≤ j ∧ s.data.toList.drop j = blankL l ∧ acc ++ wordsL (s.data.toList.drop j) = R ∧ Strs wr w.heap.size s3 (acc.map lowerL) ∧ Below w.heap.size w wr)
  case atStart =>
    refine ⟨k1, [], _, i2, by omega, rfl, by simp, I3.out, ?_, Strs.nil, Below.refl _ _⟩
    rw [I3.out, ← HR.out]; exact wordsA_blank _
  case round =>
    obtain ⟨j, acc, l, hj, hgf, rfl, hal, hl, hX, hS, hB⟩ := hrel
    obtain ⟨uA, uc, rfl⟩ : ∃ A c, u3 = .slice A acc.length c := by have := own_slice_n hS; rwa [List.length_map] at this
    have HL := Lib.hid hl
    have HX := Lib.hid hX
    have HS := Lib.hid hS
    clear hl hX hS HR I3
    by_cases hlt : j < s.size
    · have HW := Lib.hid (words_step hlt HL.out)
      have HT := Lib.hid (tw_le nbN s j hj)
      have HE := Lib.hid (ext_tw nbN s j)
      have h1 : 0 < twN nbN (s.data.toList.drop j) := by
        have hb : nbN s[j].toNat = true := by simp [nbN, blank_head (HL.out.symm.trans (drop_cons s j hlt))]
        rw [tw_hit hlt hb]; omega
      generalize hK : j + twN nbN (s.data.toList.drop j) = K at *
      have hjK : j < K := by omega
      go_wp2_with fail
      go_loop [5] (fun i => ∃ m : Nat, j ≤ m ∧ m ≤ s.size ∧ i = .int .i64 (m : Int) ∧ m + twN nbN (s.data.toList.drop m) = K) (fun i => s.size - (intOf i).toNat)
      case atStart => exact ⟨j, Nat.le_refl _, hj, rfl, hK⟩
      case round =>
        obtain ⟨m, hjm, hm, rfl, hM⟩ := hrel
        have HM := Lib.hid hM
        have HK := Lib.hid hK
        clear hM hK
        by_cases hml : m < s.size
        · have hb := byte_lt s[m]
          by_cases hp : nbN s[m].toNat = true
          · have hp' : blankN s[m].toNat = false := by simpa [nbN] using hp
            have HP := rBlank_c (s[m].toNat : Int) (by omega) (by omega) wr
            rw [show ((s[m].toNat : Int)).toNat = s[m].toNat from by simp, hp'] at HP
            have HP := Lib.hid HP
            have HN := Lib.hid (show (m + 1) + twN nbN (s.data.toList.drop (m + 1)) = K from by have := HM.out; rw [tw_hit hml hp] at this; omega)
            clear hp hp'
            go_wp2_with (go_at_call 36; refine HP.out.mono ?_; rintro e w' ⟨rfl, rfl⟩)
            go_round
            case rel => exact ⟨m + 1, by omega, by omega, by go_num, HN.out⟩
            case measure => simp [intOf]; omega
          · have hp' : blankN s[m].toNat = true := by simpa [nbN] using hp
            have HP := rBlank_c (s[m].toNat : Int) (by omega) (by omega) wr
            rw [show ((s[m].toNat : Int)).toNat = s[m].toNat from by simp, hp'] at HP
            have HP := Lib.hid HP
            obtain rfl : m = K := by have := HM.out; rw [tw_miss hml (by simpa using hp)] at this; omega
            clear hp hp'
            go_wp2_with (go_at_call 36; refine HP.out.mono ?_; rintro e w' ⟨rfl, rfl⟩)
            refine (rLower_c (s.extract j m) (by simp; omega) _).mono ?_
            rintro e w2 ⟨rfl, hb2⟩
            have hS2 : w2.ownsRow w.heap.size 9 1 (.slice uA acc.length uc) acc.length (strsV (acc.map lowerL)) := by
              have := (HS.out.off (row := none) (grown_below hb2 none) (fun g hg => by cases hg)); unfold Strs at this; rwa [List.length_map] at this
            have hB2 : Below w.heap.size w w2 := hB.trans (hb2.mono hB.size)
            generalize HN : S (lowerL (s.extract j m).data.toList) = N at *
            have HN := Lib.hid HN
            clear hb2
            go_wp2_with (at_builtin; refine wpList_append_row infoS rfl (by decide) (by decide) rfl (.tmp 29) (.tmp 35) 39 rfl Try.underlying39 w.heap.size _ acc.length (strsV (acc.map lowerL)) rfl (hS2.alloc _) ⟨w2.heap.size, 0, none⟩ 1 [.string N] rfl rfl ?c1 ?c2 ?c3 ?c4 ?_)
            case c1 => exact news_of _ _ _ _ rfl
            case c2 => intro u hu; simp at hu; subst hu; rfl
            case c3 => omega
            case c4 => have := hB2.size; simp; omega
            intro g cap w3 hown3 hg3
            have hB3 : Below w.heap.size w w3 := (hB2.alloc hB2.size _).grown hg3 (by have := hB2.size; simp; omega) (fun k hk => (World.ownsRow.lt hS2 k hk).1)
            clear hg3 hB2 hS2
            go_wp2_with fail
            refine (rSkip_c s m hm hs _).mono ?_
            rintro e w4 ⟨⟨k5, n1, n2, n3, rfl⟩, rfl⟩
            have N3 := Lib.hid n3
            clear n3
            go_wp2_with fail
            go_roundg (gk - 1)
            case measure => omega
            case rel =>
              refine ⟨k5, acc ++ [(s.data.toList.drop j).takeWhile fun x => nbN x.toNat], _, n2, by omega, rfl, by simp; omega, N3.out, ?_, ?_, hB3⟩
              · rw [List.append_assoc, N3.out]; have := HX.out; rw [HW.out] at this; exact this
              · unfold Strs
                rw [List.length_map, List.length_append, List.map_append]
                have hN : N = S (lowerL ((s.data.toList.drop j).takeWhile fun x => nbN x.toNat)) := by rw [← HN.out, HE.out]; rfl
                rw [hN] at hown3
                simpa [strsV] using hown3
        · obtain rfl : m = K := by have := HM.out; rw [tw_end hml] at this; omega
          go_wp2_with fail
          refine (rLower_c (s.extract j m) (by simp; omega) _).mono ?_
          rintro e w2 ⟨rfl, hb2⟩
          have hS2 : w2.ownsRow w.heap.size 9 1 (.slice uA acc.length uc) acc.length (strsV (acc.map lowerL)) := by
            have := (HS.out.off (row := none) (grown_below hb2 none) (fun g hg => by cases hg)); unfold Strs at this; rwa [List.length_map] at this
          have hB2 : Below w.heap.size w w2 := hB.trans (hb2.mono hB.size)
          generalize HN : S (lowerL (s.extract j m).data.toList) = N at *
          have HN := Lib.hid HN
          clear hb2
          go_wp2_with (at_builtin; refine wpList_append_row infoS rfl (by decide) (by decide) rfl (.tmp 29) (.tmp 35) 39 rfl Try.underlying39 w.heap.size _ acc.length (strsV (acc.map lowerL)) rfl (hS2.alloc _) ⟨w2.heap.size, 0, none⟩ 1 [.string N] rfl rfl ?c1 ?c2 ?c3 ?c4 ?_)
          case c1 => exact news_of _ _ _ _ rfl
          case c2 => intro u hu; simp at hu; subst hu; rfl
          case c3 => omega
          case c4 => have := hB2.size; simp; omega
          intro g cap w3 hown3 hg3
          have hB3 : Below w.heap.size w w3 := (hB2.alloc hB2.size _).grown hg3 (by have := hB2.size; simp; omega) (fun k hk => (World.ownsRow.lt hS2 k hk).1)
          clear hg3 hB2 hS2
          go_wp2_with fail
          refine (rSkip_c s m hm hs _).mono ?_
          rintro e w4 ⟨⟨k5, n1, n2, n3, rfl⟩, rfl⟩
          have N3 := Lib.hid n3
          clear n3
          go_wp2_with fail
          go_roundg (gk - 1)
          case measure => omega
          case rel =>
            refine ⟨k5, acc ++ [(s.data.toList.drop j).takeWhile fun x => nbN x.toNat], _, n2, by omega, rfl, by simp; omega, N3.out, ?_, ?_, hB3⟩
            · rw [List.append_assoc, N3.out]; have := HX.out; rw [HW.out] at this; exact this
            · unfold Strs
              rw [List.length_map, List.length_append, List.map_append]
              have hN : N = S (lowerL ((s.data.toList.drop j).takeWhile fun x => nbN x.toNat)) := by rw [← HN.out, HE.out]; rfl
              rw [hN] at hown3
              simpa [strsV] using hown3
    · have HW := Lib.hid (words_end (s := s) hlt)
      go_wp2_with fail
      go_ret
      exact ⟨⟨_, _, _, rfl, by rw [← HX.out, HW.out, List.append_nil]; exact HS.out⟩, hB⟩
end Go.Proofs.Ytaopehogpdgkgaa
