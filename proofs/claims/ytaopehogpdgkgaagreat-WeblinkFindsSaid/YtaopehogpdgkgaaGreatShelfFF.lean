/- strings.FieldsFunc at blanks: the contract of the shelf laid at this seat, and what it answers: the words of a value. -/
import Derived.Shelf.Strings.FieldsFuncAny
import Derived.Test.YtaopehogpdgkgaaGreatWlMem
namespace Go.Proofs.YtaopehogpdgkgaaGreat
open Go.Shelf Go.RowKit Go.Lib
def laysFF_ren : Go.Shelf.Ren := ⟨fun | 229 => 73 | n => n, fun | 0 => 0 | 3 => 3 | 4 => 4 | 9 => 9 | 21 => 21 | 31 => 57 | 40 => 106 | 152 => 113 | 154 => 115 | n => n, fun | n => n⟩
theorem laysFF : Go.Proofs.Lays.n229 Tryz.prog laysFF_ren := {
  mixed := by kernel_rfl
  f229 := Tryz.func73.trans (congrArg some (by kernel_rfl))
  t0 := Tryz.underlying0
  a0 := Tryz.isAgg0
  z0 := Tryz.sizeOf0
  v0 := Tryz.zeroValue0
  t3 := Tryz.underlying3
  a3 := Tryz.isAgg3
  z3 := Tryz.sizeOf3
  v3 := Tryz.zeroValue3
  t4 := Tryz.underlying4
  a4 := Tryz.isAgg4
  z4 := Tryz.sizeOf4
  v4 := Tryz.zeroValue4
  t9 := Tryz.underlying9
  a9 := Tryz.isAgg9
  z9 := Tryz.sizeOf9
  v9 := Tryz.zeroValue9
  t21 := Tryz.underlying21
  a21 := Tryz.isAgg21
  z21 := Tryz.sizeOf21
  v21 := Tryz.zeroValue21
  t31 := Tryz.underlying57
  a31 := Tryz.isAgg57
  z31 := Tryz.sizeOf57
  v31 := Tryz.zeroValue57
  t40 := Tryz.underlying106
  a40 := Tryz.isAgg106
  z40 := Tryz.sizeOf106
  v40 := Tryz.zeroValue106
  t152 := Tryz.underlying113
  a152 := Tryz.isAgg113
  z152 := Tryz.sizeOf113
  v152 := Tryz.zeroValue113
  t154 := Tryz.underlying115
  a154 := Tryz.isAgg115
  z154 := Tryz.sizeOf115
  v154 := Tryz.zeroValue115 }
/-- weblink.blank -/
theorem runeBlank_c (x : Nat) (hx : x ≤ 1114111) (w : World) : Calls Tryz.prog 74 #[.int .i32 (x : Int)] w fun e w' => e = .returned (.bool (blankN x)) ∧ w = w' := by
  have hb : blankN x = (((x : Int) == 32) || ((x : Int) == 9)) := by
    rw [Bool.eq_iff_iff]; simp [blankN]; omega
  have HB := Lib.hid hb
  clear hb
  go_enter Tryz.func74, Tryz.ntmps74
  go_wp2
  all_goals
    go_ret
    exact ⟨ret_b (by rw [HB.out]; try simp [*]), rfl⟩
theorem blank_pred (w : World) : PredAtRunes Tryz.prog 74 #[] blankN w := fun W x hx _ =>
  (runeBlank_c x hx W).mono fun _ _ ⟨he, hw⟩ => ⟨he, 0, hw.symm⟩
theorem enters_blank (args : Array Value) (w : World) : (callFunc 74 args).run Tryz.prog w = .ok (.enter 74 args) w :=
  enters_of Tryz.func74 (by kernel_rfl) rfl args w
theorem fieldsFunc_c (s : ByteArray) (hs : s.size ≤ 1000000) (w : World) :
    Calls Tryz.prog 73 #[.string s, .func (.func 74) #[] #[]] w fun e w' => (∃ rv, e = .returned rv ∧ Strs w' w.heap.size rv (wordsL s.data.toList)) ∧ Below w.heap.size w w' := by
  refine (Any.strings_FieldsFunc_runes laysFF 74 #[] enters_blank blankN s w (by omega) (blank_pred w) (by kernel_rfl) (by kernel_rfl)).mono ?_
  rintro e w' ⟨A, rfl, hA, hown, hb⟩
  refine ⟨⟨_, rfl, ?_⟩, hb⟩
  rw [goFields_words, List.length_map, fields_strsV] at hown
  rw [goFields_words, List.length_map]
  exact hown
end Go.Proofs.YtaopehogpdgkgaaGreat
