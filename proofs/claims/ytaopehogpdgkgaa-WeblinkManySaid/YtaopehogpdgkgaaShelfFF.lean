/- strings.FieldsFunc at blanks: the contract of the shelf laid at this seat, and what it answers: the words of a value. -/
import Derived.Shelf.Strings.FieldsFuncAny
import Derived.Test.YtaopehogpdgkgaaWlMem
namespace Go.Proofs.Ytaopehogpdgkgaa
open Go.Shelf Go.RowKit Go.Lib
def laysFF_ren : Go.Shelf.Ren := ⟨fun | 229 => 46 | n => n, fun | 0 => 0 | 3 => 3 | 4 => 4 | 9 => 9 | 21 => 21 | 31 => 39 | 40 => 71 | 152 => 92 | 154 => 94 | n => n, fun | n => n⟩
theorem laysFF : Go.Proofs.Lays.n229 Try.prog laysFF_ren := {
  mixed := by kernel_rfl
  f229 := Try.func46.trans (congrArg some (by kernel_rfl))
  t0 := Try.underlying0
  a0 := Try.isAgg0
  z0 := Try.sizeOf0
  v0 := Try.zeroValue0
  t3 := Try.underlying3
  a3 := Try.isAgg3
  z3 := Try.sizeOf3
  v3 := Try.zeroValue3
  t4 := Try.underlying4
  a4 := Try.isAgg4
  z4 := Try.sizeOf4
  v4 := Try.zeroValue4
  t9 := Try.underlying9
  a9 := Try.isAgg9
  z9 := Try.sizeOf9
  v9 := Try.zeroValue9
  t21 := Try.underlying21
  a21 := Try.isAgg21
  z21 := Try.sizeOf21
  v21 := Try.zeroValue21
  t31 := Try.underlying39
  a31 := Try.isAgg39
  z31 := Try.sizeOf39
  v31 := Try.zeroValue39
  t40 := Try.underlying71
  a40 := Try.isAgg71
  z40 := Try.sizeOf71
  v40 := Try.zeroValue71
  t152 := Try.underlying92
  a152 := Try.isAgg92
  z152 := Try.sizeOf92
  v152 := Try.zeroValue92
  t154 := Try.underlying94
  a154 := Try.isAgg94
  z154 := Try.sizeOf94
  v154 := Try.zeroValue94 }
/-- weblink.blank -/
theorem runeBlank_c (x : Nat) (hx : x ≤ 1114111) (w : World) : Calls Try.prog 47 #[.int .i32 (x : Int)] w fun e w' => e = .returned (.bool (blankN x)) ∧ w = w' := by
  have hb : blankN x = (((x : Int) == 32) || ((x : Int) == 9)) := by
    rw [Bool.eq_iff_iff]; simp [blankN]; omega
  have HB := Lib.hid hb
  clear hb
  go_enter Try.func47, Try.ntmps47
  go_wp2
  all_goals
    go_ret
    exact ⟨ret_b (by rw [HB.out]; try simp [*]), rfl⟩
theorem blank_pred (w : World) : PredAtRunes Try.prog 47 #[] blankN w := fun W x hx _ =>
  (runeBlank_c x hx W).mono fun _ _ ⟨he, hw⟩ => ⟨he, 0, hw.symm⟩
theorem enters_blank (args : Array Value) (w : World) : (callFunc 47 args).run Try.prog w = .ok (.enter 47 args) w :=
  enters_of Try.func47 (by kernel_rfl) rfl args w
theorem fieldsFunc_c (s : ByteArray) (hs : s.size ≤ 1000000) (w : World) :
    Calls Try.prog 46 #[.string s, .func (.func 47) #[] #[]] w fun e w' => (∃ rv, e = .returned rv ∧ Strs w' w.heap.size rv (wordsL s.data.toList)) ∧ Below w.heap.size w w' := by
  refine (Any.strings_FieldsFunc_runes laysFF 47 #[] enters_blank blankN s w (by omega) (blank_pred w) (by kernel_rfl) (by kernel_rfl)).mono ?_
  rintro e w' ⟨A, rfl, hA, hown, hb⟩
  refine ⟨⟨_, rfl, ?_⟩, hb⟩
  rw [goFields_words, List.length_map, fields_strsV] at hown
  rw [goFields_words, List.length_map]
  exact hown
end Go.Proofs.Ytaopehogpdgkgaa
