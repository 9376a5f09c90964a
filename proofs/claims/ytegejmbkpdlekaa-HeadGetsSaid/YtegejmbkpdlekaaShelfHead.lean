/- strings.Index, strings.Cut and strings.CutPrefix: the contracts of the shelf laid at this seat; the cell of internal/bytealg.MaxLen read out of the world's shape. -/
import Derived.Shelf.Small.Strs
import Derived.Shelf.Strings.Shaped
import Derived.Shelf.Strings.Prefix
import Derived.Shelf.Small.Wraps
import Derived.Test.YtegejmbkpdlekaaRd
namespace Go.Proofs.Ytegejmbkpdlekaa
open Go.Shelf Go.RowKit
def lays103_ren : Go.Shelf.Ren := ⟨fun | 103 => 78 | 210 => 101 | 206 => 111 | n => n, fun | 9 => 9 | 4 => 4 | 24 => 46 | 3 => 3 | n => n, fun | n => n⟩
theorem lays103 : Go.Proofs.Lays.n103 Try.prog lays103_ren := {
  mixed := by kernel_rfl
  f103 := Try.func78.trans (congrArg some (by kernel_rfl))
  f206 := Try.func111.trans (congrArg some (by kernel_rfl))
  f210 := Try.func101.trans (congrArg some (by kernel_rfl))
  t3 := Try.underlying3
  a3 := Try.isAgg3
  z3 := Try.sizeOf3
  v3 := Try.zeroValue3
  t4 := Try.underlying4
  a4 := Try.isAgg4
  z4 := Try.sizeOf4
  v4 := Try.zeroValue4
  t9 := Try.underlying9
  a9 := Try.isAgg9
  z9 := Try.sizeOf9
  v9 := Try.zeroValue9
  t24 := Try.underlying46
  a24 := Try.isAgg46
  z24 := Try.sizeOf46
  v24 := Try.zeroValue46 }
def laysM143_ren : Go.Shelf.Ren := ⟨fun | 143 => 48 | 219 => 77 | 217 => 97 | 225 => 98 | 224 => 99 | 267 => 100 | 266 => 109 | 314 => 110 | n => n, fun | 9 => 9 | 3 => 3 | 4 => 4 | 5 => 5 | 46 => 99 | 146 => 105 | 51 => 104 | n => n, fun | 1 => 0 | n => n⟩
theorem laysM143 : Go.Proofs.LaysM.n143 Try.prog laysM143_ren := {
  mixed := by kernel_rfl
  f143 := Try.func48.trans (congrArg some (by kernel_rfl))
  f217 := Try.func97.trans (congrArg some (by kernel_rfl))
  f219 := Try.func77.trans (congrArg some (by kernel_rfl))
  f224 := Try.func99.trans (congrArg some (by kernel_rfl))
  f225 := Try.func98.trans (congrArg some (by kernel_rfl))
  f266 := Try.func109.trans (congrArg some (by kernel_rfl))
  f267 := Try.func100.trans (congrArg some (by kernel_rfl))
  f314 := Try.func110.trans (congrArg some (by kernel_rfl))
  t3 := Try.underlying3
  a3 := Try.isAgg3
  z3 := Try.sizeOf3
  v3 := Try.zeroValue3
  t4 := Try.underlying4
  a4 := Try.isAgg4
  z4 := Try.sizeOf4
  v4 := Try.zeroValue4
  t5 := Try.underlying5
  a5 := Try.isAgg5
  z5 := Try.sizeOf5
  v5 := Try.zeroValue5
  t9 := Try.underlying9
  a9 := Try.isAgg9
  z9 := Try.sizeOf9
  v9 := Try.zeroValue9
  t46 := Try.underlying99
  a46 := Try.isAgg99
  z46 := Try.sizeOf99
  v46 := Try.zeroValue99
  t51 := Try.underlying104
  a51 := Try.isAgg104
  z51 := Try.sizeOf104
  v51 := Try.zeroValue104
  t146 := Try.underlying105
  a146 := Try.isAgg105
  z146 := Try.sizeOf105
  v146 := Try.zeroValue105
  g1 := by kernel_rfl
  i3 := by kernel_rfl
  i4 := by kernel_rfl
  i5 := by kernel_rfl
  i9 := by kernel_rfl
  i46 := by kernel_rfl
  i51 := by kernel_rfl
  i146 := by kernel_rfl
  m1 := by kernel_rfl
  s1_3 := fun w h => Go.Proofs.cell_of_shapedOpen_int (zero := #[.int .i64 0]) (t := 3) h (of_decide_eq_true (by kernel_rfl)) (by kernel_rfl) rfl (by kernel_rfl) (by kernel_rfl) Try.underlying3 }
def laysM145_ren : Go.Shelf.Ren := ⟨fun | 145 => 51 | 220 => 80 | 219 => 77 | 217 => 97 | 225 => 98 | 224 => 99 | 267 => 100 | 266 => 109 | 314 => 110 | n => n, fun | 9 => 9 | 4 => 4 | 59 => 77 | 3 => 3 | 5 => 5 | 46 => 99 | 146 => 105 | 51 => 104 | n => n, fun | 1 => 0 | n => n⟩
theorem laysM145 : Go.Proofs.LaysM.n145 Try.prog laysM145_ren := {
  mixed := by kernel_rfl
  f145 := Try.func51.trans (congrArg some (by kernel_rfl))
  f217 := Try.func97.trans (congrArg some (by kernel_rfl))
  f219 := Try.func77.trans (congrArg some (by kernel_rfl))
  f220 := Try.func80.trans (congrArg some (by kernel_rfl))
  f224 := Try.func99.trans (congrArg some (by kernel_rfl))
  f225 := Try.func98.trans (congrArg some (by kernel_rfl))
  f266 := Try.func109.trans (congrArg some (by kernel_rfl))
  f267 := Try.func100.trans (congrArg some (by kernel_rfl))
  f314 := Try.func110.trans (congrArg some (by kernel_rfl))
  t3 := Try.underlying3
  a3 := Try.isAgg3
  z3 := Try.sizeOf3
  v3 := Try.zeroValue3
  t4 := Try.underlying4
  a4 := Try.isAgg4
  z4 := Try.sizeOf4
  v4 := Try.zeroValue4
  t5 := Try.underlying5
  a5 := Try.isAgg5
  z5 := Try.sizeOf5
  v5 := Try.zeroValue5
  t9 := Try.underlying9
  a9 := Try.isAgg9
  z9 := Try.sizeOf9
  v9 := Try.zeroValue9
  t46 := Try.underlying99
  a46 := Try.isAgg99
  z46 := Try.sizeOf99
  v46 := Try.zeroValue99
  t51 := Try.underlying104
  a51 := Try.isAgg104
  z51 := Try.sizeOf104
  v51 := Try.zeroValue104
  t59 := Try.underlying77
  a59 := Try.isAgg77
  z59 := Try.sizeOf77
  v59 := Try.zeroValue77
  t146 := Try.underlying105
  a146 := Try.isAgg105
  z146 := Try.sizeOf105
  v146 := Try.zeroValue105
  g1 := by kernel_rfl
  i3 := by kernel_rfl
  i4 := by kernel_rfl
  i5 := by kernel_rfl
  i9 := by kernel_rfl
  i46 := by kernel_rfl
  i51 := by kernel_rfl
  i59 := by kernel_rfl
  i146 := by kernel_rfl
  m1 := by kernel_rfl
  s1_3 := fun w h => Go.Proofs.cell_of_shapedOpen_int (zero := #[.int .i64 0]) (t := 3) h (of_decide_eq_true (by kernel_rfl)) (by kernel_rfl) rfl (by kernel_rfl) (by kernel_rfl) Try.underlying3 }

/-- the cell of internal/bytealg.MaxLen holds some int -/
def MaxAt (m : Int) (w : World) : Prop := w.cell? ⟨0, 0, none⟩ = some (.int .i64 m)

theorem maxAt_of_shaped (w : World) (h : w.ShapedOpen Try.prog) : ∃ m, MaxAt m w := laysM143.s1_3 w h

theorem MaxAt.below {m : Int} {base : Nat} {w w' : World} (h : MaxAt m w) (hg : 0 < base) (hb : Below base w w') : MaxAt m w' :=
  (hb.cell (p := ⟨0, 0, none⟩) hg).trans h

theorem MaxAt.lt {m : Int} {w : World} (h : MaxAt m w) : 0 < w.heap.size := World.block_lt_of_cell? _ _ h

theorem index_c (s sub : ByteArray) (m : Int) (w : World) (hs : s.size < 4294967281) (hm : MaxAt m w) :
    Calls Try.prog 48 #[.string s, .string sub] w fun e w' => e = .returned (.int .i64 (Lib.index s.data.toList sub.data.toList)) ∧ w' = w :=
  Any.strings_Index { laysM143 with } s sub m w hs hm

theorem cut_c (s sep : ByteArray) (m : Int) (w : World) (hs : s.size < 4294967281) (hm : MaxAt m w) :
    Calls Try.prog 51 #[.string s, .string sep] w fun e w' => e = .returned (.tuple #[.string ⟨(Lib.cut s.data.toList sep.data.toList).1.toArray⟩, .string ⟨(Lib.cut s.data.toList sep.data.toList).2.1.toArray⟩, .bool (Lib.cut s.data.toList sep.data.toList).2.2]) ∧ ∃ n, w' = w.drewN n :=
  Any.strings_Cut { laysM145 with } s sep m w hs hm

theorem cutPrefix_c (s p : ByteArray) (w : World) :
    Calls Try.prog 78 #[.string s, .string p] w fun e w' => e = .returned (.tuple #[.string ⟨(Lib.trimPrefix s.data.toList p.data.toList).toArray⟩, .bool (Lib.hasPrefix s.data.toList p.data.toList)]) ∧ w' = w := Any.strings_CutPrefix lays103 s p w
end Go.Proofs.Ytegejmbkpdlekaa
