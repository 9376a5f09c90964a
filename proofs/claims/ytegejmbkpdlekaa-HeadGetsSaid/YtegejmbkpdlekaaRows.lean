/-
  No cell of these rows narrows 'for every input' (looked for: loops, veiled, ifaces, maps, wideKeys, modest, calm, conditions, laid).
  DERIVED. THE GIVEN ROWS OF THIS SEAT. 8 by the template 'for every input the law returns true; each argument reads behind the call as it read before'; 0 by the template 'total and deterministic' (their statements: YtegejmbkpdlekaaTotals.lean).
  GIVEN WITH THE SEED: the statements are not yours to turn. If you find one false, say at which input.
  Laid BY PROGRAM, IN A SANDBOX (cutbox-rows.mjs): the forced cells as the released guide's own fill.sh prints them over the translation 88dae4f0f9410555… (all of the seat's roots in one cut). By AI agents, Wed Nov 11 2026. No macro, syntax, notation, axiom, sorry.
-/
import Derived.Test.YtegejmbkpdlekaaChecked
import GoSem.Claim
import GoSem.ClaimJoined
import GoSem.ClaimMapViews
import Derived.JoinedTies
import Derived.KernelRfl
namespace Go.Proofs.Ytegejmbkpdlekaa
/- THE CELL 'sum', in the pinned program and in every row, IS THE sha256 OF THE DUMP (.gsa) THAT YtegejmbkpdlekaaProg.lean LOADS. Nothing in Lean hashes anything: it is a label: what it is worth is what the hold of that sum in a sandbox is worth. -/
noncomputable def Try.pinned : Pinned := { name := "ytegejmbkpdlekaa", sum := "88dae4f0f941055575b9ca44325a5b28fd75f4e07e1066d0623d95b9bdcb7f3c", checked := Try.checked }
namespace Rows
def none {H : Type} : Left H := { results := [], args := [] }

/-- 'webfingerlaw21.FreshDirectives': WHATEVER THE INPUT: true; the input reads as it did. -/
def freshDirectivesSpec : ChangeSpec := { name := "freshDirectives", fn := fun _ => fun
  | [d] => { results := [.lit (.bool true)], args := [d] }
  | _ => none }
def freshDirectivesRow : OpenClaim := { program := "ytegejmbkpdlekaa", sum := "88dae4f0f941055575b9ca44325a5b28fd75f4e07e1066d0623d95b9bdcb7f3c", func := "webfinger/webfingerlaw21.FreshDirectives", spec := "freshDirectives", inPlace := ["internal/abi.NoEscape", "internal/bytealg.MakeNoZero", "internal/bytealg.IndexByteString"], unfollowed := true, recurses := true, apart := false }
def FreshDirectivesSaid : Prop := freshDirectivesRow.holds Try.pinned (OpenSpec.ofChange freshDirectivesSpec)

/-- ITS FALSE NEIGHBOUR: 'it returns false'. Refute it at one input. -/
def freshDirectivesWrong : ChangeSpec := { name := "freshDirectives", fn := fun _ => fun
  | [d] => { results := [.lit (.bool false)], args := [d] }
  | _ => none }
def FreshDirectivesWrongFalsely : Prop := freshDirectivesRow.holds Try.pinned (OpenSpec.ofChange freshDirectivesWrong)

/-- 'webfingerlaw21.FreshOf': WHATEVER THE INPUT: true; the input reads as it did. -/
def freshOfSpec : ChangeSpec := { name := "freshOf", fn := fun _ => fun
  | [d1, d2, d3] => { results := [.lit (.bool true)], args := [d1, d2, d3] }
  | _ => none }
def freshOfRow : OpenClaim := { program := "ytegejmbkpdlekaa", sum := "88dae4f0f941055575b9ca44325a5b28fd75f4e07e1066d0623d95b9bdcb7f3c", func := "webfinger/webfingerlaw21.FreshOf", spec := "freshOf", inPlace := ["internal/abi.NoEscape", "internal/bytealg.MakeNoZero", "internal/bytealg.IndexByteString"], unfollowed := true, recurses := true, apart := false }
def FreshOfSaid : Prop := freshOfRow.holds Try.pinned (OpenSpec.ofChange freshOfSpec)

/-- ITS FALSE NEIGHBOUR: 'it returns false'. Refute it at one input. -/
def freshOfWrong : ChangeSpec := { name := "freshOf", fn := fun _ => fun
  | [d1, d2, d3] => { results := [.lit (.bool false)], args := [d1, d2, d3] }
  | _ => none }
def FreshOfWrongFalsely : Prop := freshOfRow.holds Try.pinned (OpenSpec.ofChange freshOfWrong)

/-- 'webfingerlaw21.FreshLeast': WHATEVER THE INPUT: true; the input reads as it did. -/
def freshLeastSpec : ChangeSpec := { name := "freshLeast", fn := fun _ => fun
  | [d1, d2, d3] => { results := [.lit (.bool true)], args := [d1, d2, d3] }
  | _ => none }
def freshLeastRow : OpenClaim := { program := "ytegejmbkpdlekaa", sum := "88dae4f0f941055575b9ca44325a5b28fd75f4e07e1066d0623d95b9bdcb7f3c", func := "webfinger/webfingerlaw21.FreshLeast", spec := "freshLeast", inPlace := ["internal/abi.NoEscape", "internal/bytealg.MakeNoZero", "internal/bytealg.IndexByteString"], unfollowed := true, recurses := true, apart := false }
def FreshLeastSaid : Prop := freshLeastRow.holds Try.pinned (OpenSpec.ofChange freshLeastSpec)

/-- ITS FALSE NEIGHBOUR: 'it returns false'. Refute it at one input. -/
def freshLeastWrong : ChangeSpec := { name := "freshLeast", fn := fun _ => fun
  | [d1, d2, d3] => { results := [.lit (.bool false)], args := [d1, d2, d3] }
  | _ => none }
def FreshLeastWrongFalsely : Prop := freshLeastRow.holds Try.pinned (OpenSpec.ofChange freshLeastWrong)

/-- 'webfingerlaw21.FreshBounded': WHATEVER THE INPUT: true; the input reads as it did. -/
def freshBoundedSpec : ChangeSpec := { name := "freshBounded", fn := fun _ => fun
  | [d1, d2, d3] => { results := [.lit (.bool true)], args := [d1, d2, d3] }
  | _ => none }
def freshBoundedRow : OpenClaim := { program := "ytegejmbkpdlekaa", sum := "88dae4f0f941055575b9ca44325a5b28fd75f4e07e1066d0623d95b9bdcb7f3c", func := "webfinger/webfingerlaw21.FreshBounded", spec := "freshBounded", inPlace := ["internal/abi.NoEscape", "internal/bytealg.MakeNoZero", "internal/bytealg.IndexByteString"], unfollowed := true, recurses := true, apart := false }
def FreshBoundedSaid : Prop := freshBoundedRow.holds Try.pinned (OpenSpec.ofChange freshBoundedSpec)

/-- ITS FALSE NEIGHBOUR: 'it returns false'. Refute it at one input. -/
def freshBoundedWrong : ChangeSpec := { name := "freshBounded", fn := fun _ => fun
  | [d1, d2, d3] => { results := [.lit (.bool false)], args := [d1, d2, d3] }
  | _ => none }
def FreshBoundedWrongFalsely : Prop := freshBoundedRow.holds Try.pinned (OpenSpec.ofChange freshBoundedWrong)

/-- 'webfingerlaw18.HeadParses': WHATEVER THE INPUT: true; the input reads as it did. -/
def headParsesSpec : ChangeSpec := { name := "headParses", fn := fun _ => fun
  | [d] => { results := [.lit (.bool true)], args := [d] }
  | _ => none }
def headParsesRow : OpenClaim := { program := "ytegejmbkpdlekaa", sum := "88dae4f0f941055575b9ca44325a5b28fd75f4e07e1066d0623d95b9bdcb7f3c", func := "webfinger/webfingerlaw18.HeadParses", spec := "headParses", inPlace := ["internal/bytealg.IndexByteString", "internal/bytealg.IndexString", "internal/abi.NoEscape", "internal/bytealg.MakeNoZero"], unfollowed := true, recurses := true, named := ["internal/bytealg.MaxLen"], apart := false }
def HeadParsesSaid : Prop := headParsesRow.holds Try.pinned (OpenSpec.ofChange headParsesSpec)

/-- ITS FALSE NEIGHBOUR: 'it returns false'. Refute it at one input. -/
def headParsesWrong : ChangeSpec := { name := "headParses", fn := fun _ => fun
  | [d] => { results := [.lit (.bool false)], args := [d] }
  | _ => none }
def HeadParsesWrongFalsely : Prop := headParsesRow.holds Try.pinned (OpenSpec.ofChange headParsesWrong)

/-- 'webfingerlaw18.HeadMany': WHATEVER THE INPUT: true; the input reads as it did. -/
def headManySpec : ChangeSpec := { name := "headMany", fn := fun _ => fun
  | [d1, d2] => { results := [.lit (.bool true)], args := [d1, d2] }
  | _ => none }
def headManyRow : OpenClaim := { program := "ytegejmbkpdlekaa", sum := "88dae4f0f941055575b9ca44325a5b28fd75f4e07e1066d0623d95b9bdcb7f3c", func := "webfinger/webfingerlaw18.HeadMany", spec := "headMany", inPlace := ["internal/bytealg.IndexByteString", "internal/bytealg.IndexString", "internal/abi.NoEscape", "internal/bytealg.MakeNoZero"], unfollowed := true, recurses := true, named := ["internal/bytealg.MaxLen"], apart := false }
def HeadManySaid : Prop := headManyRow.holds Try.pinned (OpenSpec.ofChange headManySpec)

/-- ITS FALSE NEIGHBOUR: 'it returns false'. Refute it at one input. -/
def headManyWrong : ChangeSpec := { name := "headMany", fn := fun _ => fun
  | [d1, d2] => { results := [.lit (.bool false)], args := [d1, d2] }
  | _ => none }
def HeadManyWrongFalsely : Prop := headManyRow.holds Try.pinned (OpenSpec.ofChange headManyWrong)

/-- 'webfingerlaw18.HeadGets': WHATEVER THE INPUT: true; the input reads as it did. -/
def headGetsSpec : ChangeSpec := { name := "headGets", fn := fun _ => fun
  | [d1, d2] => { results := [.lit (.bool true)], args := [d1, d2] }
  | _ => none }
def headGetsRow : OpenClaim := { program := "ytegejmbkpdlekaa", sum := "88dae4f0f941055575b9ca44325a5b28fd75f4e07e1066d0623d95b9bdcb7f3c", func := "webfinger/webfingerlaw18.HeadGets", spec := "headGets", inPlace := ["internal/bytealg.IndexByteString", "internal/bytealg.IndexString", "internal/abi.NoEscape", "internal/bytealg.MakeNoZero"], unfollowed := true, recurses := true, named := ["internal/bytealg.MaxLen"], apart := false }
def HeadGetsSaid : Prop := headGetsRow.holds Try.pinned (OpenSpec.ofChange headGetsSpec)

/-- ITS FALSE NEIGHBOUR: 'it returns false'. Refute it at one input. -/
def headGetsWrong : ChangeSpec := { name := "headGets", fn := fun _ => fun
  | [d1, d2] => { results := [.lit (.bool false)], args := [d1, d2] }
  | _ => none }
def HeadGetsWrongFalsely : Prop := headGetsRow.holds Try.pinned (OpenSpec.ofChange headGetsWrong)

/-- 'webfingerlaw18.HeadBack': WHATEVER THE INPUT: true; the input reads as it did. -/
def headBackSpec : ChangeSpec := { name := "headBack", fn := fun _ => fun
  | [d1, d2] => { results := [.lit (.bool true)], args := [d1, d2] }
  | _ => none }
def headBackRow : OpenClaim := { program := "ytegejmbkpdlekaa", sum := "88dae4f0f941055575b9ca44325a5b28fd75f4e07e1066d0623d95b9bdcb7f3c", func := "webfinger/webfingerlaw18.HeadBack", spec := "headBack", inPlace := ["internal/bytealg.IndexByteString", "internal/bytealg.IndexString", "internal/abi.NoEscape", "internal/bytealg.MakeNoZero"], unfollowed := true, recurses := true, named := ["internal/bytealg.MaxLen"], apart := false }
def HeadBackSaid : Prop := headBackRow.holds Try.pinned (OpenSpec.ofChange headBackSpec)

/-- ITS FALSE NEIGHBOUR: 'it returns false'. Refute it at one input. -/
def headBackWrong : ChangeSpec := { name := "headBack", fn := fun _ => fun
  | [d1, d2] => { results := [.lit (.bool false)], args := [d1, d2] }
  | _ => none }
def HeadBackWrongFalsely : Prop := headBackRow.holds Try.pinned (OpenSpec.ofChange headBackWrong)

/- THE SECOND FORM. 'bulk': how many values and letters a reading holds, each counted each time it is reached (what is shared counts as often as it is met; a slice's spare places count too). A statement '..UptoSaid' is the law's where the arguments, and the package variables that the reading takes, are together of bulk at most 1048576: NARROWER than '..Said'. Prove '..Said' where nothing that the law and all that it calls make is longer than what came in: it says more and counts as full. Else prove '..UptoSaid'. A law counts once. -/
mutual
def uptoBulk {H : Type} : DataW H → Nat
  | .lit (.string bytes) => bytes.length + 1
  | .lit _ => 1
  | .nil => 1
  | .ptr d => uptoBulk d + 1
  | .slice elems spare => uptoBulkAll elems + uptoBulkAll spare + 1
  | .agg parts => uptoBulkAll parts + 1
  | .iface _ d => uptoBulk d + 1
  | .map entries => uptoBulkEntries entries + 1
  | .held _ => 1
def uptoBulkAll {H : Type} : List (DataW H) → Nat
  | [] => 0
  | d :: r => uptoBulk d + uptoBulkAll r
def uptoBulkEntries {H : Type} : List (Lit × DataW H) → Nat
  | [] => 0
  | x :: r => uptoBulkEntry x + uptoBulkEntries r
def uptoBulkEntry {H : Type} : Lit × DataW H → Nat
  | (.string bytes, d) => bytes.length + uptoBulk d + 1
  | (_, d) => uptoBulk d + 1
 end
def uptoSmall : (H : Type) → List (DataW H) → Bool := fun _ ds => decide (uptoBulkAll ds ≤ 1048576)
def OpenSpec.upto (s : _root_.Go.ChangeSpec) : _root_.Go.OpenSpec := { _root_.Go.OpenSpec.ofChange s with cond := some uptoSmall }

/-- 'webfingerlaw21.FreshDirectives', WHERE WHAT IT READS IS OF BULK AT MOST 1048576: true; the input reads as it did. -/
def freshDirectivesUptoRow : OpenClaim := { program := "ytegejmbkpdlekaa", sum := "88dae4f0f941055575b9ca44325a5b28fd75f4e07e1066d0623d95b9bdcb7f3c", func := "webfinger/webfingerlaw21.FreshDirectives", spec := "freshDirectives", inPlace := ["internal/abi.NoEscape", "internal/bytealg.MakeNoZero", "internal/bytealg.IndexByteString"], unfollowed := true, recurses := true, apart := false, narrowed := true }
def FreshDirectivesUptoSaid : Prop := freshDirectivesUptoRow.holds Try.pinned (OpenSpec.upto freshDirectivesSpec)

/-- 'webfingerlaw21.FreshOf', WHERE WHAT IT READS IS OF BULK AT MOST 1048576: true; the input reads as it did. -/
def freshOfUptoRow : OpenClaim := { program := "ytegejmbkpdlekaa", sum := "88dae4f0f941055575b9ca44325a5b28fd75f4e07e1066d0623d95b9bdcb7f3c", func := "webfinger/webfingerlaw21.FreshOf", spec := "freshOf", inPlace := ["internal/abi.NoEscape", "internal/bytealg.MakeNoZero", "internal/bytealg.IndexByteString"], unfollowed := true, recurses := true, apart := false, narrowed := true }
def FreshOfUptoSaid : Prop := freshOfUptoRow.holds Try.pinned (OpenSpec.upto freshOfSpec)

/-- 'webfingerlaw21.FreshLeast', WHERE WHAT IT READS IS OF BULK AT MOST 1048576: true; the input reads as it did. -/
def freshLeastUptoRow : OpenClaim := { program := "ytegejmbkpdlekaa", sum := "88dae4f0f941055575b9ca44325a5b28fd75f4e07e1066d0623d95b9bdcb7f3c", func := "webfinger/webfingerlaw21.FreshLeast", spec := "freshLeast", inPlace := ["internal/abi.NoEscape", "internal/bytealg.MakeNoZero", "internal/bytealg.IndexByteString"], unfollowed := true, recurses := true, apart := false, narrowed := true }
def FreshLeastUptoSaid : Prop := freshLeastUptoRow.holds Try.pinned (OpenSpec.upto freshLeastSpec)

/-- 'webfingerlaw21.FreshBounded', WHERE WHAT IT READS IS OF BULK AT MOST 1048576: true; the input reads as it did. -/
def freshBoundedUptoRow : OpenClaim := { program := "ytegejmbkpdlekaa", sum := "88dae4f0f941055575b9ca44325a5b28fd75f4e07e1066d0623d95b9bdcb7f3c", func := "webfinger/webfingerlaw21.FreshBounded", spec := "freshBounded", inPlace := ["internal/abi.NoEscape", "internal/bytealg.MakeNoZero", "internal/bytealg.IndexByteString"], unfollowed := true, recurses := true, apart := false, narrowed := true }
def FreshBoundedUptoSaid : Prop := freshBoundedUptoRow.holds Try.pinned (OpenSpec.upto freshBoundedSpec)

/-- 'webfingerlaw18.HeadParses', WHERE WHAT IT READS IS OF BULK AT MOST 1048576: true; the input reads as it did. -/
def headParsesUptoRow : OpenClaim := { program := "ytegejmbkpdlekaa", sum := "88dae4f0f941055575b9ca44325a5b28fd75f4e07e1066d0623d95b9bdcb7f3c", func := "webfinger/webfingerlaw18.HeadParses", spec := "headParses", inPlace := ["internal/bytealg.IndexByteString", "internal/bytealg.IndexString", "internal/abi.NoEscape", "internal/bytealg.MakeNoZero"], unfollowed := true, recurses := true, named := ["internal/bytealg.MaxLen"], apart := false, narrowed := true }
def HeadParsesUptoSaid : Prop := headParsesUptoRow.holds Try.pinned (OpenSpec.upto headParsesSpec)

/-- 'webfingerlaw18.HeadMany', WHERE WHAT IT READS IS OF BULK AT MOST 1048576: true; the input reads as it did. -/
def headManyUptoRow : OpenClaim := { program := "ytegejmbkpdlekaa", sum := "88dae4f0f941055575b9ca44325a5b28fd75f4e07e1066d0623d95b9bdcb7f3c", func := "webfinger/webfingerlaw18.HeadMany", spec := "headMany", inPlace := ["internal/bytealg.IndexByteString", "internal/bytealg.IndexString", "internal/abi.NoEscape", "internal/bytealg.MakeNoZero"], unfollowed := true, recurses := true, named := ["internal/bytealg.MaxLen"], apart := false, narrowed := true }
def HeadManyUptoSaid : Prop := headManyUptoRow.holds Try.pinned (OpenSpec.upto headManySpec)

/-- 'webfingerlaw18.HeadGets', WHERE WHAT IT READS IS OF BULK AT MOST 1048576: true; the input reads as it did. -/
def headGetsUptoRow : OpenClaim := { program := "ytegejmbkpdlekaa", sum := "88dae4f0f941055575b9ca44325a5b28fd75f4e07e1066d0623d95b9bdcb7f3c", func := "webfinger/webfingerlaw18.HeadGets", spec := "headGets", inPlace := ["internal/bytealg.IndexByteString", "internal/bytealg.IndexString", "internal/abi.NoEscape", "internal/bytealg.MakeNoZero"], unfollowed := true, recurses := true, named := ["internal/bytealg.MaxLen"], apart := false, narrowed := true }
def HeadGetsUptoSaid : Prop := headGetsUptoRow.holds Try.pinned (OpenSpec.upto headGetsSpec)

/-- 'webfingerlaw18.HeadBack', WHERE WHAT IT READS IS OF BULK AT MOST 1048576: true; the input reads as it did. -/
def headBackUptoRow : OpenClaim := { program := "ytegejmbkpdlekaa", sum := "88dae4f0f941055575b9ca44325a5b28fd75f4e07e1066d0623d95b9bdcb7f3c", func := "webfinger/webfingerlaw18.HeadBack", spec := "headBack", inPlace := ["internal/bytealg.IndexByteString", "internal/bytealg.IndexString", "internal/abi.NoEscape", "internal/bytealg.MakeNoZero"], unfollowed := true, recurses := true, named := ["internal/bytealg.MaxLen"], apart := false, narrowed := true }
def HeadBackUptoSaid : Prop := headBackUptoRow.holds Try.pinned (OpenSpec.upto headBackSpec)

end Rows
end Go.Proofs.Ytegejmbkpdlekaa
