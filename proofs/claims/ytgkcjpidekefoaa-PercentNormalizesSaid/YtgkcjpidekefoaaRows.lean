/-
  No cell of these rows narrows 'for every input' (looked for: loops, veiled, ifaces, maps, wideKeys, modest, calm, conditions, laid).
  DERIVED. THE GIVEN ROWS OF THIS SEAT. 11 by the template 'for every input the law returns true; each argument reads behind the call as it read before'; 0 by the template 'total and deterministic' (their statements: YtgkcjpidekefoaaTotals.lean).
  GIVEN WITH THE SEED: the statements are not yours to turn. If you find one false, say at which input.
  Laid BY PROGRAM, IN A SANDBOX (cutbox-rows.mjs): the forced cells as the released guide's own fill.sh prints them over the translation 5181c900e980cee7… (all of the seat's roots in one cut). By AI agents, Wed Nov 11 2026. No macro, syntax, notation, axiom, sorry.
-/
import Derived.Test.YtgkcjpidekefoaaChecked
import GoSem.Claim
import GoSem.ClaimJoined
import GoSem.ClaimMapViews
import Derived.JoinedTies
import Derived.KernelRfl
namespace Go.Proofs.Ytgkcjpidekefoaa
/- THE CELL 'sum', in the pinned program and in every row, IS THE sha256 OF THE DUMP (.gsa) THAT YtgkcjpidekefoaaProg.lean LOADS. Nothing in Lean hashes anything: it is a label: what it is worth is what the hold of that sum in a sandbox is worth. -/
noncomputable def Try.pinned : Pinned := { name := "ytgkcjpidekefoaa", sum := "5181c900e980cee7329a97fca379c5efb2486b81e09ce039a88c48e142268ed7", checked := Try.checked }
namespace Rows
def none {H : Type} : Left H := { results := [], args := [] }

/-- 'webfingerlaw01.AsciiClasses': WHATEVER THE INPUT: true; the input reads as it did. -/
def asciiClassesSpec : ChangeSpec := { name := "asciiClasses", fn := fun _ => fun
  | [d] => { results := [.lit (.bool true)], args := [d] }
  | _ => none }
def asciiClassesRow : OpenClaim := { program := "ytgkcjpidekefoaa", sum := "5181c900e980cee7329a97fca379c5efb2486b81e09ce039a88c48e142268ed7", func := "webfinger/webfingerlaw01.AsciiClasses", spec := "asciiClasses", inPlace := ["internal/bytealg.IndexByteString"], unfollowed := true, recurses := true, apart := false }
def AsciiClassesSaid : Prop := asciiClassesRow.holds Try.pinned (OpenSpec.ofChange asciiClassesSpec)

/-- ITS FALSE NEIGHBOUR: 'it returns false'. Refute it at one input. -/
def asciiClassesWrong : ChangeSpec := { name := "asciiClasses", fn := fun _ => fun
  | [d] => { results := [.lit (.bool false)], args := [d] }
  | _ => none }
def AsciiClassesWrongFalsely : Prop := asciiClassesRow.holds Try.pinned (OpenSpec.ofChange asciiClassesWrong)

/-- 'webfingerlaw01.AsciiStrings': WHATEVER THE INPUT: true; the input reads as it did. -/
def asciiStringsSpec : ChangeSpec := { name := "asciiStrings", fn := fun _ => fun
  | [d1, d2] => { results := [.lit (.bool true)], args := [d1, d2] }
  | _ => none }
def asciiStringsRow : OpenClaim := { program := "ytgkcjpidekefoaa", sum := "5181c900e980cee7329a97fca379c5efb2486b81e09ce039a88c48e142268ed7", func := "webfinger/webfingerlaw01.AsciiStrings", spec := "asciiStrings", inPlace := ["internal/bytealg.IndexByteString"], unfollowed := true, recurses := true, apart := false }
def AsciiStringsSaid : Prop := asciiStringsRow.holds Try.pinned (OpenSpec.ofChange asciiStringsSpec)

/-- ITS FALSE NEIGHBOUR: 'it returns false'. Refute it at one input. -/
def asciiStringsWrong : ChangeSpec := { name := "asciiStrings", fn := fun _ => fun
  | [d1, d2] => { results := [.lit (.bool false)], args := [d1, d2] }
  | _ => none }
def AsciiStringsWrongFalsely : Prop := asciiStringsRow.holds Try.pinned (OpenSpec.ofChange asciiStringsWrong)

/-- 'webfingerlaw01.AsciiAgain': WHATEVER THE INPUT: true; the input reads as it did. -/
def asciiAgainSpec : ChangeSpec := { name := "asciiAgain", fn := fun _ => fun
  | [d1, d2] => { results := [.lit (.bool true)], args := [d1, d2] }
  | _ => none }
def asciiAgainRow : OpenClaim := { program := "ytgkcjpidekefoaa", sum := "5181c900e980cee7329a97fca379c5efb2486b81e09ce039a88c48e142268ed7", func := "webfinger/webfingerlaw01.AsciiAgain", spec := "asciiAgain", inPlace := ["internal/bytealg.IndexByteString"], unfollowed := true, recurses := true, apart := false }
def AsciiAgainSaid : Prop := asciiAgainRow.holds Try.pinned (OpenSpec.ofChange asciiAgainSpec)

/-- ITS FALSE NEIGHBOUR: 'it returns false'. Refute it at one input. -/
def asciiAgainWrong : ChangeSpec := { name := "asciiAgain", fn := fun _ => fun
  | [d1, d2] => { results := [.lit (.bool false)], args := [d1, d2] }
  | _ => none }
def AsciiAgainWrongFalsely : Prop := asciiAgainRow.holds Try.pinned (OpenSpec.ofChange asciiAgainWrong)

/-- 'webfingerlaw04.NumberFormats': WHATEVER THE INPUT: true; the input reads as it did. -/
def numberFormatsSpec : ChangeSpec := { name := "numberFormats", fn := fun _ => fun
  | [d] => { results := [.lit (.bool true)], args := [d] }
  | _ => none }
def numberFormatsRow : OpenClaim := { program := "ytgkcjpidekefoaa", sum := "5181c900e980cee7329a97fca379c5efb2486b81e09ce039a88c48e142268ed7", func := "webfinger/webfingerlaw04.NumberFormats", spec := "numberFormats", unfollowed := true, recurses := true, apart := false }
def NumberFormatsSaid : Prop := numberFormatsRow.holds Try.pinned (OpenSpec.ofChange numberFormatsSpec)

/-- ITS FALSE NEIGHBOUR: 'it returns false'. Refute it at one input. -/
def numberFormatsWrong : ChangeSpec := { name := "numberFormats", fn := fun _ => fun
  | [d] => { results := [.lit (.bool false)], args := [d] }
  | _ => none }
def NumberFormatsWrongFalsely : Prop := numberFormatsRow.holds Try.pinned (OpenSpec.ofChange numberFormatsWrong)

/-- 'webfingerlaw04.NumberParses': WHATEVER THE INPUT: true; the input reads as it did. -/
def numberParsesSpec : ChangeSpec := { name := "numberParses", fn := fun _ => fun
  | [d1, d2] => { results := [.lit (.bool true)], args := [d1, d2] }
  | _ => none }
def numberParsesRow : OpenClaim := { program := "ytgkcjpidekefoaa", sum := "5181c900e980cee7329a97fca379c5efb2486b81e09ce039a88c48e142268ed7", func := "webfinger/webfingerlaw04.NumberParses", spec := "numberParses", unfollowed := true, recurses := true, apart := false }
def NumberParsesSaid : Prop := numberParsesRow.holds Try.pinned (OpenSpec.ofChange numberParsesSpec)

/-- ITS FALSE NEIGHBOUR: 'it returns false'. Refute it at one input. -/
def numberParsesWrong : ChangeSpec := { name := "numberParses", fn := fun _ => fun
  | [d1, d2] => { results := [.lit (.bool false)], args := [d1, d2] }
  | _ => none }
def NumberParsesWrongFalsely : Prop := numberParsesRow.holds Try.pinned (OpenSpec.ofChange numberParsesWrong)

/-- 'webfingerlaw04.NumberSaturates': WHATEVER THE INPUT: true; the input reads as it did. -/
def numberSaturatesSpec : ChangeSpec := { name := "numberSaturates", fn := fun _ => fun
  | [d1, d2, d3] => { results := [.lit (.bool true)], args := [d1, d2, d3] }
  | _ => none }
def numberSaturatesRow : OpenClaim := { program := "ytgkcjpidekefoaa", sum := "5181c900e980cee7329a97fca379c5efb2486b81e09ce039a88c48e142268ed7", func := "webfinger/webfingerlaw04.NumberSaturates", spec := "numberSaturates", unfollowed := true, recurses := true, apart := false }
def NumberSaturatesSaid : Prop := numberSaturatesRow.holds Try.pinned (OpenSpec.ofChange numberSaturatesSpec)

/-- ITS FALSE NEIGHBOUR: 'it returns false'. Refute it at one input. -/
def numberSaturatesWrong : ChangeSpec := { name := "numberSaturates", fn := fun _ => fun
  | [d1, d2, d3] => { results := [.lit (.bool false)], args := [d1, d2, d3] }
  | _ => none }
def NumberSaturatesWrongFalsely : Prop := numberSaturatesRow.holds Try.pinned (OpenSpec.ofChange numberSaturatesWrong)

/-- 'webfingerlaw03.PercentEncodes': WHATEVER THE INPUT: true; the input reads as it did. -/
def percentEncodesSpec : ChangeSpec := { name := "percentEncodes", fn := fun _ => fun
  | [d1, d2] => { results := [.lit (.bool true)], args := [d1, d2] }
  | _ => none }
def percentEncodesRow : OpenClaim := { program := "ytgkcjpidekefoaa", sum := "5181c900e980cee7329a97fca379c5efb2486b81e09ce039a88c48e142268ed7", func := "webfinger/webfingerlaw03.PercentEncodes", spec := "percentEncodes", inPlace := ["internal/bytealg.IndexByteString"], apart := false }
def PercentEncodesSaid : Prop := percentEncodesRow.holds Try.pinned (OpenSpec.ofChange percentEncodesSpec)

/-- ITS FALSE NEIGHBOUR: 'it returns false'. Refute it at one input. -/
def percentEncodesWrong : ChangeSpec := { name := "percentEncodes", fn := fun _ => fun
  | [d1, d2] => { results := [.lit (.bool false)], args := [d1, d2] }
  | _ => none }
def PercentEncodesWrongFalsely : Prop := percentEncodesRow.holds Try.pinned (OpenSpec.ofChange percentEncodesWrong)

/-- 'webfingerlaw03.PercentNormalizes': WHATEVER THE INPUT: true; the input reads as it did. -/
def percentNormalizesSpec : ChangeSpec := { name := "percentNormalizes", fn := fun _ => fun
  | [d1, d2] => { results := [.lit (.bool true)], args := [d1, d2] }
  | _ => none }
def percentNormalizesRow : OpenClaim := { program := "ytgkcjpidekefoaa", sum := "5181c900e980cee7329a97fca379c5efb2486b81e09ce039a88c48e142268ed7", func := "webfinger/webfingerlaw03.PercentNormalizes", spec := "percentNormalizes", inPlace := ["internal/bytealg.IndexByteString"], apart := false }
def PercentNormalizesSaid : Prop := percentNormalizesRow.holds Try.pinned (OpenSpec.ofChange percentNormalizesSpec)

/-- ITS FALSE NEIGHBOUR: 'it returns false'. Refute it at one input. -/
def percentNormalizesWrong : ChangeSpec := { name := "percentNormalizes", fn := fun _ => fun
  | [d1, d2] => { results := [.lit (.bool false)], args := [d1, d2] }
  | _ => none }
def PercentNormalizesWrongFalsely : Prop := percentNormalizesRow.holds Try.pinned (OpenSpec.ofChange percentNormalizesWrong)

/-- 'webfingerlaw03.PercentDecodes': WHATEVER THE INPUT: true; the input reads as it did. -/
def percentDecodesSpec : ChangeSpec := { name := "percentDecodes", fn := fun _ => fun
  | [d] => { results := [.lit (.bool true)], args := [d] }
  | _ => none }
def percentDecodesRow : OpenClaim := { program := "ytgkcjpidekefoaa", sum := "5181c900e980cee7329a97fca379c5efb2486b81e09ce039a88c48e142268ed7", func := "webfinger/webfingerlaw03.PercentDecodes", spec := "percentDecodes", inPlace := ["internal/bytealg.IndexByteString"], apart := false }
def PercentDecodesSaid : Prop := percentDecodesRow.holds Try.pinned (OpenSpec.ofChange percentDecodesSpec)

/-- ITS FALSE NEIGHBOUR: 'it returns false'. Refute it at one input. -/
def percentDecodesWrong : ChangeSpec := { name := "percentDecodes", fn := fun _ => fun
  | [d] => { results := [.lit (.bool false)], args := [d] }
  | _ => none }
def PercentDecodesWrongFalsely : Prop := percentDecodesRow.holds Try.pinned (OpenSpec.ofChange percentDecodesWrong)

/-- 'webfingerlaw03.PercentBack': WHATEVER THE INPUT: true; the input reads as it did. -/
def percentBackSpec : ChangeSpec := { name := "percentBack", fn := fun _ => fun
  | [d1, d2] => { results := [.lit (.bool true)], args := [d1, d2] }
  | _ => none }
def percentBackRow : OpenClaim := { program := "ytgkcjpidekefoaa", sum := "5181c900e980cee7329a97fca379c5efb2486b81e09ce039a88c48e142268ed7", func := "webfinger/webfingerlaw03.PercentBack", spec := "percentBack", inPlace := ["internal/bytealg.IndexByteString"], apart := false }
def PercentBackSaid : Prop := percentBackRow.holds Try.pinned (OpenSpec.ofChange percentBackSpec)

/-- ITS FALSE NEIGHBOUR: 'it returns false'. Refute it at one input. -/
def percentBackWrong : ChangeSpec := { name := "percentBack", fn := fun _ => fun
  | [d1, d2] => { results := [.lit (.bool false)], args := [d1, d2] }
  | _ => none }
def PercentBackWrongFalsely : Prop := percentBackRow.holds Try.pinned (OpenSpec.ofChange percentBackWrong)

/-- 'webfingerlaw03.PercentOnce': WHATEVER THE INPUT: true; the input reads as it did. -/
def percentOnceSpec : ChangeSpec := { name := "percentOnce", fn := fun _ => fun
  | [d1, d2] => { results := [.lit (.bool true)], args := [d1, d2] }
  | _ => none }
def percentOnceRow : OpenClaim := { program := "ytgkcjpidekefoaa", sum := "5181c900e980cee7329a97fca379c5efb2486b81e09ce039a88c48e142268ed7", func := "webfinger/webfingerlaw03.PercentOnce", spec := "percentOnce", inPlace := ["internal/bytealg.IndexByteString"], apart := false }
def PercentOnceSaid : Prop := percentOnceRow.holds Try.pinned (OpenSpec.ofChange percentOnceSpec)

/-- ITS FALSE NEIGHBOUR: 'it returns false'. Refute it at one input. -/
def percentOnceWrong : ChangeSpec := { name := "percentOnce", fn := fun _ => fun
  | [d1, d2] => { results := [.lit (.bool false)], args := [d1, d2] }
  | _ => none }
def PercentOnceWrongFalsely : Prop := percentOnceRow.holds Try.pinned (OpenSpec.ofChange percentOnceWrong)

/- THE SECOND FORM. 'bulk': how many values and letters a reading holds, each counted each time it is reached (what is shared counts as often as it is met; a slice's spare places count too). A statement '..UptoSaid' is the law's where the arguments, and the package variables that the reading takes, are together of bulk at most 1048576: NARROWER than '..Said'. Prove '..Said' where nothing that the law and all that it calls make is longer than what came in: it says more and counts as full. Else prove '..UptoSaid'. A law counts once. -/
mutual
def uptoBulk {H : Type} : DataW H → Nat
  | .lit (.string bytes) => bytes.length + 1
  | .lit _ => 1
  | .nil => 1
  | .ptr d => uptoBulk d + 1
  | .slice elems spare => uptoBulkAll elems + uptoBulkAll spare + 1
  | .agg parts => uptoBulkAll parts + 1
  | .iface _ d => uptoBulk d + 1
  | .map entries => uptoBulkEntries entries + 1
  | .held _ => 1
def uptoBulkAll {H : Type} : List (DataW H) → Nat
  | [] => 0
  | d :: r => uptoBulk d + uptoBulkAll r
def uptoBulkEntries {H : Type} : List (Lit × DataW H) → Nat
  | [] => 0
  | x :: r => uptoBulkEntry x + uptoBulkEntries r
def uptoBulkEntry {H : Type} : Lit × DataW H → Nat
  | (.string bytes, d) => bytes.length + uptoBulk d + 1
  | (_, d) => uptoBulk d + 1
 end
def uptoSmall : (H : Type) → List (DataW H) → Bool := fun _ ds => decide (uptoBulkAll ds ≤ 1048576)
def OpenSpec.upto (s : _root_.Go.ChangeSpec) : _root_.Go.OpenSpec := { _root_.Go.OpenSpec.ofChange s with cond := some uptoSmall }

/-- 'webfingerlaw01.AsciiClasses', WHERE WHAT IT READS IS OF BULK AT MOST 1048576: true; the input reads as it did. -/
def asciiClassesUptoRow : OpenClaim := { program := "ytgkcjpidekefoaa", sum := "5181c900e980cee7329a97fca379c5efb2486b81e09ce039a88c48e142268ed7", func := "webfinger/webfingerlaw01.AsciiClasses", spec := "asciiClasses", inPlace := ["internal/bytealg.IndexByteString"], unfollowed := true, recurses := true, apart := false, narrowed := true }
def AsciiClassesUptoSaid : Prop := asciiClassesUptoRow.holds Try.pinned (OpenSpec.upto asciiClassesSpec)

/-- 'webfingerlaw01.AsciiStrings', WHERE WHAT IT READS IS OF BULK AT MOST 1048576: true; the input reads as it did. -/
def asciiStringsUptoRow : OpenClaim := { program := "ytgkcjpidekefoaa", sum := "5181c900e980cee7329a97fca379c5efb2486b81e09ce039a88c48e142268ed7", func := "webfinger/webfingerlaw01.AsciiStrings", spec := "asciiStrings", inPlace := ["internal/bytealg.IndexByteString"], unfollowed := true, recurses := true, apart := false, narrowed := true }
def AsciiStringsUptoSaid : Prop := asciiStringsUptoRow.holds Try.pinned (OpenSpec.upto asciiStringsSpec)

/-- 'webfingerlaw01.AsciiAgain', WHERE WHAT IT READS IS OF BULK AT MOST 1048576: true; the input reads as it did. -/
def asciiAgainUptoRow : OpenClaim := { program := "ytgkcjpidekefoaa", sum := "5181c900e980cee7329a97fca379c5efb2486b81e09ce039a88c48e142268ed7", func := "webfinger/webfingerlaw01.AsciiAgain", spec := "asciiAgain", inPlace := ["internal/bytealg.IndexByteString"], unfollowed := true, recurses := true, apart := false, narrowed := true }
def AsciiAgainUptoSaid : Prop := asciiAgainUptoRow.holds Try.pinned (OpenSpec.upto asciiAgainSpec)

/-- 'webfingerlaw04.NumberFormats', WHERE WHAT IT READS IS OF BULK AT MOST 1048576: true; the input reads as it did. -/
def numberFormatsUptoRow : OpenClaim := { program := "ytgkcjpidekefoaa", sum := "5181c900e980cee7329a97fca379c5efb2486b81e09ce039a88c48e142268ed7", func := "webfinger/webfingerlaw04.NumberFormats", spec := "numberFormats", unfollowed := true, recurses := true, apart := false, narrowed := true }
def NumberFormatsUptoSaid : Prop := numberFormatsUptoRow.holds Try.pinned (OpenSpec.upto numberFormatsSpec)

/-- 'webfingerlaw04.NumberParses', WHERE WHAT IT READS IS OF BULK AT MOST 1048576: true; the input reads as it did. -/
def numberParsesUptoRow : OpenClaim := { program := "ytgkcjpidekefoaa", sum := "5181c900e980cee7329a97fca379c5efb2486b81e09ce039a88c48e142268ed7", func := "webfinger/webfingerlaw04.NumberParses", spec := "numberParses", unfollowed := true, recurses := true, apart := false, narrowed := true }
def NumberParsesUptoSaid : Prop := numberParsesUptoRow.holds Try.pinned (OpenSpec.upto numberParsesSpec)

/-- 'webfingerlaw04.NumberSaturates', WHERE WHAT IT READS IS OF BULK AT MOST 1048576: true; the input reads as it did. -/
def numberSaturatesUptoRow : OpenClaim := { program := "ytgkcjpidekefoaa", sum := "5181c900e980cee7329a97fca379c5efb2486b81e09ce039a88c48e142268ed7", func := "webfinger/webfingerlaw04.NumberSaturates", spec := "numberSaturates", unfollowed := true, recurses := true, apart := false, narrowed := true }
def NumberSaturatesUptoSaid : Prop := numberSaturatesUptoRow.holds Try.pinned (OpenSpec.upto numberSaturatesSpec)

/-- 'webfingerlaw03.PercentEncodes', WHERE WHAT IT READS IS OF BULK AT MOST 1048576: true; the input reads as it did. -/
def percentEncodesUptoRow : OpenClaim := { program := "ytgkcjpidekefoaa", sum := "5181c900e980cee7329a97fca379c5efb2486b81e09ce039a88c48e142268ed7", func := "webfinger/webfingerlaw03.PercentEncodes", spec := "percentEncodes", inPlace := ["internal/bytealg.IndexByteString"], apart := false, narrowed := true }
def PercentEncodesUptoSaid : Prop := percentEncodesUptoRow.holds Try.pinned (OpenSpec.upto percentEncodesSpec)

/-- 'webfingerlaw03.PercentNormalizes', WHERE WHAT IT READS IS OF BULK AT MOST 1048576: true; the input reads as it did. -/
def percentNormalizesUptoRow : OpenClaim := { program := "ytgkcjpidekefoaa", sum := "5181c900e980cee7329a97fca379c5efb2486b81e09ce039a88c48e142268ed7", func := "webfinger/webfingerlaw03.PercentNormalizes", spec := "percentNormalizes", inPlace := ["internal/bytealg.IndexByteString"], apart := false, narrowed := true }
def PercentNormalizesUptoSaid : Prop := percentNormalizesUptoRow.holds Try.pinned (OpenSpec.upto percentNormalizesSpec)

/-- 'webfingerlaw03.PercentDecodes', WHERE WHAT IT READS IS OF BULK AT MOST 1048576: true; the input reads as it did. -/
def percentDecodesUptoRow : OpenClaim := { program := "ytgkcjpidekefoaa", sum := "5181c900e980cee7329a97fca379c5efb2486b81e09ce039a88c48e142268ed7", func := "webfinger/webfingerlaw03.PercentDecodes", spec := "percentDecodes", inPlace := ["internal/bytealg.IndexByteString"], apart := false, narrowed := true }
def PercentDecodesUptoSaid : Prop := percentDecodesUptoRow.holds Try.pinned (OpenSpec.upto percentDecodesSpec)

/-- 'webfingerlaw03.PercentBack', WHERE WHAT IT READS IS OF BULK AT MOST 1048576: true; the input reads as it did. -/
def percentBackUptoRow : OpenClaim := { program := "ytgkcjpidekefoaa", sum := "5181c900e980cee7329a97fca379c5efb2486b81e09ce039a88c48e142268ed7", func := "webfinger/webfingerlaw03.PercentBack", spec := "percentBack", inPlace := ["internal/bytealg.IndexByteString"], apart := false, narrowed := true }
def PercentBackUptoSaid : Prop := percentBackUptoRow.holds Try.pinned (OpenSpec.upto percentBackSpec)

/-- 'webfingerlaw03.PercentOnce', WHERE WHAT IT READS IS OF BULK AT MOST 1048576: true; the input reads as it did. -/
def percentOnceUptoRow : OpenClaim := { program := "ytgkcjpidekefoaa", sum := "5181c900e980cee7329a97fca379c5efb2486b81e09ce039a88c48e142268ed7", func := "webfinger/webfingerlaw03.PercentOnce", spec := "percentOnce", inPlace := ["internal/bytealg.IndexByteString"], apart := false, narrowed := true }
def PercentOnceUptoSaid : Prop := percentOnceUptoRow.holds Try.pinned (OpenSpec.upto percentOnceSpec)

end Rows
end Go.Proofs.Ytgkcjpidekefoaa
