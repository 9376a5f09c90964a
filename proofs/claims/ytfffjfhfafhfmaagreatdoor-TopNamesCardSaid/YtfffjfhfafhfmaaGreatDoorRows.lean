/-
  NARROWER THAN 'FOR EVERY INPUT', by the rows' own cells (each row's printed sentence says how): TopNames: laid · TopTooMany: laid · TopLater: laid · TopShadowed: laid · TopErrors: laid.
  DERIVED. THE GIVEN ROWS OF THIS SEAT. 5 by the template 'for every input the law returns true; each argument reads behind the call as it read before'; 0 by the template 'total and deterministic' (their statements: YtfffjfhfafhfmaaGreatDoorTotals.lean).
  GIVEN WITH THE SEED: the statements are not yours to turn. If you find one false, say at which input.
  Laid BY PROGRAM, IN A SANDBOX (cutbox-rows.mjs): the forced cells as the released guide's own fill.sh prints them over the translation 69132c4f49bba656… (all of the seat's roots in one cut). By AI agents, Wed Nov 11 2026. No macro, syntax, notation, axiom, sorry.
-/
import Derived.Test.YtfffjfhfafhfmaaGreatDoorChecked
import GoSem.PinnedTables
import GoSem.Claim
import GoSem.ClaimJoined
import GoSem.ClaimMapViews
import Derived.JoinedTies
import Derived.KernelRfl
namespace Go.Proofs.YtfffjfhfafhfmaaGreatDoor
/- THE CELL 'sum', in the pinned program and in every row, IS THE sha256 OF THE DUMP (.gsa) THAT YtfffjfhfafhfmaaGreatDoorProg.lean LOADS. Nothing in Lean hashes anything: it is a label: what it is worth is what the hold of that sum in a sandbox is worth. -/
noncomputable def Tryz.pinned : Pinned := { name := "ytfffjfhfafhfmaagreatdoor", sum := "69132c4f49bba656af2480220838167b69ba3f4edc6503e9a314ff7a96b2b647", checked := Tryz.checked }
namespace Rows
def none {H : Type} : Left H := { results := [], args := [] }

/- WHAT THE LISTED PACKAGE-LEVEL VARIABLES READ AS WHEN THE CALL BEGINS. Each datum BY PROGRAM (the guide's laid-datum.mjs) off the statement by which the dump's own 'gosem.cut.vars' lays the variable. In a bare row this is a premise. The card (YtfffjfhfafhfmaaGreatDoorCards.lean) ties it to the program's text. -/
def laid_unicode_utf8_acceptRanges {H : Type} : DataW H := .agg [.agg [.lit (.int .u8 128), .lit (.int .u8 191)], .agg [.lit (.int .u8 160), .lit (.int .u8 191)], .agg [.lit (.int .u8 128), .lit (.int .u8 159)], .agg [.lit (.int .u8 144), .lit (.int .u8 191)], .agg [.lit (.int .u8 128), .lit (.int .u8 143)], .agg [.lit (.int .u8 0), .lit (.int .u8 0)], .agg [.lit (.int .u8 0), .lit (.int .u8 0)], .agg [.lit (.int .u8 0), .lit (.int .u8 0)], .agg [.lit (.int .u8 0), .lit (.int .u8 0)], .agg [.lit (.int .u8 0), .lit (.int .u8 0)], .agg [.lit (.int .u8 0), .lit (.int .u8 0)], .agg [.lit (.int .u8 0), .lit (.int .u8 0)], .agg [.lit (.int .u8 0), .lit (.int .u8 0)], .agg [.lit (.int .u8 0), .lit (.int .u8 0)], .agg [.lit (.int .u8 0), .lit (.int .u8 0)], .agg [.lit (.int .u8 0), .lit (.int .u8 0)]]
def laid_webfinger_utf8text_forms {H : Type} : DataW H := .agg [.agg [.lit (.int .u8 0), .lit (.int .u8 127), .lit (.int .i64 0)], .agg [.lit (.int .u8 192), .lit (.int .u8 31), .lit (.int .i64 128)], .agg [.lit (.int .u8 224), .lit (.int .u8 15), .lit (.int .i64 2048)], .agg [.lit (.int .u8 240), .lit (.int .u8 7), .lit (.int .i64 65536)]]
/-- One of Go's own tables, pinned by name: the form's constant. -/
def laid_unicode_utf8_first : DataW Unit := Go.Pinned.utf8First

/-- 'webfingertop.TopNames': WHATEVER THE INPUT: true; the input reads as it did. -/
def topNamesSpec : ChangeSpec := { name := "topNames", fn := fun _ => fun
  | [d1, d2] => { results := [.lit (.bool true)], args := [d1, d2] }
  | _ => none }
def topNamesRow : OpenClaim := { program := "ytfffjfhfafhfmaagreatdoor", sum := "69132c4f49bba656af2480220838167b69ba3f4edc6503e9a314ff7a96b2b647", func := "webfinger/webfingertop.TopNames", spec := "topNames", inPlace := ["internal/bytealg.IndexByteString", "internal/bytealg.IndexString", "internal/bytealg.CountString", "internal/abi.NoEscape", "internal/bytealg.MakeNoZero"], unfollowed := true, recurses := true, named := ["internal/bytealg.MaxLen", "unicode/utf8.first", "unicode/utf8.acceptRanges", "webfinger/utf8text.forms"], plainKeys := false, apart := false, laid := [("unicode/utf8.acceptRanges", laid_unicode_utf8_acceptRanges), ("webfinger/utf8text.forms", laid_webfinger_utf8text_forms), ("unicode/utf8.first", laid_unicode_utf8_first)] }
def TopNamesSaid : Prop := topNamesRow.holds Tryz.pinned (OpenSpec.ofChange topNamesSpec)

/-- ITS FALSE NEIGHBOUR: 'it returns false'. Refute it at one input. -/
def topNamesWrong : ChangeSpec := { name := "topNames", fn := fun _ => fun
  | [d1, d2] => { results := [.lit (.bool false)], args := [d1, d2] }
  | _ => none }
def TopNamesWrongFalsely : Prop := topNamesRow.holds Tryz.pinned (OpenSpec.ofChange topNamesWrong)

/-- 'webfingertop.TopTooMany': WHATEVER THE INPUT: true; the input reads as it did. -/
def topTooManySpec : ChangeSpec := { name := "topTooMany", fn := fun _ => fun
  | [d1, d2, d3] => { results := [.lit (.bool true)], args := [d1, d2, d3] }
  | _ => none }
def topTooManyRow : OpenClaim := { program := "ytfffjfhfafhfmaagreatdoor", sum := "69132c4f49bba656af2480220838167b69ba3f4edc6503e9a314ff7a96b2b647", func := "webfinger/webfingertop.TopTooMany", spec := "topTooMany", inPlace := ["internal/bytealg.IndexByteString", "internal/bytealg.IndexString", "internal/bytealg.CountString", "internal/abi.NoEscape", "internal/bytealg.MakeNoZero"], unfollowed := true, recurses := true, named := ["internal/bytealg.MaxLen", "unicode/utf8.first", "unicode/utf8.acceptRanges", "webfinger/utf8text.forms"], plainKeys := false, apart := false, laid := [("unicode/utf8.acceptRanges", laid_unicode_utf8_acceptRanges), ("webfinger/utf8text.forms", laid_webfinger_utf8text_forms), ("unicode/utf8.first", laid_unicode_utf8_first)] }
def TopTooManySaid : Prop := topTooManyRow.holds Tryz.pinned (OpenSpec.ofChange topTooManySpec)

/-- ITS FALSE NEIGHBOUR: 'it returns false'. Refute it at one input. -/
def topTooManyWrong : ChangeSpec := { name := "topTooMany", fn := fun _ => fun
  | [d1, d2, d3] => { results := [.lit (.bool false)], args := [d1, d2, d3] }
  | _ => none }
def TopTooManyWrongFalsely : Prop := topTooManyRow.holds Tryz.pinned (OpenSpec.ofChange topTooManyWrong)

/-- 'webfingertop.TopLater': WHATEVER THE INPUT: true; the input reads as it did. -/
def topLaterSpec : ChangeSpec := { name := "topLater", fn := fun _ => fun
  | [d1, d2, d3, d4] => { results := [.lit (.bool true)], args := [d1, d2, d3, d4] }
  | _ => none }
def topLaterRow : OpenClaim := { program := "ytfffjfhfafhfmaagreatdoor", sum := "69132c4f49bba656af2480220838167b69ba3f4edc6503e9a314ff7a96b2b647", func := "webfinger/webfingertop.TopLater", spec := "topLater", inPlace := ["internal/bytealg.IndexByteString", "internal/bytealg.IndexString", "internal/bytealg.CountString", "internal/abi.NoEscape", "internal/bytealg.MakeNoZero"], unfollowed := true, recurses := true, named := ["internal/bytealg.MaxLen", "unicode/utf8.first", "unicode/utf8.acceptRanges", "webfinger/utf8text.forms"], plainKeys := false, apart := false, laid := [("unicode/utf8.acceptRanges", laid_unicode_utf8_acceptRanges), ("webfinger/utf8text.forms", laid_webfinger_utf8text_forms), ("unicode/utf8.first", laid_unicode_utf8_first)] }
def TopLaterSaid : Prop := topLaterRow.holds Tryz.pinned (OpenSpec.ofChange topLaterSpec)

/-- ITS FALSE NEIGHBOUR: 'it returns false'. Refute it at one input. -/
def topLaterWrong : ChangeSpec := { name := "topLater", fn := fun _ => fun
  | [d1, d2, d3, d4] => { results := [.lit (.bool false)], args := [d1, d2, d3, d4] }
  | _ => none }
def TopLaterWrongFalsely : Prop := topLaterRow.holds Tryz.pinned (OpenSpec.ofChange topLaterWrong)

/-- 'webfingertop.TopShadowed': WHATEVER THE INPUT: true; the input reads as it did. -/
def topShadowedSpec : ChangeSpec := { name := "topShadowed", fn := fun _ => fun
  | [d1, d2, d3, d4] => { results := [.lit (.bool true)], args := [d1, d2, d3, d4] }
  | _ => none }
def topShadowedRow : OpenClaim := { program := "ytfffjfhfafhfmaagreatdoor", sum := "69132c4f49bba656af2480220838167b69ba3f4edc6503e9a314ff7a96b2b647", func := "webfinger/webfingertop.TopShadowed", spec := "topShadowed", inPlace := ["internal/bytealg.IndexByteString", "internal/bytealg.IndexString", "internal/bytealg.CountString", "internal/abi.NoEscape", "internal/bytealg.MakeNoZero"], unfollowed := true, recurses := true, named := ["internal/bytealg.MaxLen", "unicode/utf8.first", "unicode/utf8.acceptRanges", "webfinger/utf8text.forms"], plainKeys := false, apart := false, laid := [("unicode/utf8.acceptRanges", laid_unicode_utf8_acceptRanges), ("webfinger/utf8text.forms", laid_webfinger_utf8text_forms), ("unicode/utf8.first", laid_unicode_utf8_first)] }
def TopShadowedSaid : Prop := topShadowedRow.holds Tryz.pinned (OpenSpec.ofChange topShadowedSpec)

/-- ITS FALSE NEIGHBOUR: 'it returns false'. Refute it at one input. -/
def topShadowedWrong : ChangeSpec := { name := "topShadowed", fn := fun _ => fun
  | [d1, d2, d3, d4] => { results := [.lit (.bool false)], args := [d1, d2, d3, d4] }
  | _ => none }
def TopShadowedWrongFalsely : Prop := topShadowedRow.holds Tryz.pinned (OpenSpec.ofChange topShadowedWrong)

/-- 'webfingertop.TopErrors': WHATEVER THE INPUT: true; the input reads as it did. -/
def topErrorsSpec : ChangeSpec := { name := "topErrors", fn := fun _ => fun
  | [d1, d2, d3] => { results := [.lit (.bool true)], args := [d1, d2, d3] }
  | _ => none }
def topErrorsRow : OpenClaim := { program := "ytfffjfhfafhfmaagreatdoor", sum := "69132c4f49bba656af2480220838167b69ba3f4edc6503e9a314ff7a96b2b647", func := "webfinger/webfingertop.TopErrors", spec := "topErrors", inPlace := ["internal/bytealg.IndexByteString", "internal/bytealg.IndexString", "internal/bytealg.CountString", "internal/abi.NoEscape", "internal/bytealg.MakeNoZero"], unfollowed := true, recurses := true, named := ["internal/bytealg.MaxLen", "unicode/utf8.first", "unicode/utf8.acceptRanges", "webfinger/utf8text.forms"], plainKeys := false, apart := false, laid := [("unicode/utf8.acceptRanges", laid_unicode_utf8_acceptRanges), ("webfinger/utf8text.forms", laid_webfinger_utf8text_forms), ("unicode/utf8.first", laid_unicode_utf8_first)] }
def TopErrorsSaid : Prop := topErrorsRow.holds Tryz.pinned (OpenSpec.ofChange topErrorsSpec)

/-- ITS FALSE NEIGHBOUR: 'it returns false'. Refute it at one input. -/
def topErrorsWrong : ChangeSpec := { name := "topErrors", fn := fun _ => fun
  | [d1, d2, d3] => { results := [.lit (.bool false)], args := [d1, d2, d3] }
  | _ => none }
def TopErrorsWrongFalsely : Prop := topErrorsRow.holds Tryz.pinned (OpenSpec.ofChange topErrorsWrong)

/- THE SECOND FORM. 'bulk': how many values and letters a reading holds, each counted each time it is reached (what is shared counts as often as it is met; a slice's spare places count too). A statement '..UptoSaid' is the law's where the arguments, and the package variables that the reading takes, are together of bulk at most 1048576: NARROWER than '..Said'. Prove '..Said' where nothing that the law and all that it calls make is longer than what came in: it says more and counts as full. Else prove '..UptoSaid'. A law counts once. -/
mutual
def uptoBulk {H : Type} : DataW H → Nat
  | .lit (.string bytes) => bytes.length + 1
  | .lit _ => 1
  | .nil => 1
  | .ptr d => uptoBulk d + 1
  | .slice elems spare => uptoBulkAll elems + uptoBulkAll spare + 1
  | .agg parts => uptoBulkAll parts + 1
  | .iface _ d => uptoBulk d + 1
  | .map entries => uptoBulkEntries entries + 1
  | .held _ => 1
def uptoBulkAll {H : Type} : List (DataW H) → Nat
  | [] => 0
  | d :: r => uptoBulk d + uptoBulkAll r
def uptoBulkEntries {H : Type} : List (Lit × DataW H) → Nat
  | [] => 0
  | x :: r => uptoBulkEntry x + uptoBulkEntries r
def uptoBulkEntry {H : Type} : Lit × DataW H → Nat
  | (.string bytes, d) => bytes.length + uptoBulk d + 1
  | (_, d) => uptoBulk d + 1
 end
def uptoSmall : (H : Type) → List (DataW H) → Bool := fun _ ds => decide (uptoBulkAll ds ≤ 1048576)
def OpenSpec.upto (s : _root_.Go.ChangeSpec) : _root_.Go.OpenSpec := { _root_.Go.OpenSpec.ofChange s with cond := some uptoSmall }

/-- 'webfingertop.TopNames', WHERE WHAT IT READS IS OF BULK AT MOST 1048576: true; the input reads as it did. -/
def topNamesUptoRow : OpenClaim := { program := "ytfffjfhfafhfmaagreatdoor", sum := "69132c4f49bba656af2480220838167b69ba3f4edc6503e9a314ff7a96b2b647", func := "webfinger/webfingertop.TopNames", spec := "topNames", inPlace := ["internal/bytealg.IndexByteString", "internal/bytealg.IndexString", "internal/bytealg.CountString", "internal/abi.NoEscape", "internal/bytealg.MakeNoZero"], unfollowed := true, recurses := true, named := ["internal/bytealg.MaxLen", "unicode/utf8.first", "unicode/utf8.acceptRanges", "webfinger/utf8text.forms"], plainKeys := false, apart := false, laid := [("unicode/utf8.acceptRanges", laid_unicode_utf8_acceptRanges), ("webfinger/utf8text.forms", laid_webfinger_utf8text_forms), ("unicode/utf8.first", laid_unicode_utf8_first)], narrowed := true }
def TopNamesUptoSaid : Prop := topNamesUptoRow.holds Tryz.pinned (OpenSpec.upto topNamesSpec)

/-- 'webfingertop.TopTooMany', WHERE WHAT IT READS IS OF BULK AT MOST 1048576: true; the input reads as it did. -/
def topTooManyUptoRow : OpenClaim := { program := "ytfffjfhfafhfmaagreatdoor", sum := "69132c4f49bba656af2480220838167b69ba3f4edc6503e9a314ff7a96b2b647", func := "webfinger/webfingertop.TopTooMany", spec := "topTooMany", inPlace := ["internal/bytealg.IndexByteString", "internal/bytealg.IndexString", "internal/bytealg.CountString", "internal/abi.NoEscape", "internal/bytealg.MakeNoZero"], unfollowed := true, recurses := true, named := ["internal/bytealg.MaxLen", "unicode/utf8.first", "unicode/utf8.acceptRanges", "webfinger/utf8text.forms"], plainKeys := false, apart := false, laid := [("unicode/utf8.acceptRanges", laid_unicode_utf8_acceptRanges), ("webfinger/utf8text.forms", laid_webfinger_utf8text_forms), ("unicode/utf8.first", laid_unicode_utf8_first)], narrowed := true }
def TopTooManyUptoSaid : Prop := topTooManyUptoRow.holds Tryz.pinned (OpenSpec.upto topTooManySpec)

/-- 'webfingertop.TopLater', WHERE WHAT IT READS IS OF BULK AT MOST 1048576: true; the input reads as it did. -/
def topLaterUptoRow : OpenClaim := { program := "ytfffjfhfafhfmaagreatdoor", sum := "69132c4f49bba656af2480220838167b69ba3f4edc6503e9a314ff7a96b2b647", func := "webfinger/webfingertop.TopLater", spec := "topLater", inPlace := ["internal/bytealg.IndexByteString", "internal/bytealg.IndexString", "internal/bytealg.CountString", "internal/abi.NoEscape", "internal/bytealg.MakeNoZero"], unfollowed := true, recurses := true, named := ["internal/bytealg.MaxLen", "unicode/utf8.first", "unicode/utf8.acceptRanges", "webfinger/utf8text.forms"], plainKeys := false, apart := false, laid := [("unicode/utf8.acceptRanges", laid_unicode_utf8_acceptRanges), ("webfinger/utf8text.forms", laid_webfinger_utf8text_forms), ("unicode/utf8.first", laid_unicode_utf8_first)], narrowed := true }
def TopLaterUptoSaid : Prop := topLaterUptoRow.holds Tryz.pinned (OpenSpec.upto topLaterSpec)

/-- 'webfingertop.TopShadowed', WHERE WHAT IT READS IS OF BULK AT MOST 1048576: true; the input reads as it did. -/
def topShadowedUptoRow : OpenClaim := { program := "ytfffjfhfafhfmaagreatdoor", sum := "69132c4f49bba656af2480220838167b69ba3f4edc6503e9a314ff7a96b2b647", func := "webfinger/webfingertop.TopShadowed", spec := "topShadowed", inPlace := ["internal/bytealg.IndexByteString", "internal/bytealg.IndexString", "internal/bytealg.CountString", "internal/abi.NoEscape", "internal/bytealg.MakeNoZero"], unfollowed := true, recurses := true, named := ["internal/bytealg.MaxLen", "unicode/utf8.first", "unicode/utf8.acceptRanges", "webfinger/utf8text.forms"], plainKeys := false, apart := false, laid := [("unicode/utf8.acceptRanges", laid_unicode_utf8_acceptRanges), ("webfinger/utf8text.forms", laid_webfinger_utf8text_forms), ("unicode/utf8.first", laid_unicode_utf8_first)], narrowed := true }
def TopShadowedUptoSaid : Prop := topShadowedUptoRow.holds Tryz.pinned (OpenSpec.upto topShadowedSpec)

/-- 'webfingertop.TopErrors', WHERE WHAT IT READS IS OF BULK AT MOST 1048576: true; the input reads as it did. -/
def topErrorsUptoRow : OpenClaim := { program := "ytfffjfhfafhfmaagreatdoor", sum := "69132c4f49bba656af2480220838167b69ba3f4edc6503e9a314ff7a96b2b647", func := "webfinger/webfingertop.TopErrors", spec := "topErrors", inPlace := ["internal/bytealg.IndexByteString", "internal/bytealg.IndexString", "internal/bytealg.CountString", "internal/abi.NoEscape", "internal/bytealg.MakeNoZero"], unfollowed := true, recurses := true, named := ["internal/bytealg.MaxLen", "unicode/utf8.first", "unicode/utf8.acceptRanges", "webfinger/utf8text.forms"], plainKeys := false, apart := false, laid := [("unicode/utf8.acceptRanges", laid_unicode_utf8_acceptRanges), ("webfinger/utf8text.forms", laid_webfinger_utf8text_forms), ("unicode/utf8.first", laid_unicode_utf8_first)], narrowed := true }
def TopErrorsUptoSaid : Prop := topErrorsUptoRow.holds Tryz.pinned (OpenSpec.upto topErrorsSpec)

end Rows
end Go.Proofs.YtfffjfhfafhfmaaGreatDoor
