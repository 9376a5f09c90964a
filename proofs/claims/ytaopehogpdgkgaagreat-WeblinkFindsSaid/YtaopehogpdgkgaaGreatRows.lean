/-
  No cell of these rows narrows 'for every input' (looked for: loops, veiled, ifaces, maps, wideKeys, modest, calm, conditions, laid).
  DERIVED. THE GIVEN ROWS OF THIS SEAT. 4 by the template 'for every input the law returns true; each argument reads behind the call as it read before'; 0 by the template 'total and deterministic' (their statements: YtaopehogpdgkgaaGreatTotals.lean).
  GIVEN WITH THE SEED: the statements are not yours to turn. If you find one false, say at which input.
  Laid BY PROGRAM, IN A SANDBOX (cutbox-rows.mjs): the forced cells as the released guide's own fill.sh prints them over the translation da75c934b951659b… (all of the seat's roots in one cut). By AI agents, Wed Nov 11 2026. No macro, syntax, notation, axiom, sorry.
-/
import Derived.Test.YtaopehogpdgkgaaGreatChecked
import GoSem.Claim
import GoSem.ClaimJoined
import GoSem.ClaimMapViews
import Derived.JoinedTies
import Derived.KernelRfl
namespace Go.Proofs.YtaopehogpdgkgaaGreat
/- THE CELL 'sum', in the pinned program and in every row, IS THE sha256 OF THE DUMP (.gsa) THAT YtaopehogpdgkgaaGreatProg.lean LOADS. Nothing in Lean hashes anything: it is a label: what it is worth is what the hold of that sum in a sandbox is worth. -/
noncomputable def Tryz.pinned : Pinned := { name := "ytaopehogpdgkgaagreat", sum := "da75c934b951659b8be6d934386dcac8cd28daa0901b67116f548b31d39ad5a1", checked := Tryz.checked }
namespace Rows
def none {H : Type} : Left H := { results := [], args := [] }

/-- 'webfingerlaw20.MediaParses': WHATEVER THE INPUT: true; the input reads as it did. -/
def mediaParsesSpec : ChangeSpec := { name := "mediaParses", fn := fun _ => fun
  | [d] => { results := [.lit (.bool true)], args := [d] }
  | _ => none }
def mediaParsesRow : OpenClaim := { program := "ytaopehogpdgkgaagreat", sum := "da75c934b951659b8be6d934386dcac8cd28daa0901b67116f548b31d39ad5a1", func := "webfinger/webfingerlaw20.MediaParses", spec := "mediaParses", inPlace := ["internal/bytealg.IndexByteString", "sync/atomic.LoadUint32", "(*internal/sync.Mutex).Lock", "internal/race.Disable", "sync/atomic.CompareAndSwapInt32", "internal/race.Enable", "internal/race.Acquire", "(*internal/sync.Mutex).lockSlow", "internal/sync.runtime_canSpin", "internal/sync.runtime_doSpin", "internal/sync.throw", "internal/sync.runtime_nanotime", "internal/sync.runtime_SemacquireMutex", "sync/atomic.AddInt32", "(*internal/sync.Mutex).Unlock", "internal/race.ReleaseMerge", "(*internal/sync.Mutex).unlockSlow", "internal/sync.fatal", "internal/sync.runtime_Semrelease", "sync/atomic.StoreUint32"], unfollowed := true, recurses := true, apart := false }
def MediaParsesSaid : Prop := mediaParsesRow.holds Tryz.pinned (OpenSpec.ofChange mediaParsesSpec)

/-- ITS FALSE NEIGHBOUR: 'it returns false'. Refute it at one input. -/
def mediaParsesWrong : ChangeSpec := { name := "mediaParses", fn := fun _ => fun
  | [d] => { results := [.lit (.bool false)], args := [d] }
  | _ => none }
def MediaParsesWrongFalsely : Prop := mediaParsesRow.holds Tryz.pinned (OpenSpec.ofChange mediaParsesWrong)

/-- 'webfingerlaw20.MediaFormats': WHATEVER THE INPUT: true; the input reads as it did. -/
def mediaFormatsSpec : ChangeSpec := { name := "mediaFormats", fn := fun _ => fun
  | [d] => { results := [.lit (.bool true)], args := [d] }
  | _ => none }
def mediaFormatsRow : OpenClaim := { program := "ytaopehogpdgkgaagreat", sum := "da75c934b951659b8be6d934386dcac8cd28daa0901b67116f548b31d39ad5a1", func := "webfinger/webfingerlaw20.MediaFormats", spec := "mediaFormats", inPlace := ["internal/bytealg.IndexByteString", "sync/atomic.LoadUint32", "(*internal/sync.Mutex).Lock", "internal/race.Disable", "sync/atomic.CompareAndSwapInt32", "internal/race.Enable", "internal/race.Acquire", "(*internal/sync.Mutex).lockSlow", "internal/sync.runtime_canSpin", "internal/sync.runtime_doSpin", "internal/sync.throw", "internal/sync.runtime_nanotime", "internal/sync.runtime_SemacquireMutex", "sync/atomic.AddInt32", "(*internal/sync.Mutex).Unlock", "internal/race.ReleaseMerge", "(*internal/sync.Mutex).unlockSlow", "internal/sync.fatal", "internal/sync.runtime_Semrelease", "sync/atomic.StoreUint32"], unfollowed := true, recurses := true, apart := false }
def MediaFormatsSaid : Prop := mediaFormatsRow.holds Tryz.pinned (OpenSpec.ofChange mediaFormatsSpec)

/-- ITS FALSE NEIGHBOUR: 'it returns false'. Refute it at one input. -/
def mediaFormatsWrong : ChangeSpec := { name := "mediaFormats", fn := fun _ => fun
  | [d] => { results := [.lit (.bool false)], args := [d] }
  | _ => none }
def MediaFormatsWrongFalsely : Prop := mediaFormatsRow.holds Tryz.pinned (OpenSpec.ofChange mediaFormatsWrong)

/-- 'webfingerlaw22.WeblinkFinds': WHATEVER THE INPUT: true; the input reads as it did. -/
def weblinkFindsSpec : ChangeSpec := { name := "weblinkFinds", fn := fun _ => fun
  | [d1, d2] => { results := [.lit (.bool true)], args := [d1, d2] }
  | _ => none }
def weblinkFindsRow : OpenClaim := { program := "ytaopehogpdgkgaagreat", sum := "da75c934b951659b8be6d934386dcac8cd28daa0901b67116f548b31d39ad5a1", func := "webfinger/webfingerlaw22.WeblinkFinds", spec := "weblinkFinds", inPlace := ["internal/bytealg.IndexByteString", "sync/atomic.LoadUint32", "(*internal/sync.Mutex).Lock", "internal/race.Disable", "sync/atomic.CompareAndSwapInt32", "internal/race.Enable", "internal/race.Acquire", "(*internal/sync.Mutex).lockSlow", "internal/sync.runtime_canSpin", "internal/sync.runtime_doSpin", "internal/sync.throw", "internal/sync.runtime_nanotime", "internal/sync.runtime_SemacquireMutex", "sync/atomic.AddInt32", "(*internal/sync.Mutex).Unlock", "internal/race.ReleaseMerge", "(*internal/sync.Mutex).unlockSlow", "internal/sync.fatal", "internal/sync.runtime_Semrelease", "sync/atomic.StoreUint32", "internal/abi.NoEscape", "internal/bytealg.MakeNoZero"], unfollowed := true, recurses := true, apart := false }
def WeblinkFindsSaid : Prop := weblinkFindsRow.holds Tryz.pinned (OpenSpec.ofChange weblinkFindsSpec)

/-- ITS FALSE NEIGHBOUR: 'it returns false'. Refute it at one input. -/
def weblinkFindsWrong : ChangeSpec := { name := "weblinkFinds", fn := fun _ => fun
  | [d1, d2] => { results := [.lit (.bool false)], args := [d1, d2] }
  | _ => none }
def WeblinkFindsWrongFalsely : Prop := weblinkFindsRow.holds Tryz.pinned (OpenSpec.ofChange weblinkFindsWrong)

/-- 'webfingerlaw22.WeblinkBack': WHATEVER THE INPUT: true; the input reads as it did. -/
def weblinkBackSpec : ChangeSpec := { name := "weblinkBack", fn := fun _ => fun
  | [d] => { results := [.lit (.bool true)], args := [d] }
  | _ => none }
def weblinkBackRow : OpenClaim := { program := "ytaopehogpdgkgaagreat", sum := "da75c934b951659b8be6d934386dcac8cd28daa0901b67116f548b31d39ad5a1", func := "webfinger/webfingerlaw22.WeblinkBack", spec := "weblinkBack", inPlace := ["internal/bytealg.IndexByteString", "sync/atomic.LoadUint32", "(*internal/sync.Mutex).Lock", "internal/race.Disable", "sync/atomic.CompareAndSwapInt32", "internal/race.Enable", "internal/race.Acquire", "(*internal/sync.Mutex).lockSlow", "internal/sync.runtime_canSpin", "internal/sync.runtime_doSpin", "internal/sync.throw", "internal/sync.runtime_nanotime", "internal/sync.runtime_SemacquireMutex", "sync/atomic.AddInt32", "(*internal/sync.Mutex).Unlock", "internal/race.ReleaseMerge", "(*internal/sync.Mutex).unlockSlow", "internal/sync.fatal", "internal/sync.runtime_Semrelease", "sync/atomic.StoreUint32", "internal/abi.NoEscape", "internal/bytealg.MakeNoZero"], unfollowed := true, recurses := true, apart := false }
def WeblinkBackSaid : Prop := weblinkBackRow.holds Tryz.pinned (OpenSpec.ofChange weblinkBackSpec)

/-- ITS FALSE NEIGHBOUR: 'it returns false'. Refute it at one input. -/
def weblinkBackWrong : ChangeSpec := { name := "weblinkBack", fn := fun _ => fun
  | [d] => { results := [.lit (.bool false)], args := [d] }
  | _ => none }
def WeblinkBackWrongFalsely : Prop := weblinkBackRow.holds Tryz.pinned (OpenSpec.ofChange weblinkBackWrong)

/- THE SECOND FORM. 'bulk': how many values and letters a reading holds, each counted each time it is reached (what is shared counts as often as it is met; a slice's spare places count too). A statement '..UptoSaid' is the law's where the arguments, and the package variables that the reading takes, are together of bulk at most 1048576: NARROWER than '..Said'. Prove '..Said' where nothing that the law and all that it calls make is longer than what came in: it says more and counts as full. Else prove '..UptoSaid'. A law counts once. -/
mutual
def uptoBulk {H : Type} : DataW H → Nat
  | .lit (.string bytes) => bytes.length + 1
  | .lit _ => 1
  | .nil => 1
  | .ptr d => uptoBulk d + 1
  | .slice elems spare => uptoBulkAll elems + uptoBulkAll spare + 1
  | .agg parts => uptoBulkAll parts + 1
  | .iface _ d => uptoBulk d + 1
  | .map entries => uptoBulkEntries entries + 1
  | .held _ => 1
def uptoBulkAll {H : Type} : List (DataW H) → Nat
  | [] => 0
  | d :: r => uptoBulk d + uptoBulkAll r
def uptoBulkEntries {H : Type} : List (Lit × DataW H) → Nat
  | [] => 0
  | x :: r => uptoBulkEntry x + uptoBulkEntries r
def uptoBulkEntry {H : Type} : Lit × DataW H → Nat
  | (.string bytes, d) => bytes.length + uptoBulk d + 1
  | (_, d) => uptoBulk d + 1
 end
def uptoSmall : (H : Type) → List (DataW H) → Bool := fun _ ds => decide (uptoBulkAll ds ≤ 1048576)
def OpenSpec.upto (s : _root_.Go.ChangeSpec) : _root_.Go.OpenSpec := { _root_.Go.OpenSpec.ofChange s with cond := some uptoSmall }

/-- 'webfingerlaw20.MediaParses', WHERE WHAT IT READS IS OF BULK AT MOST 1048576: true; the input reads as it did. -/
def mediaParsesUptoRow : OpenClaim := { program := "ytaopehogpdgkgaagreat", sum := "da75c934b951659b8be6d934386dcac8cd28daa0901b67116f548b31d39ad5a1", func := "webfinger/webfingerlaw20.MediaParses", spec := "mediaParses", inPlace := ["internal/bytealg.IndexByteString", "sync/atomic.LoadUint32", "(*internal/sync.Mutex).Lock", "internal/race.Disable", "sync/atomic.CompareAndSwapInt32", "internal/race.Enable", "internal/race.Acquire", "(*internal/sync.Mutex).lockSlow", "internal/sync.runtime_canSpin", "internal/sync.runtime_doSpin", "internal/sync.throw", "internal/sync.runtime_nanotime", "internal/sync.runtime_SemacquireMutex", "sync/atomic.AddInt32", "(*internal/sync.Mutex).Unlock", "internal/race.ReleaseMerge", "(*internal/sync.Mutex).unlockSlow", "internal/sync.fatal", "internal/sync.runtime_Semrelease", "sync/atomic.StoreUint32"], unfollowed := true, recurses := true, apart := false, narrowed := true }
def MediaParsesUptoSaid : Prop := mediaParsesUptoRow.holds Tryz.pinned (OpenSpec.upto mediaParsesSpec)

/-- 'webfingerlaw20.MediaFormats', WHERE WHAT IT READS IS OF BULK AT MOST 1048576: true; the input reads as it did. -/
def mediaFormatsUptoRow : OpenClaim := { program := "ytaopehogpdgkgaagreat", sum := "da75c934b951659b8be6d934386dcac8cd28daa0901b67116f548b31d39ad5a1", func := "webfinger/webfingerlaw20.MediaFormats", spec := "mediaFormats", inPlace := ["internal/bytealg.IndexByteString", "sync/atomic.LoadUint32", "(*internal/sync.Mutex).Lock", "internal/race.Disable", "sync/atomic.CompareAndSwapInt32", "internal/race.Enable", "internal/race.Acquire", "(*internal/sync.Mutex).lockSlow", "internal/sync.runtime_canSpin", "internal/sync.runtime_doSpin", "internal/sync.throw", "internal/sync.runtime_nanotime", "internal/sync.runtime_SemacquireMutex", "sync/atomic.AddInt32", "(*internal/sync.Mutex).Unlock", "internal/race.ReleaseMerge", "(*internal/sync.Mutex).unlockSlow", "internal/sync.fatal", "internal/sync.runtime_Semrelease", "sync/atomic.StoreUint32"], unfollowed := true, recurses := true, apart := false, narrowed := true }
def MediaFormatsUptoSaid : Prop := mediaFormatsUptoRow.holds Tryz.pinned (OpenSpec.upto mediaFormatsSpec)

/-- 'webfingerlaw22.WeblinkFinds', WHERE WHAT IT READS IS OF BULK AT MOST 1048576: true; the input reads as it did. -/
def weblinkFindsUptoRow : OpenClaim := { program := "ytaopehogpdgkgaagreat", sum := "da75c934b951659b8be6d934386dcac8cd28daa0901b67116f548b31d39ad5a1", func := "webfinger/webfingerlaw22.WeblinkFinds", spec := "weblinkFinds", inPlace := ["internal/bytealg.IndexByteString", "sync/atomic.LoadUint32", "(*internal/sync.Mutex).Lock", "internal/race.Disable", "sync/atomic.CompareAndSwapInt32", "internal/race.Enable", "internal/race.Acquire", "(*internal/sync.Mutex).lockSlow", "internal/sync.runtime_canSpin", "internal/sync.runtime_doSpin", "internal/sync.throw", "internal/sync.runtime_nanotime", "internal/sync.runtime_SemacquireMutex", "sync/atomic.AddInt32", "(*internal/sync.Mutex).Unlock", "internal/race.ReleaseMerge", "(*internal/sync.Mutex).unlockSlow", "internal/sync.fatal", "internal/sync.runtime_Semrelease", "sync/atomic.StoreUint32", "internal/abi.NoEscape", "internal/bytealg.MakeNoZero"], unfollowed := true, recurses := true, apart := false, narrowed := true }
def WeblinkFindsUptoSaid : Prop := weblinkFindsUptoRow.holds Tryz.pinned (OpenSpec.upto weblinkFindsSpec)

/-- 'webfingerlaw22.WeblinkBack', WHERE WHAT IT READS IS OF BULK AT MOST 1048576: true; the input reads as it did. -/
def weblinkBackUptoRow : OpenClaim := { program := "ytaopehogpdgkgaagreat", sum := "da75c934b951659b8be6d934386dcac8cd28daa0901b67116f548b31d39ad5a1", func := "webfinger/webfingerlaw22.WeblinkBack", spec := "weblinkBack", inPlace := ["internal/bytealg.IndexByteString", "sync/atomic.LoadUint32", "(*internal/sync.Mutex).Lock", "internal/race.Disable", "sync/atomic.CompareAndSwapInt32", "internal/race.Enable", "internal/race.Acquire", "(*internal/sync.Mutex).lockSlow", "internal/sync.runtime_canSpin", "internal/sync.runtime_doSpin", "internal/sync.throw", "internal/sync.runtime_nanotime", "internal/sync.runtime_SemacquireMutex", "sync/atomic.AddInt32", "(*internal/sync.Mutex).Unlock", "internal/race.ReleaseMerge", "(*internal/sync.Mutex).unlockSlow", "internal/sync.fatal", "internal/sync.runtime_Semrelease", "sync/atomic.StoreUint32", "internal/abi.NoEscape", "internal/bytealg.MakeNoZero"], unfollowed := true, recurses := true, apart := false, narrowed := true }
def WeblinkBackUptoSaid : Prop := weblinkBackUptoRow.holds Tryz.pinned (OpenSpec.upto weblinkBackSpec)

end Rows
end Go.Proofs.YtaopehogpdgkgaaGreat
