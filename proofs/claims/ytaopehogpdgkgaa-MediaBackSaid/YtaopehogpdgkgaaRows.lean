/-
  No cell of these rows narrows 'for every input' (looked for: loops, veiled, ifaces, maps, wideKeys, modest, calm, conditions, laid).
  DERIVED. THE GIVEN ROWS OF THIS SEAT. 3 by the template 'for every input the law returns true; each argument reads behind the call as it read before'; 0 by the template 'total and deterministic' (their statements: YtaopehogpdgkgaaTotals.lean).
  GIVEN WITH THE SEED: the statements are not yours to turn. If you find one false, say at which input.
  Laid BY PROGRAM, IN A SANDBOX (cutbox-rows.mjs): the forced cells as the released guide's own fill.sh prints them over the translation 7e7c6ac7369f2f4f… (all of the seat's roots in one cut). By AI agents, Wed Nov 11 2026. No macro, syntax, notation, axiom, sorry.
-/
import Derived.Test.YtaopehogpdgkgaaChecked
import GoSem.Claim
import GoSem.ClaimJoined
import GoSem.ClaimMapViews
import Derived.JoinedTies
import Derived.KernelRfl
namespace Go.Proofs.Ytaopehogpdgkgaa
/- THE CELL 'sum', in the pinned program and in every row, IS THE sha256 OF THE DUMP (.gsa) THAT YtaopehogpdgkgaaProg.lean LOADS. Nothing in Lean hashes anything: it is a label: what it is worth is what the hold of that sum in a sandbox is worth. -/
noncomputable def Try.pinned : Pinned := { name := "ytaopehogpdgkgaa", sum := "7e7c6ac7369f2f4fe1558692a5daf683dba3b16b7bcb55b6ed993028bd732957", checked := Try.checked }
namespace Rows
def none {H : Type} : Left H := { results := [], args := [] }

/-- 'webfingerlaw22.WeblinkParses': WHATEVER THE INPUT: true; the input reads as it did. -/
def weblinkParsesSpec : ChangeSpec := { name := "weblinkParses", fn := fun _ => fun
  | [d] => { results := [.lit (.bool true)], args := [d] }
  | _ => none }
def weblinkParsesRow : OpenClaim := { program := "ytaopehogpdgkgaa", sum := "7e7c6ac7369f2f4fe1558692a5daf683dba3b16b7bcb55b6ed993028bd732957", func := "webfinger/webfingerlaw22.WeblinkParses", spec := "weblinkParses", inPlace := ["internal/bytealg.IndexByteString"], unfollowed := true, recurses := true, apart := false }
def WeblinkParsesSaid : Prop := weblinkParsesRow.holds Try.pinned (OpenSpec.ofChange weblinkParsesSpec)

/-- ITS FALSE NEIGHBOUR: 'it returns false'. Refute it at one input. -/
def weblinkParsesWrong : ChangeSpec := { name := "weblinkParses", fn := fun _ => fun
  | [d] => { results := [.lit (.bool false)], args := [d] }
  | _ => none }
def WeblinkParsesWrongFalsely : Prop := weblinkParsesRow.holds Try.pinned (OpenSpec.ofChange weblinkParsesWrong)

/-- 'webfingerlaw22.WeblinkMany': WHATEVER THE INPUT: true; the input reads as it did. -/
def weblinkManySpec : ChangeSpec := { name := "weblinkMany", fn := fun _ => fun
  | [d] => { results := [.lit (.bool true)], args := [d] }
  | _ => none }
def weblinkManyRow : OpenClaim := { program := "ytaopehogpdgkgaa", sum := "7e7c6ac7369f2f4fe1558692a5daf683dba3b16b7bcb55b6ed993028bd732957", func := "webfinger/webfingerlaw22.WeblinkMany", spec := "weblinkMany", inPlace := ["internal/bytealg.IndexByteString"], unfollowed := true, recurses := true, apart := false }
def WeblinkManySaid : Prop := weblinkManyRow.holds Try.pinned (OpenSpec.ofChange weblinkManySpec)

/-- ITS FALSE NEIGHBOUR: 'it returns false'. Refute it at one input. -/
def weblinkManyWrong : ChangeSpec := { name := "weblinkMany", fn := fun _ => fun
  | [d] => { results := [.lit (.bool false)], args := [d] }
  | _ => none }
def WeblinkManyWrongFalsely : Prop := weblinkManyRow.holds Try.pinned (OpenSpec.ofChange weblinkManyWrong)

/-- 'webfingerlaw20.MediaBack': WHATEVER THE INPUT: true; the input reads as it did. -/
def mediaBackSpec : ChangeSpec := { name := "mediaBack", fn := fun _ => fun
  | [d] => { results := [.lit (.bool true)], args := [d] }
  | _ => none }
def mediaBackRow : OpenClaim := { program := "ytaopehogpdgkgaa", sum := "7e7c6ac7369f2f4fe1558692a5daf683dba3b16b7bcb55b6ed993028bd732957", func := "webfinger/webfingerlaw20.MediaBack", spec := "mediaBack", inPlace := ["internal/bytealg.IndexByteString", "sync/atomic.LoadUint32", "(*internal/sync.Mutex).Lock", "internal/race.Disable", "sync/atomic.CompareAndSwapInt32", "internal/race.Enable", "internal/race.Acquire", "(*internal/sync.Mutex).lockSlow", "internal/sync.runtime_canSpin", "internal/sync.runtime_doSpin", "internal/sync.throw", "internal/sync.runtime_nanotime", "internal/sync.runtime_SemacquireMutex", "sync/atomic.AddInt32", "(*internal/sync.Mutex).Unlock", "internal/race.ReleaseMerge", "(*internal/sync.Mutex).unlockSlow", "internal/sync.fatal", "internal/sync.runtime_Semrelease", "sync/atomic.StoreUint32"], unfollowed := true, recurses := true, apart := false }
def MediaBackSaid : Prop := mediaBackRow.holds Try.pinned (OpenSpec.ofChange mediaBackSpec)

/-- ITS FALSE NEIGHBOUR: 'it returns false'. Refute it at one input. -/
def mediaBackWrong : ChangeSpec := { name := "mediaBack", fn := fun _ => fun
  | [d] => { results := [.lit (.bool false)], args := [d] }
  | _ => none }
def MediaBackWrongFalsely : Prop := mediaBackRow.holds Try.pinned (OpenSpec.ofChange mediaBackWrong)

/- THE SECOND FORM. 'bulk': how many values and letters a reading holds, each counted each time it is reached (what is shared counts as often as it is met; a slice's spare places count too). A statement '..UptoSaid' is the law's where the arguments, and the package variables that the reading takes, are together of bulk at most 1048576: NARROWER than '..Said'. Prove '..Said' where nothing that the law and all that it calls make is longer than what came in: it says more and counts as full. Else prove '..UptoSaid'. A law counts once. -/
mutual
def uptoBulk {H : Type} : DataW H → Nat
  | .lit (.string bytes) => bytes.length + 1
  | .lit _ => 1
  | .nil => 1
  | .ptr d => uptoBulk d + 1
  | .slice elems spare => uptoBulkAll elems + uptoBulkAll spare + 1
  | .agg parts => uptoBulkAll parts + 1
  | .iface _ d => uptoBulk d + 1
  | .map entries => uptoBulkEntries entries + 1
  | .held _ => 1
def uptoBulkAll {H : Type} : List (DataW H) → Nat
  | [] => 0
  | d :: r => uptoBulk d + uptoBulkAll r
def uptoBulkEntries {H : Type} : List (Lit × DataW H) → Nat
  | [] => 0
  | x :: r => uptoBulkEntry x + uptoBulkEntries r
def uptoBulkEntry {H : Type} : Lit × DataW H → Nat
  | (.string bytes, d) => bytes.length + uptoBulk d + 1
  | (_, d) => uptoBulk d + 1
 end
def uptoSmall : (H : Type) → List (DataW H) → Bool := fun _ ds => decide (uptoBulkAll ds ≤ 1048576)
def OpenSpec.upto (s : _root_.Go.ChangeSpec) : _root_.Go.OpenSpec := { _root_.Go.OpenSpec.ofChange s with cond := some uptoSmall }

/-- 'webfingerlaw22.WeblinkParses', WHERE WHAT IT READS IS OF BULK AT MOST 1048576: true; the input reads as it did. -/
def weblinkParsesUptoRow : OpenClaim := { program := "ytaopehogpdgkgaa", sum := "7e7c6ac7369f2f4fe1558692a5daf683dba3b16b7bcb55b6ed993028bd732957", func := "webfinger/webfingerlaw22.WeblinkParses", spec := "weblinkParses", inPlace := ["internal/bytealg.IndexByteString"], unfollowed := true, recurses := true, apart := false, narrowed := true }
def WeblinkParsesUptoSaid : Prop := weblinkParsesUptoRow.holds Try.pinned (OpenSpec.upto weblinkParsesSpec)

/-- 'webfingerlaw22.WeblinkMany', WHERE WHAT IT READS IS OF BULK AT MOST 1048576: true; the input reads as it did. -/
def weblinkManyUptoRow : OpenClaim := { program := "ytaopehogpdgkgaa", sum := "7e7c6ac7369f2f4fe1558692a5daf683dba3b16b7bcb55b6ed993028bd732957", func := "webfinger/webfingerlaw22.WeblinkMany", spec := "weblinkMany", inPlace := ["internal/bytealg.IndexByteString"], unfollowed := true, recurses := true, apart := false, narrowed := true }
def WeblinkManyUptoSaid : Prop := weblinkManyUptoRow.holds Try.pinned (OpenSpec.upto weblinkManySpec)

/-- 'webfingerlaw20.MediaBack', WHERE WHAT IT READS IS OF BULK AT MOST 1048576: true; the input reads as it did. -/
def mediaBackUptoRow : OpenClaim := { program := "ytaopehogpdgkgaa", sum := "7e7c6ac7369f2f4fe1558692a5daf683dba3b16b7bcb55b6ed993028bd732957", func := "webfinger/webfingerlaw20.MediaBack", spec := "mediaBack", inPlace := ["internal/bytealg.IndexByteString", "sync/atomic.LoadUint32", "(*internal/sync.Mutex).Lock", "internal/race.Disable", "sync/atomic.CompareAndSwapInt32", "internal/race.Enable", "internal/race.Acquire", "(*internal/sync.Mutex).lockSlow", "internal/sync.runtime_canSpin", "internal/sync.runtime_doSpin", "internal/sync.throw", "internal/sync.runtime_nanotime", "internal/sync.runtime_SemacquireMutex", "sync/atomic.AddInt32", "(*internal/sync.Mutex).Unlock", "internal/race.ReleaseMerge", "(*internal/sync.Mutex).unlockSlow", "internal/sync.fatal", "internal/sync.runtime_Semrelease", "sync/atomic.StoreUint32"], unfollowed := true, recurses := true, apart := false, narrowed := true }
def MediaBackUptoSaid : Prop := mediaBackUptoRow.holds Try.pinned (OpenSpec.upto mediaBackSpec)

end Rows
end Go.Proofs.Ytaopehogpdgkgaa
