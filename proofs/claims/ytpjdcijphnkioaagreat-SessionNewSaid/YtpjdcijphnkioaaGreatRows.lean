/-
  No cell of these rows narrows 'for every input' (looked for: loops, veiled, ifaces, maps, wideKeys, modest, calm, conditions, laid).
  DERIVED. THE GIVEN ROWS OF THIS SEAT. 2 by the template 'for every input the law returns true; each argument reads behind the call as it read before'; 0 by the template 'total and deterministic' (their statements: YtpjdcijphnkioaaGreatTotals.lean).
  GIVEN WITH THE SEED: the statements are not yours to turn. If you find one false, say at which input.
  Laid BY PROGRAM, IN A SANDBOX (cutbox-rows.mjs): the forced cells as the released guide's own fill.sh prints them over the translation da3d4d0aff5d21be… (all of the seat's roots in one cut). By AI agents, Wed Nov 11 2026. No macro, syntax, notation, axiom, sorry.
-/
import Derived.Test.YtpjdcijphnkioaaGreatChecked
import GoSem.Claim
import GoSem.ClaimJoined
import GoSem.ClaimMapViews
import Derived.JoinedTies
import Derived.KernelRfl
namespace Go.Proofs.YtpjdcijphnkioaaGreat
/- THE CELL 'sum', in the pinned program and in every row, IS THE sha256 OF THE DUMP (.gsa) THAT YtpjdcijphnkioaaGreatProg.lean LOADS. Nothing in Lean hashes anything: it is a label: what it is worth is what the hold of that sum in a sandbox is worth. -/
noncomputable def Tryz.pinned : Pinned := { name := "ytpjdcijphnkioaagreat", sum := "da3d4d0aff5d21be1f6f09f29bac04a8fa56eb49e0cfcbb0f26351b9ea666e68", checked := Tryz.checked }
namespace Rows
def none {H : Type} : Left H := { results := [], args := [] }

/-- 'quidnunclaw21.SessionNew': WHATEVER THE INPUT: true; the input reads as it did. -/
def sessionNewSpec : ChangeSpec := { name := "sessionNew", fn := fun _ => fun
  | [d1, d2, d3] => { results := [.lit (.bool true)], args := [d1, d2, d3] }
  | _ => none }
def sessionNewRow : OpenClaim := { program := "ytpjdcijphnkioaagreat", sum := "da3d4d0aff5d21be1f6f09f29bac04a8fa56eb49e0cfcbb0f26351b9ea666e68", func := "quidnunc/quidnunclaw21.SessionNew", spec := "sessionNew", inPlace := ["sync/atomic.LoadUint32", "(*internal/sync.Mutex).Lock", "internal/race.Disable", "sync/atomic.CompareAndSwapInt32", "internal/race.Enable", "internal/race.Acquire", "(*internal/sync.Mutex).lockSlow", "internal/sync.runtime_canSpin", "internal/sync.runtime_doSpin", "internal/sync.throw", "internal/sync.runtime_nanotime", "internal/sync.runtime_SemacquireMutex", "sync/atomic.AddInt32", "(*internal/sync.Mutex).Unlock", "internal/race.ReleaseMerge", "(*internal/sync.Mutex).unlockSlow", "internal/sync.fatal", "internal/sync.runtime_Semrelease", "sync/atomic.StoreUint32", "sync/atomic.StoreInt64", "sync/atomic.LoadInt64", "sync/atomic.CompareAndSwapInt64", "slices.overlaps[quidnunc/table.Pair[bool]]", "slices.overlaps[quidnunc/table.Pair[quidnunc/api.Entry]]", "sync/atomic.AddUint64", "slices.overlaps[quidnunc/api.Mark]", "sync/atomic.LoadUint64"], unfollowed := true, recurses := true, plainKeys := false, apart := false }
def SessionNewSaid : Prop := sessionNewRow.holds Tryz.pinned (OpenSpec.ofChange sessionNewSpec)

/-- ITS FALSE NEIGHBOUR: 'it returns false'. Refute it at one input. -/
def sessionNewWrong : ChangeSpec := { name := "sessionNew", fn := fun _ => fun
  | [d1, d2, d3] => { results := [.lit (.bool false)], args := [d1, d2, d3] }
  | _ => none }
def SessionNewWrongFalsely : Prop := sessionNewRow.holds Tryz.pinned (OpenSpec.ofChange sessionNewWrong)

/-- 'quidnunclaw19.TreeNew': WHATEVER THE INPUT: true; the input reads as it did. -/
def treeNewSpec : ChangeSpec := { name := "treeNew", fn := fun _ => fun
  | [d1, d2, d3] => { results := [.lit (.bool true)], args := [d1, d2, d3] }
  | _ => none }
def treeNewRow : OpenClaim := { program := "ytpjdcijphnkioaagreat", sum := "da3d4d0aff5d21be1f6f09f29bac04a8fa56eb49e0cfcbb0f26351b9ea666e68", func := "quidnunc/quidnunclaw19.TreeNew", spec := "treeNew", inPlace := ["sync/atomic.LoadUint32", "(*internal/sync.Mutex).Lock", "internal/race.Disable", "sync/atomic.CompareAndSwapInt32", "internal/race.Enable", "internal/race.Acquire", "(*internal/sync.Mutex).lockSlow", "internal/sync.runtime_canSpin", "internal/sync.runtime_doSpin", "internal/sync.throw", "internal/sync.runtime_nanotime", "internal/sync.runtime_SemacquireMutex", "sync/atomic.AddInt32", "(*internal/sync.Mutex).Unlock", "internal/race.ReleaseMerge", "(*internal/sync.Mutex).unlockSlow", "internal/sync.fatal", "internal/sync.runtime_Semrelease", "sync/atomic.StoreUint32", "sync/atomic.StoreInt64", "sync/atomic.LoadInt64", "sync/atomic.CompareAndSwapInt64", "slices.overlaps[quidnunc/table.Pair[bool]]", "slices.overlaps[quidnunc/table.Pair[quidnunc/api.Entry]]", "sync/atomic.AddUint64", "slices.overlaps[quidnunc/api.Mark]"], unfollowed := true, recurses := true, plainKeys := false, apart := false }
def TreeNewSaid : Prop := treeNewRow.holds Tryz.pinned (OpenSpec.ofChange treeNewSpec)

/-- ITS FALSE NEIGHBOUR: 'it returns false'. Refute it at one input. -/
def treeNewWrong : ChangeSpec := { name := "treeNew", fn := fun _ => fun
  | [d1, d2, d3] => { results := [.lit (.bool false)], args := [d1, d2, d3] }
  | _ => none }
def TreeNewWrongFalsely : Prop := treeNewRow.holds Tryz.pinned (OpenSpec.ofChange treeNewWrong)

/- THE SECOND FORM. 'bulk': how many values and letters a reading holds, each counted each time it is reached (what is shared counts as often as it is met; a slice's spare places count too). A statement '..UptoSaid' is the law's where the arguments, and the package variables that the reading takes, are together of bulk at most 1048576: NARROWER than '..Said'. Prove '..Said' where nothing that the law and all that it calls make is longer than what came in: it says more and counts as full. Else prove '..UptoSaid'. A law counts once. -/
mutual
def uptoBulk {H : Type} : DataW H → Nat
  | .lit (.string bytes) => bytes.length + 1
  | .lit _ => 1
  | .nil => 1
  | .ptr d => uptoBulk d + 1
  | .slice elems spare => uptoBulkAll elems + uptoBulkAll spare + 1
  | .agg parts => uptoBulkAll parts + 1
  | .iface _ d => uptoBulk d + 1
  | .map entries => uptoBulkEntries entries + 1
  | .held _ => 1
def uptoBulkAll {H : Type} : List (DataW H) → Nat
  | [] => 0
  | d :: r => uptoBulk d + uptoBulkAll r
def uptoBulkEntries {H : Type} : List (Lit × DataW H) → Nat
  | [] => 0
  | x :: r => uptoBulkEntry x + uptoBulkEntries r
def uptoBulkEntry {H : Type} : Lit × DataW H → Nat
  | (.string bytes, d) => bytes.length + uptoBulk d + 1
  | (_, d) => uptoBulk d + 1
 end
def uptoSmall : (H : Type) → List (DataW H) → Bool := fun _ ds => decide (uptoBulkAll ds ≤ 1048576)
def OpenSpec.upto (s : _root_.Go.ChangeSpec) : _root_.Go.OpenSpec := { _root_.Go.OpenSpec.ofChange s with cond := some uptoSmall }

/-- 'quidnunclaw21.SessionNew', WHERE WHAT IT READS IS OF BULK AT MOST 1048576: true; the input reads as it did. -/
def sessionNewUptoRow : OpenClaim := { program := "ytpjdcijphnkioaagreat", sum := "da3d4d0aff5d21be1f6f09f29bac04a8fa56eb49e0cfcbb0f26351b9ea666e68", func := "quidnunc/quidnunclaw21.SessionNew", spec := "sessionNew", inPlace := ["sync/atomic.LoadUint32", "(*internal/sync.Mutex).Lock", "internal/race.Disable", "sync/atomic.CompareAndSwapInt32", "internal/race.Enable", "internal/race.Acquire", "(*internal/sync.Mutex).lockSlow", "internal/sync.runtime_canSpin", "internal/sync.runtime_doSpin", "internal/sync.throw", "internal/sync.runtime_nanotime", "internal/sync.runtime_SemacquireMutex", "sync/atomic.AddInt32", "(*internal/sync.Mutex).Unlock", "internal/race.ReleaseMerge", "(*internal/sync.Mutex).unlockSlow", "internal/sync.fatal", "internal/sync.runtime_Semrelease", "sync/atomic.StoreUint32", "sync/atomic.StoreInt64", "sync/atomic.LoadInt64", "sync/atomic.CompareAndSwapInt64", "slices.overlaps[quidnunc/table.Pair[bool]]", "slices.overlaps[quidnunc/table.Pair[quidnunc/api.Entry]]", "sync/atomic.AddUint64", "slices.overlaps[quidnunc/api.Mark]", "sync/atomic.LoadUint64"], unfollowed := true, recurses := true, plainKeys := false, apart := false, narrowed := true }
def SessionNewUptoSaid : Prop := sessionNewUptoRow.holds Tryz.pinned (OpenSpec.upto sessionNewSpec)

/-- 'quidnunclaw19.TreeNew', WHERE WHAT IT READS IS OF BULK AT MOST 1048576: true; the input reads as it did. -/
def treeNewUptoRow : OpenClaim := { program := "ytpjdcijphnkioaagreat", sum := "da3d4d0aff5d21be1f6f09f29bac04a8fa56eb49e0cfcbb0f26351b9ea666e68", func := "quidnunc/quidnunclaw19.TreeNew", spec := "treeNew", inPlace := ["sync/atomic.LoadUint32", "(*internal/sync.Mutex).Lock", "internal/race.Disable", "sync/atomic.CompareAndSwapInt32", "internal/race.Enable", "internal/race.Acquire", "(*internal/sync.Mutex).lockSlow", "internal/sync.runtime_canSpin", "internal/sync.runtime_doSpin", "internal/sync.throw", "internal/sync.runtime_nanotime", "internal/sync.runtime_SemacquireMutex", "sync/atomic.AddInt32", "(*internal/sync.Mutex).Unlock", "internal/race.ReleaseMerge", "(*internal/sync.Mutex).unlockSlow", "internal/sync.fatal", "internal/sync.runtime_Semrelease", "sync/atomic.StoreUint32", "sync/atomic.StoreInt64", "sync/atomic.LoadInt64", "sync/atomic.CompareAndSwapInt64", "slices.overlaps[quidnunc/table.Pair[bool]]", "slices.overlaps[quidnunc/table.Pair[quidnunc/api.Entry]]", "sync/atomic.AddUint64", "slices.overlaps[quidnunc/api.Mark]"], unfollowed := true, recurses := true, plainKeys := false, apart := false, narrowed := true }
def TreeNewUptoSaid : Prop := treeNewUptoRow.holds Tryz.pinned (OpenSpec.upto treeNewSpec)

end Rows
end Go.Proofs.YtpjdcijphnkioaaGreat
