/-
  NARROWER THAN 'FOR EVERY INPUT', by the rows' own cells (each row's printed sentence says how): ReplicaNewest: laid · ReplicaStamps: laid · ReplicaGraves: laid · ReplicaQuota: laid · ReplicaIdle: laid · ReplicaPlays: laid · ReplicaKeeps: laid · ReplicaAsks: laid · ReplicaSums: laid.
  DERIVED. THE GIVEN ROWS OF THIS SEAT. 9 by the template 'for every input the law returns true; each argument reads behind the call as it read before'; 0 by the template 'total and deterministic' (their statements: YtggbeedghblakaaGreatDoorTotals.lean).
  GIVEN WITH THE SEED: the statements are not yours to turn. If you find one false, say at which input.
  Laid BY PROGRAM, IN A SANDBOX (cutbox-rows.mjs): the forced cells as the released guide's own fill.sh prints them over the translation 1805ba9093f3b6ad… (all of the seat's roots in one cut). By AI agents, Wed Nov 11 2026. No macro, syntax, notation, axiom, sorry.
-/
import Derived.Test.YtggbeedghblakaaGreatDoorChecked
import GoSem.Claim
import GoSem.ClaimJoined
import GoSem.ClaimMapViews
import Derived.JoinedTies
import Derived.KernelRfl
namespace Go.Proofs.YtggbeedghblakaaGreatDoor
/- THE CELL 'sum', in the pinned program and in every row, IS THE sha256 OF THE DUMP (.gsa) THAT YtggbeedghblakaaGreatDoorProg.lean LOADS. Nothing in Lean hashes anything: it is a label: what it is worth is what the hold of that sum in a sandbox is worth. -/
noncomputable def Tryz.pinned : Pinned := { name := "ytggbeedghblakaagreatdoor", sum := "1805ba9093f3b6adb935304535f9f71fa68841952d41e84944bed24fae82b452", checked := Tryz.checked }
namespace Rows
def none {H : Type} : Left H := { results := [], args := [] }

/- WHAT THE LISTED PACKAGE-LEVEL VARIABLES READ AS WHEN THE CALL BEGINS. Each datum BY PROGRAM (the guide's laid-datum.mjs) off the statement by which the dump's own 'gosem.cut.vars' lays the variable. In a bare row this is a premise. The card (YtggbeedghblakaaGreatDoorCards.lean) ties it to the program's text. -/
def laid_quidnunc_replica_first {H : Type} : DataW H := .agg [.lit (.int .i64 1), .lit (.int .i64 0)]

/-- 'quidnunclaw12.ReplicaNewest': WHATEVER THE INPUT: true; the input reads as it did. -/
def replicaNewestSpec : ChangeSpec := { name := "replicaNewest", fn := fun _ => fun
  | [d1, d2] => { results := [.lit (.bool true)], args := [d1, d2] }
  | _ => none }
def replicaNewestRow : OpenClaim := { program := "ytggbeedghblakaagreatdoor", sum := "1805ba9093f3b6adb935304535f9f71fa68841952d41e84944bed24fae82b452", func := "quidnunc/quidnunclaw12.ReplicaNewest", spec := "replicaNewest", inPlace := ["sync/atomic.LoadUint32", "(*internal/sync.Mutex).Lock", "internal/race.Disable", "sync/atomic.CompareAndSwapInt32", "internal/race.Enable", "internal/race.Acquire", "(*internal/sync.Mutex).lockSlow", "internal/sync.runtime_canSpin", "internal/sync.runtime_doSpin", "internal/sync.throw", "internal/sync.runtime_nanotime", "internal/sync.runtime_SemacquireMutex", "sync/atomic.AddInt32", "(*internal/sync.Mutex).Unlock", "internal/race.ReleaseMerge", "(*internal/sync.Mutex).unlockSlow", "internal/sync.fatal", "internal/sync.runtime_Semrelease", "sync/atomic.StoreUint32", "sync/atomic.StoreInt64", "sync/atomic.LoadInt64", "sync/atomic.CompareAndSwapInt64", "slices.overlaps[quidnunc/table.Pair[bool]]", "slices.overlaps[quidnunc/table.Pair[quidnunc/api.Entry]]", "sync/atomic.AddUint64", "slices.overlaps[quidnunc/api.Mark]"], unfollowed := true, recurses := true, named := ["quidnunc/replica.first"], apart := false, laid := [("quidnunc/replica.first", laid_quidnunc_replica_first)] }
def ReplicaNewestSaid : Prop := replicaNewestRow.holds Tryz.pinned (OpenSpec.ofChange replicaNewestSpec)

/-- ITS FALSE NEIGHBOUR: 'it returns false'. Refute it at one input. -/
def replicaNewestWrong : ChangeSpec := { name := "replicaNewest", fn := fun _ => fun
  | [d1, d2] => { results := [.lit (.bool false)], args := [d1, d2] }
  | _ => none }
def ReplicaNewestWrongFalsely : Prop := replicaNewestRow.holds Tryz.pinned (OpenSpec.ofChange replicaNewestWrong)

/-- 'quidnunclaw12.ReplicaStamps': WHATEVER THE INPUT: true; the input reads as it did. -/
def replicaStampsSpec : ChangeSpec := { name := "replicaStamps", fn := fun _ => fun
  | [d1, d2] => { results := [.lit (.bool true)], args := [d1, d2] }
  | _ => none }
def replicaStampsRow : OpenClaim := { program := "ytggbeedghblakaagreatdoor", sum := "1805ba9093f3b6adb935304535f9f71fa68841952d41e84944bed24fae82b452", func := "quidnunc/quidnunclaw12.ReplicaStamps", spec := "replicaStamps", inPlace := ["sync/atomic.LoadUint32", "(*internal/sync.Mutex).Lock", "internal/race.Disable", "sync/atomic.CompareAndSwapInt32", "internal/race.Enable", "internal/race.Acquire", "(*internal/sync.Mutex).lockSlow", "internal/sync.runtime_canSpin", "internal/sync.runtime_doSpin", "internal/sync.throw", "internal/sync.runtime_nanotime", "internal/sync.runtime_SemacquireMutex", "sync/atomic.AddInt32", "(*internal/sync.Mutex).Unlock", "internal/race.ReleaseMerge", "(*internal/sync.Mutex).unlockSlow", "internal/sync.fatal", "internal/sync.runtime_Semrelease", "sync/atomic.StoreUint32", "sync/atomic.StoreInt64", "sync/atomic.LoadInt64", "sync/atomic.CompareAndSwapInt64", "slices.overlaps[quidnunc/table.Pair[bool]]", "slices.overlaps[quidnunc/table.Pair[quidnunc/api.Entry]]", "sync/atomic.AddUint64", "slices.overlaps[quidnunc/api.Mark]"], unfollowed := true, recurses := true, named := ["quidnunc/replica.first"], apart := false, laid := [("quidnunc/replica.first", laid_quidnunc_replica_first)] }
def ReplicaStampsSaid : Prop := replicaStampsRow.holds Tryz.pinned (OpenSpec.ofChange replicaStampsSpec)

/-- ITS FALSE NEIGHBOUR: 'it returns false'. Refute it at one input. -/
def replicaStampsWrong : ChangeSpec := { name := "replicaStamps", fn := fun _ => fun
  | [d1, d2] => { results := [.lit (.bool false)], args := [d1, d2] }
  | _ => none }
def ReplicaStampsWrongFalsely : Prop := replicaStampsRow.holds Tryz.pinned (OpenSpec.ofChange replicaStampsWrong)

/-- 'quidnunclaw12.ReplicaGraves': WHATEVER THE INPUT: true; the input reads as it did. -/
def replicaGravesSpec : ChangeSpec := { name := "replicaGraves", fn := fun _ => fun
  | [d1, d2] => { results := [.lit (.bool true)], args := [d1, d2] }
  | _ => none }
def replicaGravesRow : OpenClaim := { program := "ytggbeedghblakaagreatdoor", sum := "1805ba9093f3b6adb935304535f9f71fa68841952d41e84944bed24fae82b452", func := "quidnunc/quidnunclaw12.ReplicaGraves", spec := "replicaGraves", inPlace := ["sync/atomic.LoadUint32", "(*internal/sync.Mutex).Lock", "internal/race.Disable", "sync/atomic.CompareAndSwapInt32", "internal/race.Enable", "internal/race.Acquire", "(*internal/sync.Mutex).lockSlow", "internal/sync.runtime_canSpin", "internal/sync.runtime_doSpin", "internal/sync.throw", "internal/sync.runtime_nanotime", "internal/sync.runtime_SemacquireMutex", "sync/atomic.AddInt32", "(*internal/sync.Mutex).Unlock", "internal/race.ReleaseMerge", "(*internal/sync.Mutex).unlockSlow", "internal/sync.fatal", "internal/sync.runtime_Semrelease", "sync/atomic.StoreUint32", "sync/atomic.StoreInt64", "sync/atomic.LoadInt64", "sync/atomic.CompareAndSwapInt64", "slices.overlaps[quidnunc/table.Pair[bool]]", "slices.overlaps[quidnunc/table.Pair[quidnunc/api.Entry]]", "sync/atomic.AddUint64", "slices.overlaps[quidnunc/api.Mark]"], unfollowed := true, recurses := true, named := ["quidnunc/replica.first"], apart := false, laid := [("quidnunc/replica.first", laid_quidnunc_replica_first)] }
def ReplicaGravesSaid : Prop := replicaGravesRow.holds Tryz.pinned (OpenSpec.ofChange replicaGravesSpec)

/-- ITS FALSE NEIGHBOUR: 'it returns false'. Refute it at one input. -/
def replicaGravesWrong : ChangeSpec := { name := "replicaGraves", fn := fun _ => fun
  | [d1, d2] => { results := [.lit (.bool false)], args := [d1, d2] }
  | _ => none }
def ReplicaGravesWrongFalsely : Prop := replicaGravesRow.holds Tryz.pinned (OpenSpec.ofChange replicaGravesWrong)

/-- 'quidnunclaw12.ReplicaQuota': WHATEVER THE INPUT: true; the input reads as it did. -/
def replicaQuotaSpec : ChangeSpec := { name := "replicaQuota", fn := fun _ => fun
  | [d1, d2] => { results := [.lit (.bool true)], args := [d1, d2] }
  | _ => none }
def replicaQuotaRow : OpenClaim := { program := "ytggbeedghblakaagreatdoor", sum := "1805ba9093f3b6adb935304535f9f71fa68841952d41e84944bed24fae82b452", func := "quidnunc/quidnunclaw12.ReplicaQuota", spec := "replicaQuota", inPlace := ["sync/atomic.LoadUint32", "(*internal/sync.Mutex).Lock", "internal/race.Disable", "sync/atomic.CompareAndSwapInt32", "internal/race.Enable", "internal/race.Acquire", "(*internal/sync.Mutex).lockSlow", "internal/sync.runtime_canSpin", "internal/sync.runtime_doSpin", "internal/sync.throw", "internal/sync.runtime_nanotime", "internal/sync.runtime_SemacquireMutex", "sync/atomic.AddInt32", "(*internal/sync.Mutex).Unlock", "internal/race.ReleaseMerge", "(*internal/sync.Mutex).unlockSlow", "internal/sync.fatal", "internal/sync.runtime_Semrelease", "sync/atomic.StoreUint32", "sync/atomic.StoreInt64", "sync/atomic.LoadInt64", "sync/atomic.CompareAndSwapInt64", "slices.overlaps[quidnunc/table.Pair[bool]]", "slices.overlaps[quidnunc/table.Pair[quidnunc/api.Entry]]", "sync/atomic.AddUint64", "slices.overlaps[quidnunc/api.Mark]"], unfollowed := true, recurses := true, named := ["quidnunc/replica.first"], apart := false, laid := [("quidnunc/replica.first", laid_quidnunc_replica_first)] }
def ReplicaQuotaSaid : Prop := replicaQuotaRow.holds Tryz.pinned (OpenSpec.ofChange replicaQuotaSpec)

/-- ITS FALSE NEIGHBOUR: 'it returns false'. Refute it at one input. -/
def replicaQuotaWrong : ChangeSpec := { name := "replicaQuota", fn := fun _ => fun
  | [d1, d2] => { results := [.lit (.bool false)], args := [d1, d2] }
  | _ => none }
def ReplicaQuotaWrongFalsely : Prop := replicaQuotaRow.holds Tryz.pinned (OpenSpec.ofChange replicaQuotaWrong)

/-- 'quidnunclaw12.ReplicaIdle': WHATEVER THE INPUT: true; the input reads as it did. -/
def replicaIdleSpec : ChangeSpec := { name := "replicaIdle", fn := fun _ => fun
  | [d1, d2] => { results := [.lit (.bool true)], args := [d1, d2] }
  | _ => none }
def replicaIdleRow : OpenClaim := { program := "ytggbeedghblakaagreatdoor", sum := "1805ba9093f3b6adb935304535f9f71fa68841952d41e84944bed24fae82b452", func := "quidnunc/quidnunclaw12.ReplicaIdle", spec := "replicaIdle", inPlace := ["sync/atomic.LoadUint32", "(*internal/sync.Mutex).Lock", "internal/race.Disable", "sync/atomic.CompareAndSwapInt32", "internal/race.Enable", "internal/race.Acquire", "(*internal/sync.Mutex).lockSlow", "internal/sync.runtime_canSpin", "internal/sync.runtime_doSpin", "internal/sync.throw", "internal/sync.runtime_nanotime", "internal/sync.runtime_SemacquireMutex", "sync/atomic.AddInt32", "(*internal/sync.Mutex).Unlock", "internal/race.ReleaseMerge", "(*internal/sync.Mutex).unlockSlow", "internal/sync.fatal", "internal/sync.runtime_Semrelease", "sync/atomic.StoreUint32", "sync/atomic.StoreInt64", "sync/atomic.LoadInt64", "sync/atomic.CompareAndSwapInt64", "slices.overlaps[quidnunc/table.Pair[bool]]", "slices.overlaps[quidnunc/table.Pair[quidnunc/api.Entry]]", "sync/atomic.AddUint64", "slices.overlaps[quidnunc/api.Mark]", "sync/atomic.LoadUint64"], unfollowed := true, recurses := true, named := ["quidnunc/replica.first"], apart := false, laid := [("quidnunc/replica.first", laid_quidnunc_replica_first)] }
def ReplicaIdleSaid : Prop := replicaIdleRow.holds Tryz.pinned (OpenSpec.ofChange replicaIdleSpec)

/-- ITS FALSE NEIGHBOUR: 'it returns false'. Refute it at one input. -/
def replicaIdleWrong : ChangeSpec := { name := "replicaIdle", fn := fun _ => fun
  | [d1, d2] => { results := [.lit (.bool false)], args := [d1, d2] }
  | _ => none }
def ReplicaIdleWrongFalsely : Prop := replicaIdleRow.holds Tryz.pinned (OpenSpec.ofChange replicaIdleWrong)

/-- 'quidnunclaw12.ReplicaPlays': WHATEVER THE INPUT: true; the input reads as it did. -/
def replicaPlaysSpec : ChangeSpec := { name := "replicaPlays", fn := fun _ => fun
  | [d1, d2, d3] => { results := [.lit (.bool true)], args := [d1, d2, d3] }
  | _ => none }
def replicaPlaysRow : OpenClaim := { program := "ytggbeedghblakaagreatdoor", sum := "1805ba9093f3b6adb935304535f9f71fa68841952d41e84944bed24fae82b452", func := "quidnunc/quidnunclaw12.ReplicaPlays", spec := "replicaPlays", inPlace := ["sync/atomic.LoadUint32", "(*internal/sync.Mutex).Lock", "internal/race.Disable", "sync/atomic.CompareAndSwapInt32", "internal/race.Enable", "internal/race.Acquire", "(*internal/sync.Mutex).lockSlow", "internal/sync.runtime_canSpin", "internal/sync.runtime_doSpin", "internal/sync.throw", "internal/sync.runtime_nanotime", "internal/sync.runtime_SemacquireMutex", "sync/atomic.AddInt32", "(*internal/sync.Mutex).Unlock", "internal/race.ReleaseMerge", "(*internal/sync.Mutex).unlockSlow", "internal/sync.fatal", "internal/sync.runtime_Semrelease", "sync/atomic.StoreUint32", "sync/atomic.StoreInt64", "sync/atomic.LoadInt64", "sync/atomic.CompareAndSwapInt64", "slices.overlaps[quidnunc/table.Pair[bool]]", "slices.overlaps[quidnunc/table.Pair[quidnunc/api.Entry]]", "sync/atomic.AddUint64", "slices.overlaps[quidnunc/api.Mark]", "sync/atomic.LoadUint64"], unfollowed := true, recurses := true, named := ["quidnunc/replica.first"], apart := false, laid := [("quidnunc/replica.first", laid_quidnunc_replica_first)] }
def ReplicaPlaysSaid : Prop := replicaPlaysRow.holds Tryz.pinned (OpenSpec.ofChange replicaPlaysSpec)

/-- ITS FALSE NEIGHBOUR: 'it returns false'. Refute it at one input. -/
def replicaPlaysWrong : ChangeSpec := { name := "replicaPlays", fn := fun _ => fun
  | [d1, d2, d3] => { results := [.lit (.bool false)], args := [d1, d2, d3] }
  | _ => none }
def ReplicaPlaysWrongFalsely : Prop := replicaPlaysRow.holds Tryz.pinned (OpenSpec.ofChange replicaPlaysWrong)

/-- 'quidnunclaw12.ReplicaKeeps': WHATEVER THE INPUT: true; the input reads as it did. -/
def replicaKeepsSpec : ChangeSpec := { name := "replicaKeeps", fn := fun _ => fun
  | [d1, d2, d3, d4] => { results := [.lit (.bool true)], args := [d1, d2, d3, d4] }
  | _ => none }
def replicaKeepsRow : OpenClaim := { program := "ytggbeedghblakaagreatdoor", sum := "1805ba9093f3b6adb935304535f9f71fa68841952d41e84944bed24fae82b452", func := "quidnunc/quidnunclaw12.ReplicaKeeps", spec := "replicaKeeps", inPlace := ["sync/atomic.LoadUint32", "(*internal/sync.Mutex).Lock", "internal/race.Disable", "sync/atomic.CompareAndSwapInt32", "internal/race.Enable", "internal/race.Acquire", "(*internal/sync.Mutex).lockSlow", "internal/sync.runtime_canSpin", "internal/sync.runtime_doSpin", "internal/sync.throw", "internal/sync.runtime_nanotime", "internal/sync.runtime_SemacquireMutex", "sync/atomic.AddInt32", "(*internal/sync.Mutex).Unlock", "internal/race.ReleaseMerge", "(*internal/sync.Mutex).unlockSlow", "internal/sync.fatal", "internal/sync.runtime_Semrelease", "sync/atomic.StoreUint32", "sync/atomic.StoreInt64", "sync/atomic.LoadInt64", "sync/atomic.CompareAndSwapInt64", "slices.overlaps[quidnunc/table.Pair[bool]]", "slices.overlaps[quidnunc/table.Pair[quidnunc/api.Entry]]", "sync/atomic.AddUint64", "slices.overlaps[quidnunc/api.Mark]", "sync/atomic.LoadUint64"], unfollowed := true, recurses := true, named := ["quidnunc/replica.first"], apart := false, laid := [("quidnunc/replica.first", laid_quidnunc_replica_first)] }
def ReplicaKeepsSaid : Prop := replicaKeepsRow.holds Tryz.pinned (OpenSpec.ofChange replicaKeepsSpec)

/-- ITS FALSE NEIGHBOUR: 'it returns false'. Refute it at one input. -/
def replicaKeepsWrong : ChangeSpec := { name := "replicaKeeps", fn := fun _ => fun
  | [d1, d2, d3, d4] => { results := [.lit (.bool false)], args := [d1, d2, d3, d4] }
  | _ => none }
def ReplicaKeepsWrongFalsely : Prop := replicaKeepsRow.holds Tryz.pinned (OpenSpec.ofChange replicaKeepsWrong)

/-- 'quidnunclaw12.ReplicaAsks': WHATEVER THE INPUT: true; the input reads as it did. -/
def replicaAsksSpec : ChangeSpec := { name := "replicaAsks", fn := fun _ => fun
  | [d1, d2, d3, d4, d5, d6] => { results := [.lit (.bool true)], args := [d1, d2, d3, d4, d5, d6] }
  | _ => none }
def replicaAsksRow : OpenClaim := { program := "ytggbeedghblakaagreatdoor", sum := "1805ba9093f3b6adb935304535f9f71fa68841952d41e84944bed24fae82b452", func := "quidnunc/quidnunclaw12.ReplicaAsks", spec := "replicaAsks", inPlace := ["sync/atomic.LoadUint32", "(*internal/sync.Mutex).Lock", "internal/race.Disable", "sync/atomic.CompareAndSwapInt32", "internal/race.Enable", "internal/race.Acquire", "(*internal/sync.Mutex).lockSlow", "internal/sync.runtime_canSpin", "internal/sync.runtime_doSpin", "internal/sync.throw", "internal/sync.runtime_nanotime", "internal/sync.runtime_SemacquireMutex", "sync/atomic.AddInt32", "(*internal/sync.Mutex).Unlock", "internal/race.ReleaseMerge", "(*internal/sync.Mutex).unlockSlow", "internal/sync.fatal", "internal/sync.runtime_Semrelease", "sync/atomic.StoreUint32", "sync/atomic.StoreInt64", "sync/atomic.LoadInt64", "sync/atomic.CompareAndSwapInt64", "slices.overlaps[quidnunc/table.Pair[bool]]", "slices.overlaps[quidnunc/table.Pair[quidnunc/api.Entry]]", "sync/atomic.AddUint64", "slices.overlaps[quidnunc/api.Mark]"], unfollowed := true, recurses := true, named := ["quidnunc/replica.first"], apart := false, laid := [("quidnunc/replica.first", laid_quidnunc_replica_first)] }
def ReplicaAsksSaid : Prop := replicaAsksRow.holds Tryz.pinned (OpenSpec.ofChange replicaAsksSpec)

/-- ITS FALSE NEIGHBOUR: 'it returns false'. Refute it at one input. -/
def replicaAsksWrong : ChangeSpec := { name := "replicaAsks", fn := fun _ => fun
  | [d1, d2, d3, d4, d5, d6] => { results := [.lit (.bool false)], args := [d1, d2, d3, d4, d5, d6] }
  | _ => none }
def ReplicaAsksWrongFalsely : Prop := replicaAsksRow.holds Tryz.pinned (OpenSpec.ofChange replicaAsksWrong)

/-- 'quidnunclaw12.ReplicaSums': WHATEVER THE INPUT: true; the input reads as it did. -/
def replicaSumsSpec : ChangeSpec := { name := "replicaSums", fn := fun _ => fun
  | [d1, d2, d3] => { results := [.lit (.bool true)], args := [d1, d2, d3] }
  | _ => none }
def replicaSumsRow : OpenClaim := { program := "ytggbeedghblakaagreatdoor", sum := "1805ba9093f3b6adb935304535f9f71fa68841952d41e84944bed24fae82b452", func := "quidnunc/quidnunclaw12.ReplicaSums", spec := "replicaSums", inPlace := ["sync/atomic.LoadUint32", "(*internal/sync.Mutex).Lock", "internal/race.Disable", "sync/atomic.CompareAndSwapInt32", "internal/race.Enable", "internal/race.Acquire", "(*internal/sync.Mutex).lockSlow", "internal/sync.runtime_canSpin", "internal/sync.runtime_doSpin", "internal/sync.throw", "internal/sync.runtime_nanotime", "internal/sync.runtime_SemacquireMutex", "sync/atomic.AddInt32", "(*internal/sync.Mutex).Unlock", "internal/race.ReleaseMerge", "(*internal/sync.Mutex).unlockSlow", "internal/sync.fatal", "internal/sync.runtime_Semrelease", "sync/atomic.StoreUint32", "sync/atomic.StoreInt64", "sync/atomic.LoadInt64", "sync/atomic.CompareAndSwapInt64", "slices.overlaps[quidnunc/table.Pair[bool]]", "slices.overlaps[quidnunc/table.Pair[quidnunc/api.Entry]]", "sync/atomic.AddUint64", "slices.overlaps[quidnunc/api.Mark]", "sync/atomic.LoadUint64"], unfollowed := true, recurses := true, named := ["quidnunc/replica.first"], apart := false, laid := [("quidnunc/replica.first", laid_quidnunc_replica_first)] }
def ReplicaSumsSaid : Prop := replicaSumsRow.holds Tryz.pinned (OpenSpec.ofChange replicaSumsSpec)

/-- ITS FALSE NEIGHBOUR: 'it returns false'. Refute it at one input. -/
def replicaSumsWrong : ChangeSpec := { name := "replicaSums", fn := fun _ => fun
  | [d1, d2, d3] => { results := [.lit (.bool false)], args := [d1, d2, d3] }
  | _ => none }
def ReplicaSumsWrongFalsely : Prop := replicaSumsRow.holds Tryz.pinned (OpenSpec.ofChange replicaSumsWrong)

/- THE SECOND FORM. 'bulk': how many values and letters a reading holds, each counted each time it is reached (what is shared counts as often as it is met; a slice's spare places count too). A statement '..UptoSaid' is the law's where the arguments, and the package variables that the reading takes, are together of bulk at most 1048576: NARROWER than '..Said'. Prove '..Said' where nothing that the law and all that it calls make is longer than what came in: it says more and counts as full. Else prove '..UptoSaid'. A law counts once. -/
mutual
def uptoBulk {H : Type} : DataW H → Nat
  | .lit (.string bytes) => bytes.length + 1
  | .lit _ => 1
  | .nil => 1
  | .ptr d => uptoBulk d + 1
  | .slice elems spare => uptoBulkAll elems + uptoBulkAll spare + 1
  | .agg parts => uptoBulkAll parts + 1
  | .iface _ d => uptoBulk d + 1
  | .map entries => uptoBulkEntries entries + 1
  | .held _ => 1
def uptoBulkAll {H : Type} : List (DataW H) → Nat
  | [] => 0
  | d :: r => uptoBulk d + uptoBulkAll r
def uptoBulkEntries {H : Type} : List (Lit × DataW H) → Nat
  | [] => 0
  | x :: r => uptoBulkEntry x + uptoBulkEntries r
def uptoBulkEntry {H : Type} : Lit × DataW H → Nat
  | (.string bytes, d) => bytes.length + uptoBulk d + 1
  | (_, d) => uptoBulk d + 1
 end
def uptoSmall : (H : Type) → List (DataW H) → Bool := fun _ ds => decide (uptoBulkAll ds ≤ 1048576)
def OpenSpec.upto (s : _root_.Go.ChangeSpec) : _root_.Go.OpenSpec := { _root_.Go.OpenSpec.ofChange s with cond := some uptoSmall }

/-- 'quidnunclaw12.ReplicaNewest', WHERE WHAT IT READS IS OF BULK AT MOST 1048576: true; the input reads as it did. -/
def replicaNewestUptoRow : OpenClaim := { program := "ytggbeedghblakaagreatdoor", sum := "1805ba9093f3b6adb935304535f9f71fa68841952d41e84944bed24fae82b452", func := "quidnunc/quidnunclaw12.ReplicaNewest", spec := "replicaNewest", inPlace := ["sync/atomic.LoadUint32", "(*internal/sync.Mutex).Lock", "internal/race.Disable", "sync/atomic.CompareAndSwapInt32", "internal/race.Enable", "internal/race.Acquire", "(*internal/sync.Mutex).lockSlow", "internal/sync.runtime_canSpin", "internal/sync.runtime_doSpin", "internal/sync.throw", "internal/sync.runtime_nanotime", "internal/sync.runtime_SemacquireMutex", "sync/atomic.AddInt32", "(*internal/sync.Mutex).Unlock", "internal/race.ReleaseMerge", "(*internal/sync.Mutex).unlockSlow", "internal/sync.fatal", "internal/sync.runtime_Semrelease", "sync/atomic.StoreUint32", "sync/atomic.StoreInt64", "sync/atomic.LoadInt64", "sync/atomic.CompareAndSwapInt64", "slices.overlaps[quidnunc/table.Pair[bool]]", "slices.overlaps[quidnunc/table.Pair[quidnunc/api.Entry]]", "sync/atomic.AddUint64", "slices.overlaps[quidnunc/api.Mark]"], unfollowed := true, recurses := true, named := ["quidnunc/replica.first"], apart := false, laid := [("quidnunc/replica.first", laid_quidnunc_replica_first)], narrowed := true }
def ReplicaNewestUptoSaid : Prop := replicaNewestUptoRow.holds Tryz.pinned (OpenSpec.upto replicaNewestSpec)

/-- 'quidnunclaw12.ReplicaStamps', WHERE WHAT IT READS IS OF BULK AT MOST 1048576: true; the input reads as it did. -/
def replicaStampsUptoRow : OpenClaim := { program := "ytggbeedghblakaagreatdoor", sum := "1805ba9093f3b6adb935304535f9f71fa68841952d41e84944bed24fae82b452", func := "quidnunc/quidnunclaw12.ReplicaStamps", spec := "replicaStamps", inPlace := ["sync/atomic.LoadUint32", "(*internal/sync.Mutex).Lock", "internal/race.Disable", "sync/atomic.CompareAndSwapInt32", "internal/race.Enable", "internal/race.Acquire", "(*internal/sync.Mutex).lockSlow", "internal/sync.runtime_canSpin", "internal/sync.runtime_doSpin", "internal/sync.throw", "internal/sync.runtime_nanotime", "internal/sync.runtime_SemacquireMutex", "sync/atomic.AddInt32", "(*internal/sync.Mutex).Unlock", "internal/race.ReleaseMerge", "(*internal/sync.Mutex).unlockSlow", "internal/sync.fatal", "internal/sync.runtime_Semrelease", "sync/atomic.StoreUint32", "sync/atomic.StoreInt64", "sync/atomic.LoadInt64", "sync/atomic.CompareAndSwapInt64", "slices.overlaps[quidnunc/table.Pair[bool]]", "slices.overlaps[quidnunc/table.Pair[quidnunc/api.Entry]]", "sync/atomic.AddUint64", "slices.overlaps[quidnunc/api.Mark]"], unfollowed := true, recurses := true, named := ["quidnunc/replica.first"], apart := false, laid := [("quidnunc/replica.first", laid_quidnunc_replica_first)], narrowed := true }
def ReplicaStampsUptoSaid : Prop := replicaStampsUptoRow.holds Tryz.pinned (OpenSpec.upto replicaStampsSpec)

/-- 'quidnunclaw12.ReplicaGraves', WHERE WHAT IT READS IS OF BULK AT MOST 1048576: true; the input reads as it did. -/
def replicaGravesUptoRow : OpenClaim := { program := "ytggbeedghblakaagreatdoor", sum := "1805ba9093f3b6adb935304535f9f71fa68841952d41e84944bed24fae82b452", func := "quidnunc/quidnunclaw12.ReplicaGraves", spec := "replicaGraves", inPlace := ["sync/atomic.LoadUint32", "(*internal/sync.Mutex).Lock", "internal/race.Disable", "sync/atomic.CompareAndSwapInt32", "internal/race.Enable", "internal/race.Acquire", "(*internal/sync.Mutex).lockSlow", "internal/sync.runtime_canSpin", "internal/sync.runtime_doSpin", "internal/sync.throw", "internal/sync.runtime_nanotime", "internal/sync.runtime_SemacquireMutex", "sync/atomic.AddInt32", "(*internal/sync.Mutex).Unlock", "internal/race.ReleaseMerge", "(*internal/sync.Mutex).unlockSlow", "internal/sync.fatal", "internal/sync.runtime_Semrelease", "sync/atomic.StoreUint32", "sync/atomic.StoreInt64", "sync/atomic.LoadInt64", "sync/atomic.CompareAndSwapInt64", "slices.overlaps[quidnunc/table.Pair[bool]]", "slices.overlaps[quidnunc/table.Pair[quidnunc/api.Entry]]", "sync/atomic.AddUint64", "slices.overlaps[quidnunc/api.Mark]"], unfollowed := true, recurses := true, named := ["quidnunc/replica.first"], apart := false, laid := [("quidnunc/replica.first", laid_quidnunc_replica_first)], narrowed := true }
def ReplicaGravesUptoSaid : Prop := replicaGravesUptoRow.holds Tryz.pinned (OpenSpec.upto replicaGravesSpec)

/-- 'quidnunclaw12.ReplicaQuota', WHERE WHAT IT READS IS OF BULK AT MOST 1048576: true; the input reads as it did. -/
def replicaQuotaUptoRow : OpenClaim := { program := "ytggbeedghblakaagreatdoor", sum := "1805ba9093f3b6adb935304535f9f71fa68841952d41e84944bed24fae82b452", func := "quidnunc/quidnunclaw12.ReplicaQuota", spec := "replicaQuota", inPlace := ["sync/atomic.LoadUint32", "(*internal/sync.Mutex).Lock", "internal/race.Disable", "sync/atomic.CompareAndSwapInt32", "internal/race.Enable", "internal/race.Acquire", "(*internal/sync.Mutex).lockSlow", "internal/sync.runtime_canSpin", "internal/sync.runtime_doSpin", "internal/sync.throw", "internal/sync.runtime_nanotime", "internal/sync.runtime_SemacquireMutex", "sync/atomic.AddInt32", "(*internal/sync.Mutex).Unlock", "internal/race.ReleaseMerge", "(*internal/sync.Mutex).unlockSlow", "internal/sync.fatal", "internal/sync.runtime_Semrelease", "sync/atomic.StoreUint32", "sync/atomic.StoreInt64", "sync/atomic.LoadInt64", "sync/atomic.CompareAndSwapInt64", "slices.overlaps[quidnunc/table.Pair[bool]]", "slices.overlaps[quidnunc/table.Pair[quidnunc/api.Entry]]", "sync/atomic.AddUint64", "slices.overlaps[quidnunc/api.Mark]"], unfollowed := true, recurses := true, named := ["quidnunc/replica.first"], apart := false, laid := [("quidnunc/replica.first", laid_quidnunc_replica_first)], narrowed := true }
def ReplicaQuotaUptoSaid : Prop := replicaQuotaUptoRow.holds Tryz.pinned (OpenSpec.upto replicaQuotaSpec)

/-- 'quidnunclaw12.ReplicaIdle', WHERE WHAT IT READS IS OF BULK AT MOST 1048576: true; the input reads as it did. -/
def replicaIdleUptoRow : OpenClaim := { program := "ytggbeedghblakaagreatdoor", sum := "1805ba9093f3b6adb935304535f9f71fa68841952d41e84944bed24fae82b452", func := "quidnunc/quidnunclaw12.ReplicaIdle", spec := "replicaIdle", inPlace := ["sync/atomic.LoadUint32", "(*internal/sync.Mutex).Lock", "internal/race.Disable", "sync/atomic.CompareAndSwapInt32", "internal/race.Enable", "internal/race.Acquire", "(*internal/sync.Mutex).lockSlow", "internal/sync.runtime_canSpin", "internal/sync.runtime_doSpin", "internal/sync.throw", "internal/sync.runtime_nanotime", "internal/sync.runtime_SemacquireMutex", "sync/atomic.AddInt32", "(*internal/sync.Mutex).Unlock", "internal/race.ReleaseMerge", "(*internal/sync.Mutex).unlockSlow", "internal/sync.fatal", "internal/sync.runtime_Semrelease", "sync/atomic.StoreUint32", "sync/atomic.StoreInt64", "sync/atomic.LoadInt64", "sync/atomic.CompareAndSwapInt64", "slices.overlaps[quidnunc/table.Pair[bool]]", "slices.overlaps[quidnunc/table.Pair[quidnunc/api.Entry]]", "sync/atomic.AddUint64", "slices.overlaps[quidnunc/api.Mark]", "sync/atomic.LoadUint64"], unfollowed := true, recurses := true, named := ["quidnunc/replica.first"], apart := false, laid := [("quidnunc/replica.first", laid_quidnunc_replica_first)], narrowed := true }
def ReplicaIdleUptoSaid : Prop := replicaIdleUptoRow.holds Tryz.pinned (OpenSpec.upto replicaIdleSpec)

/-- 'quidnunclaw12.ReplicaPlays', WHERE WHAT IT READS IS OF BULK AT MOST 1048576: true; the input reads as it did. -/
def replicaPlaysUptoRow : OpenClaim := { program := "ytggbeedghblakaagreatdoor", sum := "1805ba9093f3b6adb935304535f9f71fa68841952d41e84944bed24fae82b452", func := "quidnunc/quidnunclaw12.ReplicaPlays", spec := "replicaPlays", inPlace := ["sync/atomic.LoadUint32", "(*internal/sync.Mutex).Lock", "internal/race.Disable", "sync/atomic.CompareAndSwapInt32", "internal/race.Enable", "internal/race.Acquire", "(*internal/sync.Mutex).lockSlow", "internal/sync.runtime_canSpin", "internal/sync.runtime_doSpin", "internal/sync.throw", "internal/sync.runtime_nanotime", "internal/sync.runtime_SemacquireMutex", "sync/atomic.AddInt32", "(*internal/sync.Mutex).Unlock", "internal/race.ReleaseMerge", "(*internal/sync.Mutex).unlockSlow", "internal/sync.fatal", "internal/sync.runtime_Semrelease", "sync/atomic.StoreUint32", "sync/atomic.StoreInt64", "sync/atomic.LoadInt64", "sync/atomic.CompareAndSwapInt64", "slices.overlaps[quidnunc/table.Pair[bool]]", "slices.overlaps[quidnunc/table.Pair[quidnunc/api.Entry]]", "sync/atomic.AddUint64", "slices.overlaps[quidnunc/api.Mark]", "sync/atomic.LoadUint64"], unfollowed := true, recurses := true, named := ["quidnunc/replica.first"], apart := false, laid := [("quidnunc/replica.first", laid_quidnunc_replica_first)], narrowed := true }
def ReplicaPlaysUptoSaid : Prop := replicaPlaysUptoRow.holds Tryz.pinned (OpenSpec.upto replicaPlaysSpec)

/-- 'quidnunclaw12.ReplicaKeeps', WHERE WHAT IT READS IS OF BULK AT MOST 1048576: true; the input reads as it did. -/
def replicaKeepsUptoRow : OpenClaim := { program := "ytggbeedghblakaagreatdoor", sum := "1805ba9093f3b6adb935304535f9f71fa68841952d41e84944bed24fae82b452", func := "quidnunc/quidnunclaw12.ReplicaKeeps", spec := "replicaKeeps", inPlace := ["sync/atomic.LoadUint32", "(*internal/sync.Mutex).Lock", "internal/race.Disable", "sync/atomic.CompareAndSwapInt32", "internal/race.Enable", "internal/race.Acquire", "(*internal/sync.Mutex).lockSlow", "internal/sync.runtime_canSpin", "internal/sync.runtime_doSpin", "internal/sync.throw", "internal/sync.runtime_nanotime", "internal/sync.runtime_SemacquireMutex", "sync/atomic.AddInt32", "(*internal/sync.Mutex).Unlock", "internal/race.ReleaseMerge", "(*internal/sync.Mutex).unlockSlow", "internal/sync.fatal", "internal/sync.runtime_Semrelease", "sync/atomic.StoreUint32", "sync/atomic.StoreInt64", "sync/atomic.LoadInt64", "sync/atomic.CompareAndSwapInt64", "slices.overlaps[quidnunc/table.Pair[bool]]", "slices.overlaps[quidnunc/table.Pair[quidnunc/api.Entry]]", "sync/atomic.AddUint64", "slices.overlaps[quidnunc/api.Mark]", "sync/atomic.LoadUint64"], unfollowed := true, recurses := true, named := ["quidnunc/replica.first"], apart := false, laid := [("quidnunc/replica.first", laid_quidnunc_replica_first)], narrowed := true }
def ReplicaKeepsUptoSaid : Prop := replicaKeepsUptoRow.holds Tryz.pinned (OpenSpec.upto replicaKeepsSpec)

/-- 'quidnunclaw12.ReplicaAsks', WHERE WHAT IT READS IS OF BULK AT MOST 1048576: true; the input reads as it did. -/
def replicaAsksUptoRow : OpenClaim := { program := "ytggbeedghblakaagreatdoor", sum := "1805ba9093f3b6adb935304535f9f71fa68841952d41e84944bed24fae82b452", func := "quidnunc/quidnunclaw12.ReplicaAsks", spec := "replicaAsks", inPlace := ["sync/atomic.LoadUint32", "(*internal/sync.Mutex).Lock", "internal/race.Disable", "sync/atomic.CompareAndSwapInt32", "internal/race.Enable", "internal/race.Acquire", "(*internal/sync.Mutex).lockSlow", "internal/sync.runtime_canSpin", "internal/sync.runtime_doSpin", "internal/sync.throw", "internal/sync.runtime_nanotime", "internal/sync.runtime_SemacquireMutex", "sync/atomic.AddInt32", "(*internal/sync.Mutex).Unlock", "internal/race.ReleaseMerge", "(*internal/sync.Mutex).unlockSlow", "internal/sync.fatal", "internal/sync.runtime_Semrelease", "sync/atomic.StoreUint32", "sync/atomic.StoreInt64", "sync/atomic.LoadInt64", "sync/atomic.CompareAndSwapInt64", "slices.overlaps[quidnunc/table.Pair[bool]]", "slices.overlaps[quidnunc/table.Pair[quidnunc/api.Entry]]", "sync/atomic.AddUint64", "slices.overlaps[quidnunc/api.Mark]"], unfollowed := true, recurses := true, named := ["quidnunc/replica.first"], apart := false, laid := [("quidnunc/replica.first", laid_quidnunc_replica_first)], narrowed := true }
def ReplicaAsksUptoSaid : Prop := replicaAsksUptoRow.holds Tryz.pinned (OpenSpec.upto replicaAsksSpec)

/-- 'quidnunclaw12.ReplicaSums', WHERE WHAT IT READS IS OF BULK AT MOST 1048576: true; the input reads as it did. -/
def replicaSumsUptoRow : OpenClaim := { program := "ytggbeedghblakaagreatdoor", sum := "1805ba9093f3b6adb935304535f9f71fa68841952d41e84944bed24fae82b452", func := "quidnunc/quidnunclaw12.ReplicaSums", spec := "replicaSums", inPlace := ["sync/atomic.LoadUint32", "(*internal/sync.Mutex).Lock", "internal/race.Disable", "sync/atomic.CompareAndSwapInt32", "internal/race.Enable", "internal/race.Acquire", "(*internal/sync.Mutex).lockSlow", "internal/sync.runtime_canSpin", "internal/sync.runtime_doSpin", "internal/sync.throw", "internal/sync.runtime_nanotime", "internal/sync.runtime_SemacquireMutex", "sync/atomic.AddInt32", "(*internal/sync.Mutex).Unlock", "internal/race.ReleaseMerge", "(*internal/sync.Mutex).unlockSlow", "internal/sync.fatal", "internal/sync.runtime_Semrelease", "sync/atomic.StoreUint32", "sync/atomic.StoreInt64", "sync/atomic.LoadInt64", "sync/atomic.CompareAndSwapInt64", "slices.overlaps[quidnunc/table.Pair[bool]]", "slices.overlaps[quidnunc/table.Pair[quidnunc/api.Entry]]", "sync/atomic.AddUint64", "slices.overlaps[quidnunc/api.Mark]", "sync/atomic.LoadUint64"], unfollowed := true, recurses := true, named := ["quidnunc/replica.first"], apart := false, laid := [("quidnunc/replica.first", laid_quidnunc_replica_first)], narrowed := true }
def ReplicaSumsUptoSaid : Prop := replicaSumsUptoRow.holds Tryz.pinned (OpenSpec.upto replicaSumsSpec)

end Rows
end Go.Proofs.YtggbeedghblakaaGreatDoor
