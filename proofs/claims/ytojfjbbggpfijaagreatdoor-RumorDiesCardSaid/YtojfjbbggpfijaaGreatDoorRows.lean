/-
  NARROWER THAN 'FOR EVERY INPUT', by the rows' own cells (each row's printed sentence says how): RumorEchoes: laid · RumorDies: laid · RumorCaps: laid.
  DERIVED. THE GIVEN ROWS OF THIS SEAT. 3 by the template 'for every input the law returns true; each argument reads behind the call as it read before'; 0 by the template 'total and deterministic' (their statements: YtojfjbbggpfijaaGreatDoorTotals.lean).
  GIVEN WITH THE SEED: the statements are not yours to turn. If you find one false, say at which input.
  Laid BY PROGRAM, IN A SANDBOX (cutbox-rows.mjs): the forced cells as the released guide's own fill.sh prints them over the translation 78164d77d706cb60… (all of the seat's roots in one cut). By AI agents, Wed Nov 11 2026. No macro, syntax, notation, axiom, sorry.
-/
import Derived.Test.YtojfjbbggpfijaaGreatDoorChecked
import GoSem.Claim
import GoSem.ClaimJoined
import GoSem.ClaimMapViews
import Derived.JoinedTies
import Derived.KernelRfl
namespace Go.Proofs.YtojfjbbggpfijaaGreatDoor
/- THE CELL 'sum', in the pinned program and in every row, IS THE sha256 OF THE DUMP (.gsa) THAT YtojfjbbggpfijaaGreatDoorProg.lean LOADS. Nothing in Lean hashes anything: it is a label: what it is worth is what the hold of that sum in a sandbox is worth. -/
noncomputable def Tryz.pinned : Pinned := { name := "ytojfjbbggpfijaagreatdoor", sum := "78164d77d706cb600f80cad513fe79397a809a9d6373ce4b43de75f996104545", checked := Tryz.checked }
namespace Rows
def none {H : Type} : Left H := { results := [], args := [] }

/- WHAT THE LISTED PACKAGE-LEVEL VARIABLES READ AS WHEN THE CALL BEGINS. Each datum BY PROGRAM (the guide's laid-datum.mjs) off the statement by which the dump's own 'gosem.cut.vars' lays the variable. In a bare row this is a premise. The card (YtojfjbbggpfijaaGreatDoorCards.lean) ties it to the program's text. -/
def laid_quidnunc_replica_first {H : Type} : DataW H := .agg [.lit (.int .i64 1), .lit (.int .i64 0)]

/-- 'quidnunclaw20.RumorEchoes': WHATEVER THE INPUT: true; the input reads as it did. -/
def rumorEchoesSpec : ChangeSpec := { name := "rumorEchoes", fn := fun _ => fun
  | [d1, d2, d3, d4] => { results := [.lit (.bool true)], args := [d1, d2, d3, d4] }
  | _ => none }
def rumorEchoesRow : OpenClaim := { program := "ytojfjbbggpfijaagreatdoor", sum := "78164d77d706cb600f80cad513fe79397a809a9d6373ce4b43de75f996104545", func := "quidnunc/quidnunclaw20.RumorEchoes", spec := "rumorEchoes", inPlace := ["sync/atomic.LoadUint32", "(*internal/sync.Mutex).Lock", "internal/race.Disable", "sync/atomic.CompareAndSwapInt32", "internal/race.Enable", "internal/race.Acquire", "(*internal/sync.Mutex).lockSlow", "internal/sync.runtime_canSpin", "internal/sync.runtime_doSpin", "internal/sync.throw", "internal/sync.runtime_nanotime", "internal/sync.runtime_SemacquireMutex", "sync/atomic.AddInt32", "(*internal/sync.Mutex).Unlock", "internal/race.ReleaseMerge", "(*internal/sync.Mutex).unlockSlow", "internal/sync.fatal", "internal/sync.runtime_Semrelease", "sync/atomic.StoreUint32", "sync/atomic.StoreInt64", "sync/atomic.LoadInt64", "sync/atomic.CompareAndSwapInt64", "slices.overlaps[quidnunc/table.Pair[bool]]", "slices.overlaps[quidnunc/table.Pair[quidnunc/api.Entry]]", "sync/atomic.AddUint64", "slices.overlaps[quidnunc/api.Mark]"], unfollowed := true, recurses := true, named := ["quidnunc/replica.first"], apart := false, laid := [("quidnunc/replica.first", laid_quidnunc_replica_first)] }
def RumorEchoesSaid : Prop := rumorEchoesRow.holds Tryz.pinned (OpenSpec.ofChange rumorEchoesSpec)

/-- ITS FALSE NEIGHBOUR: 'it returns false'. Refute it at one input. -/
def rumorEchoesWrong : ChangeSpec := { name := "rumorEchoes", fn := fun _ => fun
  | [d1, d2, d3, d4] => { results := [.lit (.bool false)], args := [d1, d2, d3, d4] }
  | _ => none }
def RumorEchoesWrongFalsely : Prop := rumorEchoesRow.holds Tryz.pinned (OpenSpec.ofChange rumorEchoesWrong)

/-- 'quidnunclaw20.RumorDies': WHATEVER THE INPUT: true; the input reads as it did. -/
def rumorDiesSpec : ChangeSpec := { name := "rumorDies", fn := fun _ => fun
  | [d1, d2, d3] => { results := [.lit (.bool true)], args := [d1, d2, d3] }
  | _ => none }
def rumorDiesRow : OpenClaim := { program := "ytojfjbbggpfijaagreatdoor", sum := "78164d77d706cb600f80cad513fe79397a809a9d6373ce4b43de75f996104545", func := "quidnunc/quidnunclaw20.RumorDies", spec := "rumorDies", inPlace := ["sync/atomic.LoadUint32", "(*internal/sync.Mutex).Lock", "internal/race.Disable", "sync/atomic.CompareAndSwapInt32", "internal/race.Enable", "internal/race.Acquire", "(*internal/sync.Mutex).lockSlow", "internal/sync.runtime_canSpin", "internal/sync.runtime_doSpin", "internal/sync.throw", "internal/sync.runtime_nanotime", "internal/sync.runtime_SemacquireMutex", "sync/atomic.AddInt32", "(*internal/sync.Mutex).Unlock", "internal/race.ReleaseMerge", "(*internal/sync.Mutex).unlockSlow", "internal/sync.fatal", "internal/sync.runtime_Semrelease", "sync/atomic.StoreUint32", "sync/atomic.StoreInt64", "sync/atomic.LoadInt64", "sync/atomic.CompareAndSwapInt64", "slices.overlaps[quidnunc/table.Pair[bool]]", "slices.overlaps[quidnunc/table.Pair[quidnunc/api.Entry]]", "sync/atomic.AddUint64", "slices.overlaps[quidnunc/api.Mark]"], unfollowed := true, recurses := true, named := ["quidnunc/replica.first"], apart := false, laid := [("quidnunc/replica.first", laid_quidnunc_replica_first)] }
def RumorDiesSaid : Prop := rumorDiesRow.holds Tryz.pinned (OpenSpec.ofChange rumorDiesSpec)

/-- ITS FALSE NEIGHBOUR: 'it returns false'. Refute it at one input. -/
def rumorDiesWrong : ChangeSpec := { name := "rumorDies", fn := fun _ => fun
  | [d1, d2, d3] => { results := [.lit (.bool false)], args := [d1, d2, d3] }
  | _ => none }
def RumorDiesWrongFalsely : Prop := rumorDiesRow.holds Tryz.pinned (OpenSpec.ofChange rumorDiesWrong)

/-- 'quidnunclaw20.RumorCaps': WHATEVER THE INPUT: true; the input reads as it did. -/
def rumorCapsSpec : ChangeSpec := { name := "rumorCaps", fn := fun _ => fun
  | [d1, d2, d3, d4] => { results := [.lit (.bool true)], args := [d1, d2, d3, d4] }
  | _ => none }
def rumorCapsRow : OpenClaim := { program := "ytojfjbbggpfijaagreatdoor", sum := "78164d77d706cb600f80cad513fe79397a809a9d6373ce4b43de75f996104545", func := "quidnunc/quidnunclaw20.RumorCaps", spec := "rumorCaps", inPlace := ["sync/atomic.LoadUint32", "(*internal/sync.Mutex).Lock", "internal/race.Disable", "sync/atomic.CompareAndSwapInt32", "internal/race.Enable", "internal/race.Acquire", "(*internal/sync.Mutex).lockSlow", "internal/sync.runtime_canSpin", "internal/sync.runtime_doSpin", "internal/sync.throw", "internal/sync.runtime_nanotime", "internal/sync.runtime_SemacquireMutex", "sync/atomic.AddInt32", "(*internal/sync.Mutex).Unlock", "internal/race.ReleaseMerge", "(*internal/sync.Mutex).unlockSlow", "internal/sync.fatal", "internal/sync.runtime_Semrelease", "sync/atomic.StoreUint32", "sync/atomic.StoreInt64", "sync/atomic.LoadInt64", "sync/atomic.CompareAndSwapInt64", "slices.overlaps[quidnunc/table.Pair[bool]]", "slices.overlaps[quidnunc/table.Pair[quidnunc/api.Entry]]", "sync/atomic.AddUint64", "slices.overlaps[quidnunc/api.Mark]"], unfollowed := true, recurses := true, named := ["quidnunc/replica.first"], apart := false, laid := [("quidnunc/replica.first", laid_quidnunc_replica_first)] }
def RumorCapsSaid : Prop := rumorCapsRow.holds Tryz.pinned (OpenSpec.ofChange rumorCapsSpec)

/-- ITS FALSE NEIGHBOUR: 'it returns false'. Refute it at one input. -/
def rumorCapsWrong : ChangeSpec := { name := "rumorCaps", fn := fun _ => fun
  | [d1, d2, d3, d4] => { results := [.lit (.bool false)], args := [d1, d2, d3, d4] }
  | _ => none }
def RumorCapsWrongFalsely : Prop := rumorCapsRow.holds Tryz.pinned (OpenSpec.ofChange rumorCapsWrong)

/- THE SECOND FORM. 'bulk': how many values and letters a reading holds, each counted each time it is reached (what is shared counts as often as it is met; a slice's spare places count too). A statement '..UptoSaid' is the law's where the arguments, and the package variables that the reading takes, are together of bulk at most 1048576: NARROWER than '..Said'. Prove '..Said' where nothing that the law and all that it calls make is longer than what came in: it says more and counts as full. Else prove '..UptoSaid'. A law counts once. -/
mutual
def uptoBulk {H : Type} : DataW H → Nat
  | .lit (.string bytes) => bytes.length + 1
  | .lit _ => 1
  | .nil => 1
  | .ptr d => uptoBulk d + 1
  | .slice elems spare => uptoBulkAll elems + uptoBulkAll spare + 1
  | .agg parts => uptoBulkAll parts + 1
  | .iface _ d => uptoBulk d + 1
  | .map entries => uptoBulkEntries entries + 1
  | .held _ => 1
def uptoBulkAll {H : Type} : List (DataW H) → Nat
  | [] => 0
  | d :: r => uptoBulk d + uptoBulkAll r
def uptoBulkEntries {H : Type} : List (Lit × DataW H) → Nat
  | [] => 0
  | x :: r => uptoBulkEntry x + uptoBulkEntries r
def uptoBulkEntry {H : Type} : Lit × DataW H → Nat
  | (.string bytes, d) => bytes.length + uptoBulk d + 1
  | (_, d) => uptoBulk d + 1
 end
def uptoSmall : (H : Type) → List (DataW H) → Bool := fun _ ds => decide (uptoBulkAll ds ≤ 1048576)
def OpenSpec.upto (s : _root_.Go.ChangeSpec) : _root_.Go.OpenSpec := { _root_.Go.OpenSpec.ofChange s with cond := some uptoSmall }

/-- 'quidnunclaw20.RumorEchoes', WHERE WHAT IT READS IS OF BULK AT MOST 1048576: true; the input reads as it did. -/
def rumorEchoesUptoRow : OpenClaim := { program := "ytojfjbbggpfijaagreatdoor", sum := "78164d77d706cb600f80cad513fe79397a809a9d6373ce4b43de75f996104545", func := "quidnunc/quidnunclaw20.RumorEchoes", spec := "rumorEchoes", inPlace := ["sync/atomic.LoadUint32", "(*internal/sync.Mutex).Lock", "internal/race.Disable", "sync/atomic.CompareAndSwapInt32", "internal/race.Enable", "internal/race.Acquire", "(*internal/sync.Mutex).lockSlow", "internal/sync.runtime_canSpin", "internal/sync.runtime_doSpin", "internal/sync.throw", "internal/sync.runtime_nanotime", "internal/sync.runtime_SemacquireMutex", "sync/atomic.AddInt32", "(*internal/sync.Mutex).Unlock", "internal/race.ReleaseMerge", "(*internal/sync.Mutex).unlockSlow", "internal/sync.fatal", "internal/sync.runtime_Semrelease", "sync/atomic.StoreUint32", "sync/atomic.StoreInt64", "sync/atomic.LoadInt64", "sync/atomic.CompareAndSwapInt64", "slices.overlaps[quidnunc/table.Pair[bool]]", "slices.overlaps[quidnunc/table.Pair[quidnunc/api.Entry]]", "sync/atomic.AddUint64", "slices.overlaps[quidnunc/api.Mark]"], unfollowed := true, recurses := true, named := ["quidnunc/replica.first"], apart := false, laid := [("quidnunc/replica.first", laid_quidnunc_replica_first)], narrowed := true }
def RumorEchoesUptoSaid : Prop := rumorEchoesUptoRow.holds Tryz.pinned (OpenSpec.upto rumorEchoesSpec)

/-- 'quidnunclaw20.RumorDies', WHERE WHAT IT READS IS OF BULK AT MOST 1048576: true; the input reads as it did. -/
def rumorDiesUptoRow : OpenClaim := { program := "ytojfjbbggpfijaagreatdoor", sum := "78164d77d706cb600f80cad513fe79397a809a9d6373ce4b43de75f996104545", func := "quidnunc/quidnunclaw20.RumorDies", spec := "rumorDies", inPlace := ["sync/atomic.LoadUint32", "(*internal/sync.Mutex).Lock", "internal/race.Disable", "sync/atomic.CompareAndSwapInt32", "internal/race.Enable", "internal/race.Acquire", "(*internal/sync.Mutex).lockSlow", "internal/sync.runtime_canSpin", "internal/sync.runtime_doSpin", "internal/sync.throw", "internal/sync.runtime_nanotime", "internal/sync.runtime_SemacquireMutex", "sync/atomic.AddInt32", "(*internal/sync.Mutex).Unlock", "internal/race.ReleaseMerge", "(*internal/sync.Mutex).unlockSlow", "internal/sync.fatal", "internal/sync.runtime_Semrelease", "sync/atomic.StoreUint32", "sync/atomic.StoreInt64", "sync/atomic.LoadInt64", "sync/atomic.CompareAndSwapInt64", "slices.overlaps[quidnunc/table.Pair[bool]]", "slices.overlaps[quidnunc/table.Pair[quidnunc/api.Entry]]", "sync/atomic.AddUint64", "slices.overlaps[quidnunc/api.Mark]"], unfollowed := true, recurses := true, named := ["quidnunc/replica.first"], apart := false, laid := [("quidnunc/replica.first", laid_quidnunc_replica_first)], narrowed := true }
def RumorDiesUptoSaid : Prop := rumorDiesUptoRow.holds Tryz.pinned (OpenSpec.upto rumorDiesSpec)

/-- 'quidnunclaw20.RumorCaps', WHERE WHAT IT READS IS OF BULK AT MOST 1048576: true; the input reads as it did. -/
def rumorCapsUptoRow : OpenClaim := { program := "ytojfjbbggpfijaagreatdoor", sum := "78164d77d706cb600f80cad513fe79397a809a9d6373ce4b43de75f996104545", func := "quidnunc/quidnunclaw20.RumorCaps", spec := "rumorCaps", inPlace := ["sync/atomic.LoadUint32", "(*internal/sync.Mutex).Lock", "internal/race.Disable", "sync/atomic.CompareAndSwapInt32", "internal/race.Enable", "internal/race.Acquire", "(*internal/sync.Mutex).lockSlow", "internal/sync.runtime_canSpin", "internal/sync.runtime_doSpin", "internal/sync.throw", "internal/sync.runtime_nanotime", "internal/sync.runtime_SemacquireMutex", "sync/atomic.AddInt32", "(*internal/sync.Mutex).Unlock", "internal/race.ReleaseMerge", "(*internal/sync.Mutex).unlockSlow", "internal/sync.fatal", "internal/sync.runtime_Semrelease", "sync/atomic.StoreUint32", "sync/atomic.StoreInt64", "sync/atomic.LoadInt64", "sync/atomic.CompareAndSwapInt64", "slices.overlaps[quidnunc/table.Pair[bool]]", "slices.overlaps[quidnunc/table.Pair[quidnunc/api.Entry]]", "sync/atomic.AddUint64", "slices.overlaps[quidnunc/api.Mark]"], unfollowed := true, recurses := true, named := ["quidnunc/replica.first"], apart := false, laid := [("quidnunc/replica.first", laid_quidnunc_replica_first)], narrowed := true }
def RumorCapsUptoSaid : Prop := rumorCapsUptoRow.holds Tryz.pinned (OpenSpec.upto rumorCapsSpec)

end Rows
end Go.Proofs.YtojfjbbggpfijaaGreatDoor
