/-
  No cell of these rows narrows 'for every input' (looked for: loops, veiled, ifaces, maps, wideKeys, modest, calm, conditions, laid).
  DERIVED. THE GIVEN ROWS OF THIS SEAT. 3 by the template 'for every input the law returns true; each argument reads behind the call as it read before'; 0 by the template 'total and deterministic' (their statements: YtnibgchgcggfbacTotals.lean).
  GIVEN WITH THE SEED: the statements are not yours to turn. If you find one false, say at which input.
  Laid BY PROGRAM, IN A SANDBOX (cutbox-rows.mjs): the forced cells as the released guide's own fill.sh prints them over the translation 1110b6df8fbbba49… (all of the seat's roots in one cut). By AI agents, Wed Nov 11 2026. No macro, syntax, notation, axiom, sorry.
-/
import Derived.Test.YtnibgchgcggfbacChecked
import GoSem.Claim
import GoSem.ClaimJoined
import GoSem.ClaimMapViews
import Derived.JoinedTies
import Derived.KernelRfl
namespace Go.Proofs.Ytnibgchgcggfbac
/- THE CELL 'sum', in the pinned program and in every row, IS THE sha256 OF THE DUMP (.gsa) THAT YtnibgchgcggfbacProg.lean LOADS. Nothing in Lean hashes anything: it is a label: what it is worth is what the hold of that sum in a sandbox is worth. -/
noncomputable def Try.pinned : Pinned := { name := "ytnibgchgcggfbac", sum := "1110b6df8fbbba49da36ff2c2ca1f650711b744cd45796d1d5ca8e60c614a9d2", checked := Try.checked }
namespace Rows
def none {H : Type} : Left H := { results := [], args := [] }

/-- 'quidnunclaw15.ViewsMove': WHATEVER THE INPUT: true; the input reads as it did. -/
def viewsMoveSpec : ChangeSpec := { name := "viewsMove", fn := fun _ => fun
  | [d1, d2, d3, d4, d5] => { results := [.lit (.bool true)], args := [d1, d2, d3, d4, d5] }
  | _ => none }
def viewsMoveRow : OpenClaim := { program := "ytnibgchgcggfbac", sum := "1110b6df8fbbba49da36ff2c2ca1f650711b744cd45796d1d5ca8e60c614a9d2", func := "quidnunc/quidnunclaw15.ViewsMove", spec := "viewsMove", inPlace := ["slices.overlaps[int]"], apart := false }
def ViewsMoveSaid : Prop := viewsMoveRow.holds Try.pinned (OpenSpec.ofChange viewsMoveSpec)

/-- ITS FALSE NEIGHBOUR: 'it returns false'. Refute it at one input. -/
def viewsMoveWrong : ChangeSpec := { name := "viewsMove", fn := fun _ => fun
  | [d1, d2, d3, d4, d5] => { results := [.lit (.bool false)], args := [d1, d2, d3, d4, d5] }
  | _ => none }
def ViewsMoveWrongFalsely : Prop := viewsMoveRow.holds Try.pinned (OpenSpec.ofChange viewsMoveWrong)

/-- 'quidnunclaw15.ViewsKeep': WHATEVER THE INPUT: true; the input reads as it did. -/
def viewsKeepSpec : ChangeSpec := { name := "viewsKeep", fn := fun _ => fun
  | [d1, d2, d3, d4, d5] => { results := [.lit (.bool true)], args := [d1, d2, d3, d4, d5] }
  | _ => none }
def viewsKeepRow : OpenClaim := { program := "ytnibgchgcggfbac", sum := "1110b6df8fbbba49da36ff2c2ca1f650711b744cd45796d1d5ca8e60c614a9d2", func := "quidnunc/quidnunclaw15.ViewsKeep", spec := "viewsKeep", inPlace := ["slices.overlaps[int]"], unfollowed := true, recurses := true, apart := false }
def ViewsKeepSaid : Prop := viewsKeepRow.holds Try.pinned (OpenSpec.ofChange viewsKeepSpec)

/-- ITS FALSE NEIGHBOUR: 'it returns false'. Refute it at one input. -/
def viewsKeepWrong : ChangeSpec := { name := "viewsKeep", fn := fun _ => fun
  | [d1, d2, d3, d4, d5] => { results := [.lit (.bool false)], args := [d1, d2, d3, d4, d5] }
  | _ => none }
def ViewsKeepWrongFalsely : Prop := viewsKeepRow.holds Try.pinned (OpenSpec.ofChange viewsKeepWrong)

/-- 'quidnunclaw15.ViewsPlay': WHATEVER THE INPUT: true; the input reads as it did. -/
def viewsPlaySpec : ChangeSpec := { name := "viewsPlay", fn := fun _ => fun
  | [d1, d2, d3, d4, d5] => { results := [.lit (.bool true)], args := [d1, d2, d3, d4, d5] }
  | _ => none }
def viewsPlayRow : OpenClaim := { program := "ytnibgchgcggfbac", sum := "1110b6df8fbbba49da36ff2c2ca1f650711b744cd45796d1d5ca8e60c614a9d2", func := "quidnunc/quidnunclaw15.ViewsPlay", spec := "viewsPlay", inPlace := ["slices.overlaps[int]"], unfollowed := true, recurses := true, apart := false }
def ViewsPlaySaid : Prop := viewsPlayRow.holds Try.pinned (OpenSpec.ofChange viewsPlaySpec)

/-- ITS FALSE NEIGHBOUR: 'it returns false'. Refute it at one input. -/
def viewsPlayWrong : ChangeSpec := { name := "viewsPlay", fn := fun _ => fun
  | [d1, d2, d3, d4, d5] => { results := [.lit (.bool false)], args := [d1, d2, d3, d4, d5] }
  | _ => none }
def ViewsPlayWrongFalsely : Prop := viewsPlayRow.holds Try.pinned (OpenSpec.ofChange viewsPlayWrong)

/- THE SECOND FORM. 'bulk': how many values and letters a reading holds, each counted each time it is reached (what is shared counts as often as it is met; a slice's spare places count too). A statement '..UptoSaid' is the law's where the arguments, and the package variables that the reading takes, are together of bulk at most 1048576: NARROWER than '..Said'. Prove '..Said' where nothing that the law and all that it calls make is longer than what came in: it says more and counts as full. Else prove '..UptoSaid'. A law counts once. -/
mutual
def uptoBulk {H : Type} : DataW H → Nat
  | .lit (.string bytes) => bytes.length + 1
  | .lit _ => 1
  | .nil => 1
  | .ptr d => uptoBulk d + 1
  | .slice elems spare => uptoBulkAll elems + uptoBulkAll spare + 1
  | .agg parts => uptoBulkAll parts + 1
  | .iface _ d => uptoBulk d + 1
  | .map entries => uptoBulkEntries entries + 1
  | .held _ => 1
def uptoBulkAll {H : Type} : List (DataW H) → Nat
  | [] => 0
  | d :: r => uptoBulk d + uptoBulkAll r
def uptoBulkEntries {H : Type} : List (Lit × DataW H) → Nat
  | [] => 0
  | x :: r => uptoBulkEntry x + uptoBulkEntries r
def uptoBulkEntry {H : Type} : Lit × DataW H → Nat
  | (.string bytes, d) => bytes.length + uptoBulk d + 1
  | (_, d) => uptoBulk d + 1
 end
def uptoSmall : (H : Type) → List (DataW H) → Bool := fun _ ds => decide (uptoBulkAll ds ≤ 1048576)
def OpenSpec.upto (s : _root_.Go.ChangeSpec) : _root_.Go.OpenSpec := { _root_.Go.OpenSpec.ofChange s with cond := some uptoSmall }

/-- 'quidnunclaw15.ViewsMove', WHERE WHAT IT READS IS OF BULK AT MOST 1048576: true; the input reads as it did. -/
def viewsMoveUptoRow : OpenClaim := { program := "ytnibgchgcggfbac", sum := "1110b6df8fbbba49da36ff2c2ca1f650711b744cd45796d1d5ca8e60c614a9d2", func := "quidnunc/quidnunclaw15.ViewsMove", spec := "viewsMove", inPlace := ["slices.overlaps[int]"], apart := false, narrowed := true }
def ViewsMoveUptoSaid : Prop := viewsMoveUptoRow.holds Try.pinned (OpenSpec.upto viewsMoveSpec)

/-- 'quidnunclaw15.ViewsKeep', WHERE WHAT IT READS IS OF BULK AT MOST 1048576: true; the input reads as it did. -/
def viewsKeepUptoRow : OpenClaim := { program := "ytnibgchgcggfbac", sum := "1110b6df8fbbba49da36ff2c2ca1f650711b744cd45796d1d5ca8e60c614a9d2", func := "quidnunc/quidnunclaw15.ViewsKeep", spec := "viewsKeep", inPlace := ["slices.overlaps[int]"], unfollowed := true, recurses := true, apart := false, narrowed := true }
def ViewsKeepUptoSaid : Prop := viewsKeepUptoRow.holds Try.pinned (OpenSpec.upto viewsKeepSpec)

/-- 'quidnunclaw15.ViewsPlay', WHERE WHAT IT READS IS OF BULK AT MOST 1048576: true; the input reads as it did. -/
def viewsPlayUptoRow : OpenClaim := { program := "ytnibgchgcggfbac", sum := "1110b6df8fbbba49da36ff2c2ca1f650711b744cd45796d1d5ca8e60c614a9d2", func := "quidnunc/quidnunclaw15.ViewsPlay", spec := "viewsPlay", inPlace := ["slices.overlaps[int]"], unfollowed := true, recurses := true, apart := false, narrowed := true }
def ViewsPlayUptoSaid : Prop := viewsPlayUptoRow.holds Try.pinned (OpenSpec.upto viewsPlaySpec)

end Rows
end Go.Proofs.Ytnibgchgcggfbac
