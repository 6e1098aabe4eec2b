/-
  No cell of these rows narrows 'for every input' (looked for: loops, veiled, ifaces, maps, wideKeys, modest, calm, conditions, laid).
  DERIVED. THE GIVEN ROWS OF THIS SEAT. 7 by the template 'for every input the law returns true; each argument reads behind the call as it read before'; 0 by the template 'total and deterministic' (their statements: YtbpdchaeakihkaaGreatTotals.lean).
  GIVEN WITH THE SEED: the statements are not yours to turn. If you find one false, say at which input.
  Laid BY PROGRAM, IN A SANDBOX (cutbox-rows.mjs): the forced cells as the released guide's own fill.sh prints them over the translation b9fe35a9af3ea4a6… (all of the seat's roots in one cut). By AI agents, Wed Nov 11 2026. No macro, syntax, notation, axiom, sorry.
-/
import Derived.Test.YtbpdchaeakihkaaGreatChecked
import GoSem.Claim
import GoSem.ClaimJoined
import GoSem.ClaimMapViews
import Derived.JoinedTies
import Derived.KernelRfl
namespace Go.Proofs.YtbpdchaeakihkaaGreat
/- THE CELL 'sum', in the pinned program and in every row, IS THE sha256 OF THE DUMP (.gsa) THAT YtbpdchaeakihkaaGreatProg.lean LOADS. Nothing in Lean hashes anything: it is a label: what it is worth is what the hold of that sum in a sandbox is worth. -/
noncomputable def Tryz.pinned : Pinned := { name := "ytbpdchaeakihkaagreat", sum := "b9fe35a9af3ea4a6229d191f1344685a21e8dc2148bacebd9afbdcbc1215bef4", checked := Tryz.checked }
namespace Rows
def none {H : Type} : Left H := { results := [], args := [] }

/-- 'quidnunclaw17.OverlayBeats': WHATEVER THE INPUT: true; the input reads as it did. -/
def overlayBeatsSpec : ChangeSpec := { name := "overlayBeats", fn := fun _ => fun
  | [d1, d2, d3] => { results := [.lit (.bool true)], args := [d1, d2, d3] }
  | _ => none }
def overlayBeatsRow : OpenClaim := { program := "ytbpdchaeakihkaagreat", sum := "b9fe35a9af3ea4a6229d191f1344685a21e8dc2148bacebd9afbdcbc1215bef4", func := "quidnunc/quidnunclaw17.OverlayBeats", spec := "overlayBeats", inPlace := ["slices.overlaps[int]"], unfollowed := true, recurses := true, apart := false }
def OverlayBeatsSaid : Prop := overlayBeatsRow.holds Tryz.pinned (OpenSpec.ofChange overlayBeatsSpec)

/-- ITS FALSE NEIGHBOUR: 'it returns false'. Refute it at one input. -/
def overlayBeatsWrong : ChangeSpec := { name := "overlayBeats", fn := fun _ => fun
  | [d1, d2, d3] => { results := [.lit (.bool false)], args := [d1, d2, d3] }
  | _ => none }
def OverlayBeatsWrongFalsely : Prop := overlayBeatsRow.holds Tryz.pinned (OpenSpec.ofChange overlayBeatsWrong)

/-- 'quidnunclaw17.OverlaySilent': WHATEVER THE INPUT: true; the input reads as it did. -/
def overlaySilentSpec : ChangeSpec := { name := "overlaySilent", fn := fun _ => fun
  | [d1, d2] => { results := [.lit (.bool true)], args := [d1, d2] }
  | _ => none }
def overlaySilentRow : OpenClaim := { program := "ytbpdchaeakihkaagreat", sum := "b9fe35a9af3ea4a6229d191f1344685a21e8dc2148bacebd9afbdcbc1215bef4", func := "quidnunc/quidnunclaw17.OverlaySilent", spec := "overlaySilent", inPlace := ["slices.overlaps[int]"], unfollowed := true, recurses := true, apart := false }
def OverlaySilentSaid : Prop := overlaySilentRow.holds Tryz.pinned (OpenSpec.ofChange overlaySilentSpec)

/-- ITS FALSE NEIGHBOUR: 'it returns false'. Refute it at one input. -/
def overlaySilentWrong : ChangeSpec := { name := "overlaySilent", fn := fun _ => fun
  | [d1, d2] => { results := [.lit (.bool false)], args := [d1, d2] }
  | _ => none }
def OverlaySilentWrongFalsely : Prop := overlaySilentRow.holds Tryz.pinned (OpenSpec.ofChange overlaySilentWrong)

/-- 'quidnunclaw17.OverlayJoins': WHATEVER THE INPUT: true; the input reads as it did. -/
def overlayJoinsSpec : ChangeSpec := { name := "overlayJoins", fn := fun _ => fun
  | [d1, d2, d3, d4] => { results := [.lit (.bool true)], args := [d1, d2, d3, d4] }
  | _ => none }
def overlayJoinsRow : OpenClaim := { program := "ytbpdchaeakihkaagreat", sum := "b9fe35a9af3ea4a6229d191f1344685a21e8dc2148bacebd9afbdcbc1215bef4", func := "quidnunc/quidnunclaw17.OverlayJoins", spec := "overlayJoins", inPlace := ["slices.overlaps[int]"], unfollowed := true, recurses := true, apart := false }
def OverlayJoinsSaid : Prop := overlayJoinsRow.holds Tryz.pinned (OpenSpec.ofChange overlayJoinsSpec)

/-- ITS FALSE NEIGHBOUR: 'it returns false'. Refute it at one input. -/
def overlayJoinsWrong : ChangeSpec := { name := "overlayJoins", fn := fun _ => fun
  | [d1, d2, d3, d4] => { results := [.lit (.bool false)], args := [d1, d2, d3, d4] }
  | _ => none }
def OverlayJoinsWrongFalsely : Prop := overlayJoinsRow.holds Tryz.pinned (OpenSpec.ofChange overlayJoinsWrong)

/-- 'quidnunclaw17.OverlayRefuses': WHATEVER THE INPUT: true; the input reads as it did. -/
def overlayRefusesSpec : ChangeSpec := { name := "overlayRefuses", fn := fun _ => fun
  | [d1, d2, d3, d4] => { results := [.lit (.bool true)], args := [d1, d2, d3, d4] }
  | _ => none }
def overlayRefusesRow : OpenClaim := { program := "ytbpdchaeakihkaagreat", sum := "b9fe35a9af3ea4a6229d191f1344685a21e8dc2148bacebd9afbdcbc1215bef4", func := "quidnunc/quidnunclaw17.OverlayRefuses", spec := "overlayRefuses", inPlace := ["slices.overlaps[int]"], unfollowed := true, recurses := true, apart := false }
def OverlayRefusesSaid : Prop := overlayRefusesRow.holds Tryz.pinned (OpenSpec.ofChange overlayRefusesSpec)

/-- ITS FALSE NEIGHBOUR: 'it returns false'. Refute it at one input. -/
def overlayRefusesWrong : ChangeSpec := { name := "overlayRefuses", fn := fun _ => fun
  | [d1, d2, d3, d4] => { results := [.lit (.bool false)], args := [d1, d2, d3, d4] }
  | _ => none }
def OverlayRefusesWrongFalsely : Prop := overlayRefusesRow.holds Tryz.pinned (OpenSpec.ofChange overlayRefusesWrong)

/-- 'quidnunclaw17.OverlayTells': WHATEVER THE INPUT: true; the input reads as it did. -/
def overlayTellsSpec : ChangeSpec := { name := "overlayTells", fn := fun _ => fun
  | [d1, d2, d3, d4] => { results := [.lit (.bool true)], args := [d1, d2, d3, d4] }
  | _ => none }
def overlayTellsRow : OpenClaim := { program := "ytbpdchaeakihkaagreat", sum := "b9fe35a9af3ea4a6229d191f1344685a21e8dc2148bacebd9afbdcbc1215bef4", func := "quidnunc/quidnunclaw17.OverlayTells", spec := "overlayTells", inPlace := ["slices.overlaps[int]"], unfollowed := true, recurses := true, apart := false }
def OverlayTellsSaid : Prop := overlayTellsRow.holds Tryz.pinned (OpenSpec.ofChange overlayTellsSpec)

/-- ITS FALSE NEIGHBOUR: 'it returns false'. Refute it at one input. -/
def overlayTellsWrong : ChangeSpec := { name := "overlayTells", fn := fun _ => fun
  | [d1, d2, d3, d4] => { results := [.lit (.bool false)], args := [d1, d2, d3, d4] }
  | _ => none }
def OverlayTellsWrongFalsely : Prop := overlayTellsRow.holds Tryz.pinned (OpenSpec.ofChange overlayTellsWrong)

/-- 'quidnunclaw17.OverlayKeeps': WHATEVER THE INPUT: true; the input reads as it did. -/
def overlayKeepsSpec : ChangeSpec := { name := "overlayKeeps", fn := fun _ => fun
  | [d1, d2, d3, d4] => { results := [.lit (.bool true)], args := [d1, d2, d3, d4] }
  | _ => none }
def overlayKeepsRow : OpenClaim := { program := "ytbpdchaeakihkaagreat", sum := "b9fe35a9af3ea4a6229d191f1344685a21e8dc2148bacebd9afbdcbc1215bef4", func := "quidnunc/quidnunclaw17.OverlayKeeps", spec := "overlayKeeps", inPlace := ["slices.overlaps[int]"], unfollowed := true, recurses := true, apart := false }
def OverlayKeepsSaid : Prop := overlayKeepsRow.holds Tryz.pinned (OpenSpec.ofChange overlayKeepsSpec)

/-- ITS FALSE NEIGHBOUR: 'it returns false'. Refute it at one input. -/
def overlayKeepsWrong : ChangeSpec := { name := "overlayKeeps", fn := fun _ => fun
  | [d1, d2, d3, d4] => { results := [.lit (.bool false)], args := [d1, d2, d3, d4] }
  | _ => none }
def OverlayKeepsWrongFalsely : Prop := overlayKeepsRow.holds Tryz.pinned (OpenSpec.ofChange overlayKeepsWrong)

/-- 'quidnunclaw17.OverlayPlays': WHATEVER THE INPUT: true; the input reads as it did. -/
def overlayPlaysSpec : ChangeSpec := { name := "overlayPlays", fn := fun _ => fun
  | [d1, d2, d3, d4] => { results := [.lit (.bool true)], args := [d1, d2, d3, d4] }
  | _ => none }
def overlayPlaysRow : OpenClaim := { program := "ytbpdchaeakihkaagreat", sum := "b9fe35a9af3ea4a6229d191f1344685a21e8dc2148bacebd9afbdcbc1215bef4", func := "quidnunc/quidnunclaw17.OverlayPlays", spec := "overlayPlays", inPlace := ["slices.overlaps[int]"], unfollowed := true, recurses := true, apart := false }
def OverlayPlaysSaid : Prop := overlayPlaysRow.holds Tryz.pinned (OpenSpec.ofChange overlayPlaysSpec)

/-- ITS FALSE NEIGHBOUR: 'it returns false'. Refute it at one input. -/
def overlayPlaysWrong : ChangeSpec := { name := "overlayPlays", fn := fun _ => fun
  | [d1, d2, d3, d4] => { results := [.lit (.bool false)], args := [d1, d2, d3, d4] }
  | _ => none }
def OverlayPlaysWrongFalsely : Prop := overlayPlaysRow.holds Tryz.pinned (OpenSpec.ofChange overlayPlaysWrong)

/- THE SECOND FORM. 'bulk': how many values and letters a reading holds, each counted each time it is reached (what is shared counts as often as it is met; a slice's spare places count too). A statement '..UptoSaid' is the law's where the arguments, and the package variables that the reading takes, are together of bulk at most 1048576: NARROWER than '..Said'. Prove '..Said' where nothing that the law and all that it calls make is longer than what came in: it says more and counts as full. Else prove '..UptoSaid'. A law counts once. -/
mutual
def uptoBulk {H : Type} : DataW H → Nat
  | .lit (.string bytes) => bytes.length + 1
  | .lit _ => 1
  | .nil => 1
  | .ptr d => uptoBulk d + 1
  | .slice elems spare => uptoBulkAll elems + uptoBulkAll spare + 1
  | .agg parts => uptoBulkAll parts + 1
  | .iface _ d => uptoBulk d + 1
  | .map entries => uptoBulkEntries entries + 1
  | .held _ => 1
def uptoBulkAll {H : Type} : List (DataW H) → Nat
  | [] => 0
  | d :: r => uptoBulk d + uptoBulkAll r
def uptoBulkEntries {H : Type} : List (Lit × DataW H) → Nat
  | [] => 0
  | x :: r => uptoBulkEntry x + uptoBulkEntries r
def uptoBulkEntry {H : Type} : Lit × DataW H → Nat
  | (.string bytes, d) => bytes.length + uptoBulk d + 1
  | (_, d) => uptoBulk d + 1
 end
def uptoSmall : (H : Type) → List (DataW H) → Bool := fun _ ds => decide (uptoBulkAll ds ≤ 1048576)
def OpenSpec.upto (s : _root_.Go.ChangeSpec) : _root_.Go.OpenSpec := { _root_.Go.OpenSpec.ofChange s with cond := some uptoSmall }

/-- 'quidnunclaw17.OverlayBeats', WHERE WHAT IT READS IS OF BULK AT MOST 1048576: true; the input reads as it did. -/
def overlayBeatsUptoRow : OpenClaim := { program := "ytbpdchaeakihkaagreat", sum := "b9fe35a9af3ea4a6229d191f1344685a21e8dc2148bacebd9afbdcbc1215bef4", func := "quidnunc/quidnunclaw17.OverlayBeats", spec := "overlayBeats", inPlace := ["slices.overlaps[int]"], unfollowed := true, recurses := true, apart := false, narrowed := true }
def OverlayBeatsUptoSaid : Prop := overlayBeatsUptoRow.holds Tryz.pinned (OpenSpec.upto overlayBeatsSpec)

/-- 'quidnunclaw17.OverlaySilent', WHERE WHAT IT READS IS OF BULK AT MOST 1048576: true; the input reads as it did. -/
def overlaySilentUptoRow : OpenClaim := { program := "ytbpdchaeakihkaagreat", sum := "b9fe35a9af3ea4a6229d191f1344685a21e8dc2148bacebd9afbdcbc1215bef4", func := "quidnunc/quidnunclaw17.OverlaySilent", spec := "overlaySilent", inPlace := ["slices.overlaps[int]"], unfollowed := true, recurses := true, apart := false, narrowed := true }
def OverlaySilentUptoSaid : Prop := overlaySilentUptoRow.holds Tryz.pinned (OpenSpec.upto overlaySilentSpec)

/-- 'quidnunclaw17.OverlayJoins', WHERE WHAT IT READS IS OF BULK AT MOST 1048576: true; the input reads as it did. -/
def overlayJoinsUptoRow : OpenClaim := { program := "ytbpdchaeakihkaagreat", sum := "b9fe35a9af3ea4a6229d191f1344685a21e8dc2148bacebd9afbdcbc1215bef4", func := "quidnunc/quidnunclaw17.OverlayJoins", spec := "overlayJoins", inPlace := ["slices.overlaps[int]"], unfollowed := true, recurses := true, apart := false, narrowed := true }
def OverlayJoinsUptoSaid : Prop := overlayJoinsUptoRow.holds Tryz.pinned (OpenSpec.upto overlayJoinsSpec)

/-- 'quidnunclaw17.OverlayRefuses', WHERE WHAT IT READS IS OF BULK AT MOST 1048576: true; the input reads as it did. -/
def overlayRefusesUptoRow : OpenClaim := { program := "ytbpdchaeakihkaagreat", sum := "b9fe35a9af3ea4a6229d191f1344685a21e8dc2148bacebd9afbdcbc1215bef4", func := "quidnunc/quidnunclaw17.OverlayRefuses", spec := "overlayRefuses", inPlace := ["slices.overlaps[int]"], unfollowed := true, recurses := true, apart := false, narrowed := true }
def OverlayRefusesUptoSaid : Prop := overlayRefusesUptoRow.holds Tryz.pinned (OpenSpec.upto overlayRefusesSpec)

/-- 'quidnunclaw17.OverlayTells', WHERE WHAT IT READS IS OF BULK AT MOST 1048576: true; the input reads as it did. -/
def overlayTellsUptoRow : OpenClaim := { program := "ytbpdchaeakihkaagreat", sum := "b9fe35a9af3ea4a6229d191f1344685a21e8dc2148bacebd9afbdcbc1215bef4", func := "quidnunc/quidnunclaw17.OverlayTells", spec := "overlayTells", inPlace := ["slices.overlaps[int]"], unfollowed := true, recurses := true, apart := false, narrowed := true }
def OverlayTellsUptoSaid : Prop := overlayTellsUptoRow.holds Tryz.pinned (OpenSpec.upto overlayTellsSpec)

/-- 'quidnunclaw17.OverlayKeeps', WHERE WHAT IT READS IS OF BULK AT MOST 1048576: true; the input reads as it did. -/
def overlayKeepsUptoRow : OpenClaim := { program := "ytbpdchaeakihkaagreat", sum := "b9fe35a9af3ea4a6229d191f1344685a21e8dc2148bacebd9afbdcbc1215bef4", func := "quidnunc/quidnunclaw17.OverlayKeeps", spec := "overlayKeeps", inPlace := ["slices.overlaps[int]"], unfollowed := true, recurses := true, apart := false, narrowed := true }
def OverlayKeepsUptoSaid : Prop := overlayKeepsUptoRow.holds Tryz.pinned (OpenSpec.upto overlayKeepsSpec)

/-- 'quidnunclaw17.OverlayPlays', WHERE WHAT IT READS IS OF BULK AT MOST 1048576: true; the input reads as it did. -/
def overlayPlaysUptoRow : OpenClaim := { program := "ytbpdchaeakihkaagreat", sum := "b9fe35a9af3ea4a6229d191f1344685a21e8dc2148bacebd9afbdcbc1215bef4", func := "quidnunc/quidnunclaw17.OverlayPlays", spec := "overlayPlays", inPlace := ["slices.overlaps[int]"], unfollowed := true, recurses := true, apart := false, narrowed := true }
def OverlayPlaysUptoSaid : Prop := overlayPlaysUptoRow.holds Tryz.pinned (OpenSpec.upto overlayPlaysSpec)

end Rows
end Go.Proofs.YtbpdchaeakihkaaGreat
