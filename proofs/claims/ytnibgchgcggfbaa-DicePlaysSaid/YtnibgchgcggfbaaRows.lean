/-
  No cell of these rows narrows 'for every input' (looked for: loops, veiled, ifaces, maps, wideKeys, modest, calm, conditions, laid).
  DERIVED. THE GIVEN ROWS OF THIS SEAT. 3 by the template 'for every input the law returns true; each argument reads behind the call as it read before'; 0 by the template 'total and deterministic' (their statements: YtnibgchgcggfbaaTotals.lean).
  GIVEN WITH THE SEED: the statements are not yours to turn. If you find one false, say at which input.
  Laid BY PROGRAM, IN A SANDBOX (cutbox-rows.mjs): the forced cells as the released guide's own fill.sh prints them over the translation e6ad3c23fea7eee7… (all of the seat's roots in one cut). By AI agents, Wed Nov 11 2026. No macro, syntax, notation, axiom, sorry.
-/
import Derived.Test.YtnibgchgcggfbaaChecked
import GoSem.Claim
import GoSem.ClaimJoined
import GoSem.ClaimMapViews
import Derived.JoinedTies
import Derived.KernelRfl
namespace Go.Proofs.Ytnibgchgcggfbaa
/- THE CELL 'sum', in the pinned program and in every row, IS THE sha256 OF THE DUMP (.gsa) THAT YtnibgchgcggfbaaProg.lean LOADS. Nothing in Lean hashes anything: it is a label: what it is worth is what the hold of that sum in a sandbox is worth. -/
noncomputable def Try.pinned : Pinned := { name := "ytnibgchgcggfbaa", sum := "e6ad3c23fea7eee776ae1acd969808acbf7f06958d78f9b7aa828ec6079bce83", checked := Try.checked }
namespace Rows
def none {H : Type} : Left H := { results := [], args := [] }

/-- 'quidnunclaw14.DiceFeed': WHATEVER THE INPUT: true; the input reads as it did. -/
def diceFeedSpec : ChangeSpec := { name := "diceFeed", fn := fun _ => fun
  | [d1, d2, d3] => { results := [.lit (.bool true)], args := [d1, d2, d3] }
  | _ => none }
def diceFeedRow : OpenClaim := { program := "ytnibgchgcggfbaa", sum := "e6ad3c23fea7eee776ae1acd969808acbf7f06958d78f9b7aa828ec6079bce83", func := "quidnunc/quidnunclaw14.DiceFeed", spec := "diceFeed", apart := false }
def DiceFeedSaid : Prop := diceFeedRow.holds Try.pinned (OpenSpec.ofChange diceFeedSpec)

/-- ITS FALSE NEIGHBOUR: 'it returns false'. Refute it at one input. -/
def diceFeedWrong : ChangeSpec := { name := "diceFeed", fn := fun _ => fun
  | [d1, d2, d3] => { results := [.lit (.bool false)], args := [d1, d2, d3] }
  | _ => none }
def DiceFeedWrongFalsely : Prop := diceFeedRow.holds Try.pinned (OpenSpec.ofChange diceFeedWrong)

/-- 'quidnunclaw14.DiceAmong': WHATEVER THE INPUT: true; the input reads as it did. -/
def diceAmongSpec : ChangeSpec := { name := "diceAmong", fn := fun _ => fun
  | [d1, d2, d3] => { results := [.lit (.bool true)], args := [d1, d2, d3] }
  | _ => none }
def diceAmongRow : OpenClaim := { program := "ytnibgchgcggfbaa", sum := "e6ad3c23fea7eee776ae1acd969808acbf7f06958d78f9b7aa828ec6079bce83", func := "quidnunc/quidnunclaw14.DiceAmong", spec := "diceAmong", apart := false }
def DiceAmongSaid : Prop := diceAmongRow.holds Try.pinned (OpenSpec.ofChange diceAmongSpec)

/-- ITS FALSE NEIGHBOUR: 'it returns false'. Refute it at one input. -/
def diceAmongWrong : ChangeSpec := { name := "diceAmong", fn := fun _ => fun
  | [d1, d2, d3] => { results := [.lit (.bool false)], args := [d1, d2, d3] }
  | _ => none }
def DiceAmongWrongFalsely : Prop := diceAmongRow.holds Try.pinned (OpenSpec.ofChange diceAmongWrong)

/-- 'quidnunclaw14.DicePlays': WHATEVER THE INPUT: true; the input reads as it did. -/
def dicePlaysSpec : ChangeSpec := { name := "dicePlays", fn := fun _ => fun
  | [d1, d2] => { results := [.lit (.bool true)], args := [d1, d2] }
  | _ => none }
def dicePlaysRow : OpenClaim := { program := "ytnibgchgcggfbaa", sum := "e6ad3c23fea7eee776ae1acd969808acbf7f06958d78f9b7aa828ec6079bce83", func := "quidnunc/quidnunclaw14.DicePlays", spec := "dicePlays", apart := false }
def DicePlaysSaid : Prop := dicePlaysRow.holds Try.pinned (OpenSpec.ofChange dicePlaysSpec)

/-- ITS FALSE NEIGHBOUR: 'it returns false'. Refute it at one input. -/
def dicePlaysWrong : ChangeSpec := { name := "dicePlays", fn := fun _ => fun
  | [d1, d2] => { results := [.lit (.bool false)], args := [d1, d2] }
  | _ => none }
def DicePlaysWrongFalsely : Prop := dicePlaysRow.holds Try.pinned (OpenSpec.ofChange dicePlaysWrong)

/- THE SECOND FORM. 'bulk': how many values and letters a reading holds, each counted each time it is reached (what is shared counts as often as it is met; a slice's spare places count too). A statement '..UptoSaid' is the law's where the arguments, and the package variables that the reading takes, are together of bulk at most 1048576: NARROWER than '..Said'. Prove '..Said' where nothing that the law and all that it calls make is longer than what came in: it says more and counts as full. Else prove '..UptoSaid'. A law counts once. -/
mutual
def uptoBulk {H : Type} : DataW H → Nat
  | .lit (.string bytes) => bytes.length + 1
  | .lit _ => 1
  | .nil => 1
  | .ptr d => uptoBulk d + 1
  | .slice elems spare => uptoBulkAll elems + uptoBulkAll spare + 1
  | .agg parts => uptoBulkAll parts + 1
  | .iface _ d => uptoBulk d + 1
  | .map entries => uptoBulkEntries entries + 1
  | .held _ => 1
def uptoBulkAll {H : Type} : List (DataW H) → Nat
  | [] => 0
  | d :: r => uptoBulk d + uptoBulkAll r
def uptoBulkEntries {H : Type} : List (Lit × DataW H) → Nat
  | [] => 0
  | x :: r => uptoBulkEntry x + uptoBulkEntries r
def uptoBulkEntry {H : Type} : Lit × DataW H → Nat
  | (.string bytes, d) => bytes.length + uptoBulk d + 1
  | (_, d) => uptoBulk d + 1
 end
def uptoSmall : (H : Type) → List (DataW H) → Bool := fun _ ds => decide (uptoBulkAll ds ≤ 1048576)
def OpenSpec.upto (s : _root_.Go.ChangeSpec) : _root_.Go.OpenSpec := { _root_.Go.OpenSpec.ofChange s with cond := some uptoSmall }

/-- 'quidnunclaw14.DiceFeed', WHERE WHAT IT READS IS OF BULK AT MOST 1048576: true; the input reads as it did. -/
def diceFeedUptoRow : OpenClaim := { program := "ytnibgchgcggfbaa", sum := "e6ad3c23fea7eee776ae1acd969808acbf7f06958d78f9b7aa828ec6079bce83", func := "quidnunc/quidnunclaw14.DiceFeed", spec := "diceFeed", apart := false, narrowed := true }
def DiceFeedUptoSaid : Prop := diceFeedUptoRow.holds Try.pinned (OpenSpec.upto diceFeedSpec)

/-- 'quidnunclaw14.DiceAmong', WHERE WHAT IT READS IS OF BULK AT MOST 1048576: true; the input reads as it did. -/
def diceAmongUptoRow : OpenClaim := { program := "ytnibgchgcggfbaa", sum := "e6ad3c23fea7eee776ae1acd969808acbf7f06958d78f9b7aa828ec6079bce83", func := "quidnunc/quidnunclaw14.DiceAmong", spec := "diceAmong", apart := false, narrowed := true }
def DiceAmongUptoSaid : Prop := diceAmongUptoRow.holds Try.pinned (OpenSpec.upto diceAmongSpec)

/-- 'quidnunclaw14.DicePlays', WHERE WHAT IT READS IS OF BULK AT MOST 1048576: true; the input reads as it did. -/
def dicePlaysUptoRow : OpenClaim := { program := "ytnibgchgcggfbaa", sum := "e6ad3c23fea7eee776ae1acd969808acbf7f06958d78f9b7aa828ec6079bce83", func := "quidnunc/quidnunclaw14.DicePlays", spec := "dicePlays", apart := false, narrowed := true }
def DicePlaysUptoSaid : Prop := dicePlaysUptoRow.holds Try.pinned (OpenSpec.upto dicePlaysSpec)

end Rows
end Go.Proofs.Ytnibgchgcggfbaa
