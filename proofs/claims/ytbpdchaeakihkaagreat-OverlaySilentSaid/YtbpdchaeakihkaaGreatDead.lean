/- A region walked once in a class of worlds: what a false '&&' skips, by evaluation. -/
import Derived.Test.YtbpdchaeakihkaaGreatClass
namespace Go.Qd
open Go.RowKit

section
variable {P : Program} {ops : Array Oper} {C : World → Prop} {Q : Act → Prop} {a : Act} {o : Oper} {rest : List Oper}

/-- An operation that is not wanted. -/
theorem wpQuiet_skip (h : Region.wanted o (yielded ops a.tmps) = false) (hK : wpQuiet P ops C Q rest (a.put o.dst undef)) : wpQuiet P ops C Q (o :: rest) a := by
  unfold wpQuiet
  rw [if_neg (by rw [h]; decide)]
  exact hK

def boolOf : Value → Option Bool
  | .bool b => some b
  | _ => none
theorem boolOf_eq {v : Value} {b : Bool} (h : boolOf v = some b) : v = .bool b := by
  cases v <;> first | cases h; rfl | cases h
/-- The operand that a move or a choice takes, as far as no memory is looked at. -/
def bareOp (o : Oper) (a : Act) : Option Operand :=
  match o.op with
  | .move x => some x
  | .pick c x y => (boolOf (a.eval c)).map fun b => if b = true then x else y
  | _ => none
/-- Does a wanted operation yield this truth value, without a look at memory? -/
def bareV (ops : Array Oper) (o : Oper) (a : Act) (b : Bool) : Bool :=
  Region.wanted o (yielded ops a.tmps) && ((bareOp o a).bind (fun x => boolOf (a.eval x)) == some b)

theorem bareOp_run {x : Operand} (h : bareOp o a = some x) (w : World) : (execOp a.eval o).run P w = .ok (.value (a.eval x)) w := by
  unfold bareOp at h
  split at h
  · rename_i y hop
    cases h
    simp [execOp, hop]
  · rename_i c x y hop
    rw [Option.map_eq_some_iff] at h
    obtain ⟨b, hb, rfl⟩ := h
    have hc := boolOf_eq hb
    cases b <;> simp [execOp, hop, hc, asBool]
  · cases h

theorem wpQuiet_bare (b : Bool) (h : bareV ops o a b = true) (hK : wpQuiet P ops C Q rest (a.put o.dst (.bool b))) : wpQuiet P ops C Q (o :: rest) a := by
  unfold bareV at h
  rw [Bool.and_eq_true] at h
  obtain ⟨h1, h2⟩ := h
  have h2 := beq_iff_eq.1 h2
  rw [Option.bind_eq_some_iff] at h2
  obtain ⟨x, hx, hv⟩ := h2
  unfold wpQuiet
  rw [if_pos h1]
  refine ⟨.bool b, fun w hw => ?_, hK⟩
  unfold Oper.quietAt
  rw [bareOp_run hx, boolOf_eq hv]
  exact ⟨rfl, rfl⟩

/-- .. of one without a guard. -/
theorem wpQuiet_bareG (b : Bool) (_hg : o.guard = none) (h : bareV ops o a b = true) (hK : wpQuiet P ops C Q rest (a.put o.dst (.bool b))) : wpQuiet P ops C Q (o :: rest) a := wpQuiet_bare b h hK

end

end Go.Qd
