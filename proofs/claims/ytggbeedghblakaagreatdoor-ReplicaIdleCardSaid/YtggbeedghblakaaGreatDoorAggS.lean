/- Structs by value in a region that draws: alloc as an arm of go_region_law. -/
import Derived.Test.YtggbeedghblakaaGreatDoorLib
namespace Go.Qd
open Go.RowKit
section
variable {P : Program} {W w : World} {R : List HP} {t : TypeId} {n b o : Nat} {vs us : List Value}
variable {ops : Array Oper} {q : Oper} {A : Act} {Q : Exit → Act → World → Prop} {KK : Act → World → Prop} {EE : Prop}

/-- A fresh variable, for the slot d. -/
theorem step_allocA (d : Nat) (hgd : q.guard = none) (_hd : q.dst = some d) (hop : q.op = Op.alloc t) (hz : ∀ w, (zeroValue t).run P w = .ok (.agg vs.toArray) w) (s : St W w R)
    (hK : ∀ b' w', St W w' (row b' 0 vs :: R) → KK (A.put q.dst (.pointer (some ⟨b', 0, none⟩))) w') : if Region.wanted q (yielded ops A.tmps) = true then Oper.wp P q A w KK Q else EE := by
  have hw : Region.wanted q (yielded ops A.tmps) = true := by simp [Region.wanted, hgd]
  rw [if_pos hw]
  unfold Oper.wp
  have := s.alloc vs.toArray t
  simp [execOp, hop, Instr.alloc, newVar, newRow, Value.cells, Result.andThen, hz]
  exact hK _ _ (by simpa using this)
end
/-- An operation that simp shall not run: an arm does. -/
def heldOp (ρ : Operand → Value) (o : Oper) : Sem Next := execOp ρ o
theorem execOp_heldAlloc (t : TypeId) (ρ : Operand → Value) (dst : Option Tmp) (ty : TypeId) (pos : String) (after : Array Edge) (guard : Option (Nat × Bool)) :
    execOp ρ { dst, op := .alloc t, type := ty, pos, after, guard } = heldOp ρ { dst, op := .alloc t, type := ty, pos, after, guard } := rfl
theorem execOp_heldStore (t : TypeId) (ρ : Operand → Value) (dst : Option Tmp) (a x : Operand) (ty : TypeId) (pos : String) (after : Array Edge) (guard : Option (Nat × Bool)) :
    execOp ρ { dst, op := .store t a x, type := ty, pos, after, guard } = heldOp ρ { dst, op := .store t a x, type := ty, pos, after, guard } := rfl
end Go.Qd
