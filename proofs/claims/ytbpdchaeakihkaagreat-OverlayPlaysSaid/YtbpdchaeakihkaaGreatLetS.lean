/- Letters of the document's: their type. -/
import Derived.Test.YtbpdchaeakihkaaGreatNews
namespace Go.Proofs.YtbpdchaeakihkaaGreat
open Go.RowKit Go.Qd

theorem aggLT : AggT Tryz.prog 89 13 := ⟨⟨_, Tryz.underlying89, rfl⟩, by kernel_rfl⟩
theorem zeroLT (w : World) : (zeroValue 89).run Tryz.prog w = .ok (.agg (LetV.cells ⟨0, kindM 0⟩).toArray) w := by kernel_rfl
theorem Tryz.elem86 : ElemT Tryz.prog 86 89 13 160 := ElemT.mk' Tryz.underlying86 (by kernel_rfl : (Tryz.prog.info? 89).map (fun i => (i.zero, i.size, i.bytes)) = some (some (.agg #[.int .i64 0, .int .i64 0, .int .i64 0, .int .i64 0, .bool false, .slice none 0 0, .int .i64 0, .int .u64 0, .int .i64 0, .int .i64 0, .string ByteArray.empty, .slice none 0 0, .slice none 0 0]), 13, 160)) rfl (by decide) (by simp [Value.cells, Value.oneCell'])
theorem execOp_buildLT (ρ : Operand → Value) (dst : Option Tmp) (a c : Operand) (ty : TypeId) (pos : String) (after : Array Edge) (guard : Option (Nat × Bool)) :
    execOp ρ { dst, op := .build 89 #[(0, a), (1, c)], type := ty, pos, after, guard } = (do pure (.value (← buildG 89 (ρ a) (ρ c)))) := by simp [execOp, buildG]
theorem execOp_bsLT (ρ : Operand → Value) (dst : Option Tmp) (a : Operand) (ty : TypeId) (pos : String) (after : Array Edge) (guard : Option (Nat × Bool)) :
    execOp ρ { dst, op := .buildSlice 86 1 #[(0, a)], type := ty, pos, after, guard } = (do pure (.value (← bsG 86 (ρ a)))) := by simp [execOp, bsG]
theorem run_buildLT (to : Int) (m : MsgV) (w : World) : (buildG 89 (.int .i64 to) (.agg m.cells.toArray)).run Tryz.prog w = .ok (.agg (LetV.cells ⟨to, m⟩).toArray) w := by kernel_rfl
theorem run_bsLT (x : LetV) (w : World) : (bsG 86 (.agg x.cells.toArray)).run Tryz.prog w = .ok (.slice (some ⟨w.heap.size, 0, none⟩) 1 1) (w.alloc (.cells x.cells.toArray 89)) := by kernel_rfl
theorem aggRM2 : AggT Tryz.prog 75 12 := ⟨⟨_, Tryz.underlying75, rfl⟩, by kernel_rfl⟩
end Go.Proofs.YtbpdchaeakihkaaGreat
