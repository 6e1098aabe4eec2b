/- The overlay's laws: letters, acts and configurations in memory. -/
import Derived.Test.YtbpdchaeakihkaaGreatPaths
namespace Go.Proofs.YtbpdchaeakihkaaGreat
open Go.RowKit Go.Qd

theorem agg60 : AggT Tryz.prog 60 13 := ⟨⟨_, Tryz.underlying60, rfl⟩, by kernel_rfl⟩
theorem zero60 (w : World) : (zeroValue 60).run Tryz.prog w = .ok (.agg (LetV.cells ⟨0, kindM 0⟩).toArray) w := by kernel_rfl
theorem letC_at {L : List LetV} {k : Nat} (h : k < L.length) : (letC L).drop (k * 13) = (L[k]).cells ++ letC (L.drop (k + 1)) := by
  induction L generalizing k with
  | nil => cases h
  | cons x L ih =>
    cases k with
    | zero => rw [Nat.zero_mul]; rfl
    | succ k =>
      have h' : k < L.length := by simpa using h
      have e : letC (x :: L) = x.cells ++ letC L := rfl
      have hx : x.cells.length = 13 := rfl
      rw [e, show (k + 1) * 13 = x.cells.length + k * 13 from by rw [hx]; omega, ← List.drop_drop, List.drop_left, ih h']
      rfl

theorem zero_set {l : List Int} {j i : Nat} (h : j = i ∨ l.getD j 0 = 0) : (l.set i 0).getD j 0 = 0 := by
  rw [getD_set]
  split
  · rfl
  · rename_i g
    rcases h with h | h
    · subst h
      have : ¬ j < l.length := fun h => g ⟨rfl, h⟩
      rw [List.getD_eq_getElem?_getD, List.getElem?_eq_none (by omega)]; rfl
    · exact h
theorem cnt_snoc {k : Int} {L : List LetV} {i : Nat} (h : i < L.length) : cntL k (L.take (i + 1)) = cntL k (L.take i) + (if L[i].m.kind = k then 1 else 0) := by
  rw [List.take_succ_eq_append_getElem h, cnt_append]
  congr 1
  unfold cntL
  rw [List.countP_cons, List.countP_nil]
  by_cases g : L[i].m.kind = k
  · rw [if_pos g, if_pos (by simp [g])]
  · rw [if_neg g, if_neg (by simp [g])]

section
variable {W w : World} {post : Ending → World → Prop}
theorem execOp_load23 (ρ : Operand → Value) (dst : Option Tmp) (a : Operand) (ty : TypeId) (pos : String) (after : Array Edge) (guard : Option (Nat × Bool)) :
    execOp ρ { dst, op := .load 23 a, type := ty, pos, after, guard } = (do pure (.value (← loadG 23 (ρ a)))) := rfl
theorem execOp_load60 (ρ : Operand → Value) (dst : Option Tmp) (a : Operand) (ty : TypeId) (pos : String) (after : Array Edge) (guard : Option (Nat × Bool)) :
    execOp ρ { dst, op := .load 60 a, type := ty, pos, after, guard } = (do pure (.value (← loadG 60 (ρ a)))) := rfl
attribute [local go_sem ↓] execOp_load23 execOp_load60
theorem ldC {T : Nat} {c : List Int} {R : List HP} (hc : c.length = 20) (s : St W w (row T 0 (ivs c) :: R)) : (loadG 23 (.pointer (some ⟨T, 0, none⟩))).run Tryz.prog w = .ok (.agg (ivs c).toArray) w :=
  run_loadG agg23 (ivs_len20 hc) s.rowAll

theorem execOp_load77 (ρ : Operand → Value) (dst : Option Tmp) (a : Operand) (ty : TypeId) (pos : String) (after : Array Edge) (guard : Option (Nat × Bool)) :
    execOp ρ { dst, op := .load 77 a, type := ty, pos, after, guard } = (do pure (.value (← loadG 77 (ρ a)))) := rfl
theorem oact_c {P : Nat} {q : OAct} {R : List HP} (s : St W w (row P 0 q.cells :: R)) : w.cell? ⟨P, 0, none⟩ = some (.int .i64 q.kind) ∧ w.cell? ⟨P, 1, none⟩ = some (.int .i64 q.peer) := by
  have c0 := s.rowCell (i := 0) (v := .int .i64 q.kind) rfl
  have c1 := s.rowCell (i := 1) (v := .int .i64 q.peer) rfl
  rw [Nat.zero_add] at c1
  exact ⟨c0, c1⟩

end

end Go.Proofs.YtbpdchaeakihkaaGreat
