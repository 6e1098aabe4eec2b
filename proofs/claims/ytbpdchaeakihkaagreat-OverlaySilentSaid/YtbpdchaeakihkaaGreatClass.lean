/- A region that draws its order, walked once in the text's order, in a class of worlds: the callees may write, as long as the class holds. -/
import Derived.Test.YtbpdchaeakihkaaGreatAgg
import Derived.Deep.QuietTactic
import Derived.BigQuiet
import Derived.ChangeKeysEq
namespace Go.Qd
open Go.RowKit

/-- A world of a class. -/
structure Cls (S : World → Prop) where
  w : World
  h : S w

theorem wp_region_class {P : Program} {id : Nat} {Q : Exit → Act → World → Prop} {a : Act} {w : World} {l : List Oper} (S : World → Prop) (hm : P.follows .mixedOrders = true) (hB : Region.lexB .any l.toArray = true) (hS : S w.drew)
    (h : wpQuiet P l.toArray (fun w' => ∃ s : Cls S, w' = s.w) (fun a' => ∀ s : Cls S, Q .normal a' s.w) l a) : (Code.region id l.toArray true).wp P Q a w := by
  refine wp_region_quiet (C := fun w' => ∃ s : Cls S, w' = s.w) hm hB ⟨⟨w.drew, hS⟩, rfl⟩ ?_
  have e : (fun a' => ∀ w', (∃ s : Cls S, w' = s.w) → Q .normal a' w') = (fun a' => ∀ s : Cls S, Q .normal a' s.w) := by
    funext a'
    exact propext ⟨fun h s => h s.w ⟨s, rfl⟩, fun h w' ⟨s, e⟩ => e ▸ h s⟩
  rw [e]
  simpa using h

theorem Cls.inh {S : World → Prop} {w : World} (h : S w) : Nonempty (Cls S) := ⟨⟨w, h⟩⟩
/-- A callee's end, in the class. -/
theorem Cls.end {S : World → Prop} {w : World} (v : Value) (h : S w) : (Ending.returned v = .returned v) ∧ ∃ s : Cls S, w = s.w := ⟨rfl, ⟨w, h⟩, rfl⟩

section
variable {P : Program} {w : World} {ops : Array Oper} {rest : List Oper} {q : Oper} {A : Act} {Q : Exit → Act → World → Prop} {v : Value}

/-- A literal whose zero value is out of simp's reach: its value by evaluation. -/
theorem wpl_build {t : TypeId} {fs : Array (Nat × Operand)} (hgd : q.guard = none) (_hop : q.op = Op.build t fs) (h : (execOp A.eval q).run P w = .ok (.value v) w) (hK : wpList P ops Q rest (A.put q.dst v) w) : wpList P ops Q (q :: rest) A w := by
  refine wpList_plain hgd fun K hK' => ?_
  unfold Oper.wp
  simp only [h]
  exact hK' _ _ hK

theorem run_index1 {t e : TypeId} {len : Nat} (hu : P.underlying t = some (.array len e)) (he : (isAgg e).run P w = .ok false w) (hs : (P.info? e).map (·.size) = some 1) {vs : List Value} {k : Nat} (hk : k < len) (hv : vs[k]? = some v) :
    (Instr.index t (.agg vs.toArray) (.int .i64 k)).run P w = .ok v w := by
  obtain ⟨i, hi, hz⟩ : ∃ i, P.info? e = some i ∧ i.size = 1 := by
    cases h : P.info? e with
    | none => rw [h] at hs; cases hs
    | some i => rw [h] at hs; exact ⟨i, rfl, by simpa using hs⟩
  have hso : (sizeOf e).run P w = .ok 1 w := by rw [run_sizeOf w hi]; simp [Program.cellsOf, hi, hz]
  simp [Instr.index, asIntOf, run_underlying hu, hso, part, he, hv]
  omega

theorem run_index2 {t e : TypeId} {len sz : Nat} (hu : P.underlying t = some (.array len e)) (T : AggT P e sz) {vs xs : List Value} {k : Nat} (hk : k < len) (hx : (vs.drop (k * sz)).take sz = xs) :
    (Instr.index t (.agg vs.toArray) (.int .i64 k)).run P w = .ok (.agg xs.toArray) w := by
  have hso := run_sizeA T w
  have hag := run_isAgg T w
  simp [Instr.index, asIntOf, run_underlying hu, hso, part, hag, hx, hk]

theorem wpl_index {t : TypeId} (hgd : q.guard = none) (x ix : Operand) (hop : q.op = Op.index t x ix) {X I : Value} (hx : A.eval x = X) (hi : A.eval ix = I) (h : (Instr.index t X I).run P w = .ok v w)
    (hK : wpList P ops Q rest (A.put q.dst v) w) : wpList P ops Q (q :: rest) A w := by
  refine wpList_plain hgd fun K hK' => ?_
  unfold Oper.wp
  simp [execOp, hop, hx, hi, h, Result.andThen]
  exact hK' _ _ hK

end

end Go.Qd
