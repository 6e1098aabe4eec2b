/- Laws for an operation whose guard says yes. -/
import Derived.Test.YtbpdchaeakihkaaGreatAgg
import Derived.BigFrame
namespace Go.Qd
open Go.RowKit

section
variable {P : Program} {W w : World} {R : List HP} {t : TypeId} {n b o : Nat} {vs us : List Value}
variable {ops : Array Oper} {rest : List Oper} {q : Oper} {A : Act} {Q : Exit → Act → World → Prop}

theorem wpl_loadAG (hw : Region.wanted q (yielded ops A.tmps) = true) (x : Operand) (hop : q.op = Op.load t x) (T : AggT P t n) (hx : A.eval x = .pointer (some ⟨b, o, none⟩)) (hl : vs.length = n) (hc : ∀ j u, vs[j]? = some u → w.cell? ⟨b, o + j, none⟩ = some u)
    (hK : wpList P ops Q rest (A.put q.dst (.agg vs.toArray)) w) : wpList P ops Q (q :: rest) A w := by
  refine BigFrame.wpList_want hw fun K hK' => ?_
  unfold Oper.wp
  simp [execOp, hop, hx, Instr.loadAt, Instr.sureAddr, run_loadA T hl hc, Result.andThen]
  exact hK' _ _ hK

theorem wpl_maxG (hw : Region.wanted q (yielded ops A.tmps) = true) (x y : Operand) {ty : Array TypeId}
    (hop : q.op = Op.call { callee := Callee.builtin Builtin.max, args := #[x, y], argTypes := ty }) {k : IntKind} {i j : Int} (hx : A.eval x = .int k i) (hy : A.eval y = .int k j)
    (hK : wpList P ops Q rest (A.put q.dst (.int k (max i j))) w) : wpList P ops Q (q :: rest) A w := by
  refine BigFrame.wpList_want hw fun K hK' => ?_
  have hrun : (Builtin.max_ ty q.type #[.int k i, .int k j]).run P w = .ok (.int k (max i j)) w := by
    simp only [Builtin.max_, List.foldlM, Builtin.max2]
    have : (if j > i then j else i) = max i j := by rw [Int.max_def]; split <;> split <;> omega
    simp [this]
  unfold Oper.wp
  simp [execOp, hop, resolve, invoke, builtin, hx, hy, hrun, Result.andThen]
  exact hK' _ _ hK

theorem wpl_minG (hw : Region.wanted q (yielded ops A.tmps) = true) (x y : Operand) {ty : Array TypeId}
    (hop : q.op = Op.call { callee := Callee.builtin Builtin.min, args := #[x, y], argTypes := ty }) {k : IntKind} {i j : Int} (hx : A.eval x = .int k i) (hy : A.eval y = .int k j)
    (hK : wpList P ops Q rest (A.put q.dst (.int k (min i j))) w) : wpList P ops Q (q :: rest) A w := by
  refine BigFrame.wpList_want hw fun K hK' => ?_
  have hrun : (Builtin.min_ ty q.type #[.int k i, .int k j]).run P w = .ok (.int k (min i j)) w := by
    simp only [Builtin.min_, List.foldlM, Builtin.min2]
    have : (if j < i then j else i) = min i j := by rw [Int.min_def]; split <;> split <;> omega
    simp [this]
  unfold Oper.wp
  simp [execOp, hop, resolve, invoke, builtin, hx, hy, hrun, Result.andThen]
  exact hK' _ _ hK

end

end Go.Qd
