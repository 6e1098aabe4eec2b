/- The acts that came in. -/
import Derived.Test.YtnibgchgcggfbacFrame
import Derived.Test.YtnibgchgcggfbacRows
import Derived.Test.YtnibgchgcggfbacProg
import Derived.WalkKit
namespace Go.Proofs.Ytnibgchgcggfbac
open Go.RowKit Go.Qd Go.ChangeShapes Go.WideShapes Go.ChangeAt

structure ActV where
  kind : Int
  q : Int
  ask : Int

def ActV.cells (x : ActV) : List Value := [.int .i64 x.kind, .int .i64 x.q, .int .i64 x.ask]
def ActV.ok (W : World) (x : ActV) : Prop := (-9223372036854775808 ≤ x.kind ∧ x.kind ≤ 9223372036854775807) ∧ (-9223372036854775808 ≤ x.q ∧ x.q ≤ 9223372036854775807) ∧ (-9223372036854775808 ≤ x.ask ∧ x.ask ≤ 9223372036854775807)
def actCells (l : List ActV) : List Value := (l.map ActV.cells).flatten
theorem actCells_size (l : List ActV) : (actCells l).length = l.length * 3 := by
  induction l with
  | nil => rfl
  | cons x l ih => show (x.cells ++ actCells l).length = _; rw [List.length_append, ih, List.length_cons]; simp [ActV.cells]; omega
theorem actCells_len {w : World} {a : Option Addr} {n c : Nat} {l : List ActV} (h : RdS w 3 a n c (actCells l)) : l.length = n := by
  have h1 := h.len
  rw [actCells_size] at h1
  omega
theorem actCells_snoc (S : List ActV) (a : ActV) : actCells (S ++ [a]) = actCells S ++ a.cells := by simp [actCells]
theorem actCells_get {l : List ActV} {i : Nat} (hi : i < l.length) {j : Nat} (hj : j < 3) : (actCells l)[i * 3 + j]? = l[i].cells[j]? := by
  unfold actCells
  rw [flat_get (sz := 3) (by intro cs hc; obtain ⟨x, _, rfl⟩ := List.mem_map.1 hc; rfl) (by simpa using hi) hj, List.getElem_map]
/-- Its cells, one by one. -/
theorem act_at {w : World} {g o n c k : Nat} {l : List ActV} (rd : RdS w 3 (some ⟨g, o, none⟩) n c (actCells l)) (hk : k < l.length) :
    w.cell? ⟨g, o + k * 3, none⟩ = some (.int .i64 l[k].kind) ∧ w.cell? ⟨g, o + k * 3 + 1, none⟩ = some (.int .i64 l[k].q) ∧ w.cell? ⟨g, o + k * 3 + 2, none⟩ = some (.int .i64 l[k].ask) :=
  ⟨rd.at (by have := actCells_get hk (j := 0) (by decide); rw [Nat.add_zero] at this; rw [this]; rfl), rd.at2 (by rw [actCells_get hk (j := 1) (by decide)]; rfl), rd.at2 (by rw [actCells_get hk (j := 2) (by decide)]; rfl)⟩
set_option maxRecDepth 100000 in
set_option maxHeartbeats 1000000 in
/-- A slice of these that came in. -/
theorem act_of_trod {H : Type} {enc : TypeId × Value → H} {W : World} {base : Nat} {sp : Nat → Bool} {a : Option Addr} {n c : Nat} {d : DataW H} {p : List MemPlace}
    (h : DataW.Trod enc Try.prog W base sp true 23 (.slice a n c) d p) : ∃ l : List ActV, RdS W 3 a n c (actCells l) ∧ ∀ x ∈ l, x.ok W := by
  obtain ⟨fuel, hf⟩ := h
  have one : ∀ m cs y, DataW.trod enc Try.prog W base sp true m 32 cs = some y → ∃ x : ActV, cs = x.cells ∧ x.ok W := by
    intro m cs y hy
    obtain ⟨xs, k, rfl, rfl, hl, hx, hfs⟩ := DataW.trod_struct Try.underlying32 hy
    have c3 : Try.prog.cellsOf 3 = 1 := by kernel_rfl
    have cE : Try.prog.cellsOf 32 = 3 := by kernel_rfl
    rw [cE] at hl
    match cs, hl with
    | [u0, u1, u2], _ =>
      have hx' : xs.length = 3 := hx
      have h0 : DataW.trod enc Try.prog W base sp true k 3 (([u0, u1, u2].drop 0).take (Try.prog.cellsOf 3)) = xs[0]? := hfs 0 _ rfl
      have h1 : DataW.trod enc Try.prog W base sp true k 3 (([u0, u1, u2].drop 1).take (Try.prog.cellsOf 3)) = xs[1]? := hfs 1 _ rfl
      have h2 : DataW.trod enc Try.prog W base sp true k 3 (([u0, u1, u2].drop 2).take (Try.prog.cellsOf 3)) = xs[2]? := hfs 2 _ rfl
      rw [List.getElem?_eq_getElem (by omega)] at h0 h1 h2
      simp only [c3, List.drop_zero, List.drop_succ_cons, List.take_succ_cons, List.take_zero] at h0 h1 h2
      obtain ⟨z0, e0, r0⟩ := int_cells Try.underlying3 h0
      obtain ⟨z1, e1, r1⟩ := int_cells Try.underlying3 h1
      obtain ⟨z2, e2, r2⟩ := int_cells Try.underlying3 h2
      simp at e0 e1 e2
      subst e0 e1 e2
      exact ⟨⟨z0, z1, z2⟩, rfl, r0, r1, r2⟩
  have hf' : DataW.trod enc Try.prog W base sp true fuel 23 [.slice a n c] = some (d, p) := by simpa [Value.cells] using hf
  obtain ⟨css, h1, h2, h3, h4⟩ := slice_of_trod Try.underlying23 (by kernel_rfl : Try.prog.cellsOf 32 = 3) (by decide) hf' (fun m cs y hy u hu => by
    obtain ⟨x, rfl, _⟩ := one _ _ _ hy
    simp [ActV.cells] at hu
    rcases hu with rfl | rfl | rfl <;> rfl)
  have : ∀ css : List (List Value), (∀ cs ∈ css, ∃ m y, DataW.trod enc Try.prog W base sp true m 32 cs = some y) → ∃ l : List ActV, css.flatten = actCells l ∧ ∀ x ∈ l, x.ok W := by
    intro css
    induction css with
    | nil => intro _; exact ⟨[], rfl, fun _ h => (by cases h)⟩
    | cons cs css ih =>
      intro hh
      obtain ⟨m, y, hy⟩ := hh cs (by simp)
      obtain ⟨x, rfl, hx⟩ := one _ _ _ hy
      obtain ⟨l, e, hl⟩ := ih (fun c hc => hh c (by simp [hc]))
      refine ⟨x :: l, by rw [List.flatten_cons, e]; rfl, fun u hu => ?_⟩
      rcases List.mem_cons.1 hu with rfl | hu
      · exact hx
      · exact hl u hu
  obtain ⟨l, e, hl⟩ := this css h4
  rw [e] at h3
  exact ⟨l, h3, hl⟩

end Go.Proofs.Ytnibgchgcggfbac
