/- NetTrue: the acts that came in, as cells. -/
import Derived.Test.YtnibgchgcggfbabNetO
import Derived.Test.YtnibgchgcggfbabNetH
import Derived.Test.YtnibgchgcggfbabFrame
namespace Go.Proofs.Ytnibgchgcggfbab
open Go.RowKit Go.Qd Go.ChangeShapes Go.WideShapes Go.ChangeAt

structure ActV where
  kind : Int
  i : Int
  x : Int
  y : Int
  a : Option Addr
  m : Nat
  c : Nat
  L : List Int
  by_ : Nat
  cut : Bool

def ActV.cells (x : ActV) : List Value := [.int .i64 x.kind, .int .i64 x.i, .int .i64 x.x, .int .i64 x.y, .slice x.a x.m x.c, .int .u8 x.by_, .bool x.cut]
def ActV.ok (W : World) (x : ActV) : Prop := RdS W 1 x.a x.m x.c (bvs x.L)

def actCells (l : List ActV) : List Value := (l.map ActV.cells).flatten

theorem take_all {α : Type} {p : α → Bool} {l : List α} {i : Nat} (h : i < l.length) : (l.take (i + 1)).all p = ((l.take i).all p && p l[i]) := by
  rw [List.take_succ_eq_append_getElem h, List.all_append]; simp only [List.all_cons, List.all_nil, Bool.and_true]

theorem actCells_get {l : List ActV} {i : Nat} (hi : i < l.length) {j : Nat} (hj : j < 7) : (actCells l)[i * 7 + j]? = l[i].cells[j]? := by
  unfold actCells
  rw [flat_get (sz := 7) (by intro cs hc; obtain ⟨x, _, rfl⟩ := List.mem_map.1 hc; rfl) (by simpa using hi) hj, List.getElem_map]

theorem actCells_len {w : World} {a : Option Addr} {n c : Nat} {l : List ActV} (h : RdS w 7 a n c (actCells l)) : l.length = n := by
  have h1 := h.len
  have : ∀ l : List ActV, (actCells l).length = l.length * 7 := by
    intro l
    induction l with
    | nil => rfl
    | cons x l ih => show (x.cells ++ actCells l).length = _; rw [List.length_append, ih, List.length_cons]; simp [ActV.cells]; omega
  rw [this] at h1
  omega

/-- A slice of acts that came in. -/
theorem netacts_of_trod {H : Type} {enc : TypeId × Value → H} {W : World} {base : Nat} {sp : Nat → Bool} {a : Option Addr} {n c : Nat} {d : DataW H} {p : List MemPlace}
    (h : DataW.Trod enc Try.prog W base sp true 37 (.slice a n c) d p) : ∃ l : List ActV, RdS W 7 a n c (actCells l) ∧ ∀ x ∈ l, x.ok W := by
  obtain ⟨fuel, hf⟩ := h
  have one : ∀ m cs y, DataW.trod enc Try.prog W base sp true m 47 cs = some y → ∃ x : ActV, cs = x.cells ∧ x.ok W := by
    intro m cs y hy
    obtain ⟨xs, k, rfl, rfl, hl, hx, hfs⟩ := DataW.trod_struct Try.underlying47 hy
    have c3 : Try.prog.cellsOf 3 = 1 := by kernel_rfl
    have c28 : Try.prog.cellsOf 28 = 1 := by kernel_rfl
    have c5 : Try.prog.cellsOf 5 = 1 := by kernel_rfl
    have c4 : Try.prog.cellsOf 4 = 1 := by kernel_rfl
    have c47 : Try.prog.cellsOf 47 = 7 := by kernel_rfl
    rw [c47] at hl
    match cs, hl with
    | [u0, u1, u2, u3, u4, u5, u6], _ =>
      have hx' : xs.length = 7 := hx
      have h0 : DataW.trod enc Try.prog W base sp true k 3 (([u0, u1, u2, u3, u4, u5, u6].drop 0).take (Try.prog.cellsOf 3)) = xs[0]? := hfs 0 _ rfl
      have h1 : DataW.trod enc Try.prog W base sp true k 3 (([u0, u1, u2, u3, u4, u5, u6].drop 1).take (Try.prog.cellsOf 3)) = xs[1]? := hfs 1 _ rfl
      have h2 : DataW.trod enc Try.prog W base sp true k 3 (([u0, u1, u2, u3, u4, u5, u6].drop 2).take (Try.prog.cellsOf 3)) = xs[2]? := hfs 2 _ rfl
      have h3 : DataW.trod enc Try.prog W base sp true k 3 (([u0, u1, u2, u3, u4, u5, u6].drop 3).take (Try.prog.cellsOf 3)) = xs[3]? := hfs 3 _ rfl
      have h4 : DataW.trod enc Try.prog W base sp true k 28 (([u0, u1, u2, u3, u4, u5, u6].drop 4).take (Try.prog.cellsOf 28)) = xs[4]? := hfs 4 _ rfl
      have h5 : DataW.trod enc Try.prog W base sp true k 5 (([u0, u1, u2, u3, u4, u5, u6].drop 5).take (Try.prog.cellsOf 5)) = xs[5]? := hfs 5 _ rfl
      have h6 : DataW.trod enc Try.prog W base sp true k 4 (([u0, u1, u2, u3, u4, u5, u6].drop 6).take (Try.prog.cellsOf 4)) = xs[6]? := hfs 6 _ rfl
      rw [List.getElem?_eq_getElem (by omega)] at h0 h1 h2 h3 h4 h5 h6
      simp only [c3, c28, c5, c4, List.drop_zero, List.drop_succ_cons, List.take_succ_cons, List.take_zero] at h0 h1 h2 h3 h4 h5 h6
      obtain ⟨z0, e0, _⟩ := int_cells Try.underlying3 h0
      obtain ⟨z1, e1, _⟩ := int_cells Try.underlying3 h1
      obtain ⟨z2, e2, _⟩ := int_cells Try.underlying3 h2
      obtain ⟨z3, e3, _⟩ := int_cells Try.underlying3 h3
      obtain ⟨a, n, c, e4⟩ : ∃ a n c, u4 = .slice a n c := by
        rcases DataW.trod_slice Try.underlying28 h4 with ⟨hc, _⟩ | ⟨b, l, cc, _, _, _, _, hc, _⟩
        · simp at hc; exact ⟨_, _, _, hc⟩
        · simp at hc; exact ⟨_, _, _, hc⟩
      obtain ⟨z5, e5, _, w5⟩ := DataW.trod_int Try.underlying5 h5
      obtain ⟨n5, rfl, _⟩ := nat8 w5
      obtain ⟨z6, e6, _⟩ := DataW.trod_bool Try.underlying4 h6
      simp at e0 e1 e2 e3 e5 e6
      subst e0 e1 e2 e3 e4 e5 e6
      obtain ⟨zs, r⟩ := bytes_of_trod' h4
      exact ⟨⟨z0, z1, z2, z3, a, n, c, zs, n5, z6⟩, rfl, r⟩
  have hf' : DataW.trod enc Try.prog W base sp true fuel 37 [.slice a n c] = some (d, p) := by simpa [Value.cells] using hf
  obtain ⟨css, h1, h2, h3, h4⟩ := slice_of_trod Try.underlying37 (by kernel_rfl : Try.prog.cellsOf 47 = 7) (by decide) hf' (fun m cs y hy u hu => by
    obtain ⟨x, rfl, _⟩ := one _ _ _ hy
    simp [ActV.cells] at hu
    rcases hu with rfl | rfl | rfl | rfl | rfl | rfl | rfl <;> rfl)
  have : ∀ css : List (List Value), (∀ cs ∈ css, ∃ m y, DataW.trod enc Try.prog W base sp true m 47 cs = some y) → ∃ l : List ActV, css.flatten = actCells l ∧ ∀ x ∈ l, x.ok W := by
    intro css
    induction css with
    | nil => intro _; exact ⟨[], rfl, fun _ h => (by cases h)⟩
    | cons cs css ih =>
      intro hh
      obtain ⟨m, y, hy⟩ := hh cs (by simp)
      obtain ⟨x, rfl, hx⟩ := one _ _ _ hy
      obtain ⟨l, e, hl⟩ := ih (fun c hc => hh c (by simp [hc]))
      refine ⟨x :: l, by rw [List.flatten_cons, e]; rfl, fun u hu => ?_⟩
      rcases List.mem_cons.1 hu with rfl | hu
      · exact hx
      · exact hl u hu
  obtain ⟨l, e, hl⟩ := this css h4
  rw [e] at h3
  exact ⟨l, h3, hl⟩

end Go.Proofs.Ytnibgchgcggfbab
