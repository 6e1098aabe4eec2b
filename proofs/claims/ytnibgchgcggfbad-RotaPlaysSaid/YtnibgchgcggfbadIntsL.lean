/- A [][]int that came in. -/
import Derived.Test.YtnibgchgcggfbadFrame
import Derived.Test.YtnibgchgcggfbadRows
import Derived.Test.YtnibgchgcggfbadProg
import Derived.WalkKit
namespace Go.Proofs.Ytnibgchgcggfbad
open Go.RowKit Go.Qd Go.ChangeShapes Go.WideShapes Go.ChangeAt

structure SV where
  a : Option Addr
  n : Nat
  c : Nat
  L : List Int
def SV.ok (W : World) (x : SV) : Prop := RdS W 1 x.a x.n x.c (ivs x.L)
def SV.val (x : SV) : Value := .slice x.a x.n x.c
def slCells (l : List SV) : List Value := l.map SV.val
theorem slCells_len {w : World} {a : Option Addr} {n c : Nat} {l : List SV} (h : RdS w 1 a n c (slCells l)) : l.length = n := by have := h.len; simpa [slCells] using this
theorem slCells_get {l : List SV} {i : Nat} (h : i < l.length) : (slCells l)[i]? = some l[i].val := by simp [slCells, h]

theorem intsl_of_trod {H : Type} {enc : TypeId × Value → H} {W : World} {base : Nat} {sp : Nat → Bool} {a : Option Addr} {n c : Nat} {d : DataW H} {p : List MemPlace}
    (h : DataW.Trod enc Try.prog W base sp true 22 (.slice a n c) d p) : ∃ l : List SV, RdS W 1 a n c (slCells l) ∧ ∀ x ∈ l, x.ok W := by
  obtain ⟨fuel, hf⟩ := h
  have one : ∀ m cs y, DataW.trod enc Try.prog W base sp true m 28 cs = some y → ∃ x : SV, cs = [x.val] ∧ x.ok W := by
    intro m cs y hy
    obtain ⟨a, n, c, rfl⟩ : ∃ a n c, cs = [.slice a n c] := by
      rcases DataW.trod_slice Try.underlying28 hy with ⟨hc, _⟩ | ⟨b, l, cc, _, _, _, _, hc, _⟩
      · exact ⟨_, _, _, hc⟩
      · exact ⟨_, _, _, hc⟩
    obtain ⟨zs, r, _⟩ := ints_of_trod' Try.underlying28 Try.underlying3 (by kernel_rfl) hy
    exact ⟨⟨a, n, c, zs⟩, rfl, r⟩
  have hf' : DataW.trod enc Try.prog W base sp true fuel 22 [.slice a n c] = some (d, p) := by simpa [Value.cells] using hf
  obtain ⟨css, h1, h2, h3, h4⟩ := slice_of_trod Try.underlying22 (by kernel_rfl : Try.prog.cellsOf 28 = 1) (by decide) hf' (fun m cs y hy u hu => by
    obtain ⟨x, rfl, _⟩ := one _ _ _ hy
    simp at hu; subst hu; rfl)
  have : ∀ css : List (List Value), (∀ cs ∈ css, ∃ m y, DataW.trod enc Try.prog W base sp true m 28 cs = some y) → ∃ l : List SV, css.flatten = slCells l ∧ ∀ x ∈ l, x.ok W := by
    intro css
    induction css with
    | nil => intro _; exact ⟨[], rfl, fun _ h => (by cases h)⟩
    | cons cs css ih =>
      intro hh
      obtain ⟨m, y, hy⟩ := hh cs (by simp)
      obtain ⟨x, rfl, hx⟩ := one _ _ _ hy
      obtain ⟨l, e, hl⟩ := ih (fun c hc => hh c (by simp [hc]))
      refine ⟨x :: l, by simp [slCells, e], fun u hu => ?_⟩
      rcases List.mem_cons.1 hu with rfl | hu
      · exact hx
      · exact hl u hu
  obtain ⟨l, e, hl⟩ := this css h4
  exact ⟨l, e ▸ h3, hl⟩

end Go.Proofs.Ytnibgchgcggfbad
