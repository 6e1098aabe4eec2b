/- The document's entries, marks, options and a replica's acts, as they come in. Printed by mkReadsE.py. -/
import Derived.Test.YtggbeedghblakaaGreatDoorLib
import Derived.Test.YtggbeedghblakaaGreatDoorMarks
import Derived.Test.YtggbeedghblakaaGreatDoorRows
namespace Go.Proofs.YtggbeedghblakaaGreatDoor
open Go.RowKit Go.Qd Go.ChangeShapes Go.WideShapes Go.ChangeAt

set_option maxRecDepth 100000 in
set_option maxHeartbeats 1000000 in
theorem rst_cells {H : Type} {enc : TypeId × Value → H} {W : World} {base : Nat} {sp : Nat → Bool} {m : Nat} {cs : List Value} {y : DataW H × List MemPlace}
    (h : DataW.trod enc Tryz.prog W base sp true m 33 cs = some y) : ∃ c s : Int, cs = [.int .i64 c, .int .i64 s] := by
  obtain ⟨xs, k, rfl, rfl, hl, hx, hfs⟩ := DataW.trod_struct Tryz.underlying33 h
  have cE : Tryz.prog.cellsOf 33 = 2 := by kernel_rfl
  rw [cE] at hl
  have c_0 : Tryz.prog.cellsOf 3 = 1 := by kernel_rfl
  match cs, hl with
  | [u0, u1], _ =>
    have hx' : xs.length = 2 := hx
    have h0 : DataW.trod enc Tryz.prog W base sp true k 3 (([u0, u1].drop 0).take (Tryz.prog.cellsOf 3)) = xs[0]? := hfs 0 _ rfl
    have h1 : DataW.trod enc Tryz.prog W base sp true k 3 (([u0, u1].drop 1).take (Tryz.prog.cellsOf 3)) = xs[1]? := hfs 1 _ rfl
    rw [List.getElem?_eq_getElem (by omega)] at h0 h1
    simp only [c_0, List.drop_zero, List.drop_succ_cons, List.take_succ_cons, List.take_zero] at h0 h1
    obtain ⟨a, e0, r0⟩ := int_cells Tryz.underlying3 h0
    obtain ⟨b, e1, r1⟩ := int_cells Tryz.underlying3 h1
    simp at e0
    subst e0
    simp at e1
    subst e1
    exact ⟨a, b, rfl⟩

set_option maxRecDepth 100000 in
set_option maxHeartbeats 1000000 in
theorem rmk_cells {H : Type} {enc : TypeId × Value → H} {W : World} {base : Nat} {sp : Nat → Bool} {m : Nat} {cs : List Value} {y : DataW H × List MemPlace}
    (h : DataW.trod enc Tryz.prog W base sp true m 111 cs = some y) : ∃ x : MkV, cs = x.cells := by
  obtain ⟨xs, k, rfl, rfl, hl, hx, hfs⟩ := DataW.trod_struct Tryz.underlying111 h
  have cE : Tryz.prog.cellsOf 111 = 3 := by kernel_rfl
  rw [cE] at hl
  have c_0 : Tryz.prog.cellsOf 33 = 2 := by kernel_rfl
  have c_1 : Tryz.prog.cellsOf 9 = 1 := by kernel_rfl
  match cs, hl with
  | [u0, u1, u2], _ =>
    have hx' : xs.length = 2 := hx
    have h0 : DataW.trod enc Tryz.prog W base sp true k 33 (([u0, u1, u2].drop 0).take (Tryz.prog.cellsOf 33)) = xs[0]? := hfs 0 _ rfl
    have h1 : DataW.trod enc Tryz.prog W base sp true k 9 (([u0, u1, u2].drop 2).take (Tryz.prog.cellsOf 9)) = xs[1]? := hfs 1 _ rfl
    rw [List.getElem?_eq_getElem (by omega)] at h0 h1
    simp only [c_0, c_1, List.drop_zero, List.drop_succ_cons, List.take_succ_cons, List.take_zero] at h0 h1
    obtain ⟨a, b, e0⟩ := rst_cells h0
    obtain ⟨key, e1, _, q1⟩ := DataW.trod_string Tryz.underlying9 h1
    simp at e1
    subst e1
    simp at e0
    obtain ⟨rfl, rfl⟩ := e0
    exact ⟨⟨a, b, key⟩, rfl⟩

set_option maxRecDepth 100000 in
set_option maxHeartbeats 1000000 in
theorem ren_cells {H : Type} {enc : TypeId × Value → H} {W : World} {base : Nat} {sp : Nat → Bool} {m : Nat} {cs : List Value} {y : DataW H × List MemPlace}
    (h : DataW.trod enc Tryz.prog W base sp true m 35 cs = some y) : ∃ x : EnV, cs = x.cells := by
  obtain ⟨xs, k, rfl, rfl, hl, hx, hfs⟩ := DataW.trod_struct Tryz.underlying35 h
  have cE : Tryz.prog.cellsOf 35 = 9 := by kernel_rfl
  rw [cE] at hl
  have c_0 : Tryz.prog.cellsOf 9 = 1 := by kernel_rfl
  have c_1 : Tryz.prog.cellsOf 4 = 1 := by kernel_rfl
  have c_2 : Tryz.prog.cellsOf 33 = 2 := by kernel_rfl
  have c_3 : Tryz.prog.cellsOf 3 = 1 := by kernel_rfl
  match cs, hl with
  | [u0, u1, u2, u3, u4, u5, u6, u7, u8], _ =>
    have hx' : xs.length = 7 := hx
    have h0 : DataW.trod enc Tryz.prog W base sp true k 9 (([u0, u1, u2, u3, u4, u5, u6, u7, u8].drop 0).take (Tryz.prog.cellsOf 9)) = xs[0]? := hfs 0 _ rfl
    have h1 : DataW.trod enc Tryz.prog W base sp true k 9 (([u0, u1, u2, u3, u4, u5, u6, u7, u8].drop 1).take (Tryz.prog.cellsOf 9)) = xs[1]? := hfs 1 _ rfl
    have h2 : DataW.trod enc Tryz.prog W base sp true k 4 (([u0, u1, u2, u3, u4, u5, u6, u7, u8].drop 2).take (Tryz.prog.cellsOf 4)) = xs[2]? := hfs 2 _ rfl
    have h3 : DataW.trod enc Tryz.prog W base sp true k 33 (([u0, u1, u2, u3, u4, u5, u6, u7, u8].drop 3).take (Tryz.prog.cellsOf 33)) = xs[3]? := hfs 3 _ rfl
    have h4 : DataW.trod enc Tryz.prog W base sp true k 33 (([u0, u1, u2, u3, u4, u5, u6, u7, u8].drop 5).take (Tryz.prog.cellsOf 33)) = xs[4]? := hfs 4 _ rfl
    have h5 : DataW.trod enc Tryz.prog W base sp true k 3 (([u0, u1, u2, u3, u4, u5, u6, u7, u8].drop 7).take (Tryz.prog.cellsOf 3)) = xs[5]? := hfs 5 _ rfl
    have h6 : DataW.trod enc Tryz.prog W base sp true k 3 (([u0, u1, u2, u3, u4, u5, u6, u7, u8].drop 8).take (Tryz.prog.cellsOf 3)) = xs[6]? := hfs 6 _ rfl
    rw [List.getElem?_eq_getElem (by omega)] at h0 h1 h2 h3 h4 h5 h6
    simp only [c_0, c_1, c_2, c_3, List.drop_zero, List.drop_succ_cons, List.take_succ_cons, List.take_zero] at h0 h1 h2 h3 h4 h5 h6
    obtain ⟨key, e0, _, q0⟩ := DataW.trod_string Tryz.underlying9 h0
    obtain ⟨val, e1, _, q1⟩ := DataW.trod_string Tryz.underlying9 h1
    obtain ⟨dead, e2, _⟩ := DataW.trod_bool Tryz.underlying4 h2
    obtain ⟨a, b, e3⟩ := rst_cells h3
    obtain ⟨c, d, e4⟩ := rst_cells h4
    obtain ⟨kp, e5, r5⟩ := int_cells Tryz.underlying3 h5
    obtain ⟨age, e6, r6⟩ := int_cells Tryz.underlying3 h6
    simp at e0
    subst e0
    simp at e1
    subst e1
    simp at e2
    subst e2
    simp at e5
    subst e5
    simp at e6
    subst e6
    simp at e3 e4
    obtain ⟨rfl, rfl⟩ := e3
    obtain ⟨rfl, rfl⟩ := e4
    exact ⟨⟨key, val, dead, a, b, c, d, kp, age⟩, rfl⟩

theorem ents_of_trod {H : Type} {enc : TypeId × Value → H} {W : World} {base : Nat} {sp : Nat → Bool} {a : Option Addr} {n c : Nat} {d : DataW H} {p : List MemPlace}
    (h : DataW.Trod enc Tryz.prog W base sp true 22 (.slice a n c) d p) : ∃ l : List EnV, RdS W 9 a n c (enC l) ∧ ∀ x ∈ l, True := by
  obtain ⟨fuel, hf⟩ := h
  exact slice_cells EnV.cells (fun _ => True) en_one (by decide) Tryz.underlying22 (by kernel_rfl : Tryz.prog.cellsOf 35 = 9) (fun _ _ _ h => by obtain ⟨x, hx⟩ := ren_cells h; exact ⟨x, hx, trivial⟩) (by simpa [Value.cells] using hf)

/-- An act with a replica. -/
structure RAct where
  kind : Int
  key : ByteArray
  val : ByteArray
  e : EnV
def RAct.cells (x : RAct) : List Value := [.int .i64 x.kind, .string x.key, .string x.val] ++ x.e.cells
def ractC (l : List RAct) : List Value := (l.map RAct.cells).flatten
theorem ract_one (x : RAct) : ∀ u ∈ x.cells, u.oneCell' = true := by
  intro u hu
  rcases List.mem_append.1 hu with h | h
  · simp only [List.mem_cons, List.not_mem_nil, or_false] at h
    rcases h with rfl | rfl | rfl <;> rfl
  · exact en_one _ u h

set_option maxRecDepth 100000 in
set_option maxHeartbeats 1000000 in
theorem ract_cells {H : Type} {enc : TypeId × Value → H} {W : World} {base : Nat} {sp : Nat → Bool} {m : Nat} {cs : List Value} {y : DataW H × List MemPlace}
    (h : DataW.trod enc Tryz.prog W base sp true m 58 cs = some y) : ∃ x : RAct, cs = x.cells := by
  obtain ⟨xs, k, rfl, rfl, hl, hx, hfs⟩ := DataW.trod_struct Tryz.underlying58 h
  have cE : Tryz.prog.cellsOf 58 = 12 := by kernel_rfl
  rw [cE] at hl
  have c_0 : Tryz.prog.cellsOf 3 = 1 := by kernel_rfl
  have c_1 : Tryz.prog.cellsOf 9 = 1 := by kernel_rfl
  have c_2 : Tryz.prog.cellsOf 35 = 9 := by kernel_rfl
  match cs, hl with
  | [u0, u1, u2, u3, u4, u5, u6, u7, u8, u9, u10, u11], _ =>
    have hx' : xs.length = 4 := hx
    have h0 : DataW.trod enc Tryz.prog W base sp true k 3 (([u0, u1, u2, u3, u4, u5, u6, u7, u8, u9, u10, u11].drop 0).take (Tryz.prog.cellsOf 3)) = xs[0]? := hfs 0 _ rfl
    have h1 : DataW.trod enc Tryz.prog W base sp true k 9 (([u0, u1, u2, u3, u4, u5, u6, u7, u8, u9, u10, u11].drop 1).take (Tryz.prog.cellsOf 9)) = xs[1]? := hfs 1 _ rfl
    have h2 : DataW.trod enc Tryz.prog W base sp true k 9 (([u0, u1, u2, u3, u4, u5, u6, u7, u8, u9, u10, u11].drop 2).take (Tryz.prog.cellsOf 9)) = xs[2]? := hfs 2 _ rfl
    have h3 : DataW.trod enc Tryz.prog W base sp true k 35 (([u0, u1, u2, u3, u4, u5, u6, u7, u8, u9, u10, u11].drop 3).take (Tryz.prog.cellsOf 35)) = xs[3]? := hfs 3 _ rfl
    rw [List.getElem?_eq_getElem (by omega)] at h0 h1 h2 h3
    simp only [c_0, c_1, c_2, List.drop_zero, List.drop_succ_cons, List.take_succ_cons, List.take_zero] at h0 h1 h2 h3
    obtain ⟨kd, e0, r0⟩ := int_cells Tryz.underlying3 h0
    obtain ⟨key, e1, _, q1⟩ := DataW.trod_string Tryz.underlying9 h1
    obtain ⟨val, e2, _, q2⟩ := DataW.trod_string Tryz.underlying9 h2
    obtain ⟨x, e3⟩ := ren_cells h3
    simp at e0
    subst e0
    simp at e1
    subst e1
    simp at e2
    subst e2
    exact ⟨⟨kd, key, val, x⟩, by rw [RAct.cells, ← e3]; rfl⟩

theorem racts_of_trod {H : Type} {enc : TypeId × Value → H} {W : World} {base : Nat} {sp : Nat → Bool} {a : Option Addr} {n c : Nat} {d : DataW H} {p : List MemPlace}
    (h : DataW.Trod enc Tryz.prog W base sp true 52 (.slice a n c) d p) : ∃ l : List RAct, RdS W 12 a n c (ractC l) ∧ ∀ x ∈ l, True := by
  obtain ⟨fuel, hf⟩ := h
  exact slice_cells RAct.cells (fun _ => True) ract_one (by decide) Tryz.underlying52 (by kernel_rfl : Tryz.prog.cellsOf 58 = 12) (fun _ _ _ h => by obtain ⟨x, hx⟩ := ract_cells h; exact ⟨x, hx, trivial⟩) (by simpa [Value.cells] using hf)

set_option maxRecDepth 100000 in
set_option maxHeartbeats 1000000 in
theorem ropt_cells {H : Type} {enc : TypeId × Value → H} {W : World} {base : Nat} {sp : Nat → Bool} {m : Nat} {cs : List Value} {y : DataW H × List MemPlace}
    (h : DataW.trod enc Tryz.prog W base sp true m 51 cs = some y) : ∃ a b c d e : Int, cs = [.int .i64 a, .int .i64 b, .int .i64 c, .int .i64 d, .int .i64 e] := by
  obtain ⟨xs, k, rfl, rfl, hl, hx, hfs⟩ := DataW.trod_struct Tryz.underlying51 h
  have cE : Tryz.prog.cellsOf 51 = 5 := by kernel_rfl
  rw [cE] at hl
  have c_0 : Tryz.prog.cellsOf 3 = 1 := by kernel_rfl
  match cs, hl with
  | [u0, u1, u2, u3, u4], _ =>
    have hx' : xs.length = 5 := hx
    have h0 : DataW.trod enc Tryz.prog W base sp true k 3 (([u0, u1, u2, u3, u4].drop 0).take (Tryz.prog.cellsOf 3)) = xs[0]? := hfs 0 _ rfl
    have h1 : DataW.trod enc Tryz.prog W base sp true k 3 (([u0, u1, u2, u3, u4].drop 1).take (Tryz.prog.cellsOf 3)) = xs[1]? := hfs 1 _ rfl
    have h2 : DataW.trod enc Tryz.prog W base sp true k 3 (([u0, u1, u2, u3, u4].drop 2).take (Tryz.prog.cellsOf 3)) = xs[2]? := hfs 2 _ rfl
    have h3 : DataW.trod enc Tryz.prog W base sp true k 3 (([u0, u1, u2, u3, u4].drop 3).take (Tryz.prog.cellsOf 3)) = xs[3]? := hfs 3 _ rfl
    have h4 : DataW.trod enc Tryz.prog W base sp true k 3 (([u0, u1, u2, u3, u4].drop 4).take (Tryz.prog.cellsOf 3)) = xs[4]? := hfs 4 _ rfl
    rw [List.getElem?_eq_getElem (by omega)] at h0 h1 h2 h3 h4
    simp only [c_0, List.drop_zero, List.drop_succ_cons, List.take_succ_cons, List.take_zero] at h0 h1 h2 h3 h4
    obtain ⟨nodes, e0, r0⟩ := int_cells Tryz.underlying3 h0
    obtain ⟨quota, e1, r1⟩ := int_cells Tryz.underlying3 h1
    obtain ⟨retain, e2, r2⟩ := int_cells Tryz.underlying3 h2
    obtain ⟨t1, e3, r3⟩ := int_cells Tryz.underlying3 h3
    obtain ⟨t2, e4, r4⟩ := int_cells Tryz.underlying3 h4
    simp at e0
    subst e0
    simp at e1
    subst e1
    simp at e2
    subst e2
    simp at e3
    subst e3
    simp at e4
    subst e4
    exact ⟨nodes, quota, retain, t1, t2, rfl⟩

end Go.Proofs.YtggbeedghblakaaGreatDoor
