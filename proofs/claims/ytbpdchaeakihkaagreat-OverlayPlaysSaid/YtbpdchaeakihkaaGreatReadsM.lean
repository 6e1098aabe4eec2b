/- The document's messages, as they come in. Printed by mkReadsM.py. -/
import Derived.Test.YtbpdchaeakihkaaGreatLib
import Derived.Test.YtbpdchaeakihkaaGreatOfB
import Derived.Test.YtbpdchaeakihkaaGreatRows
namespace Go.Proofs.YtbpdchaeakihkaaGreat
open Go.RowKit Go.Qd Go.ChangeShapes Go.WideShapes Go.ChangeAt

set_option maxRecDepth 100000 in
set_option maxHeartbeats 1000000 in
theorem rst_cells {H : Type} {enc : TypeId × Value → H} {W : World} {base : Nat} {sp : Nat → Bool} {m : Nat} {cs : List Value} {y : DataW H × List MemPlace}
    (h : DataW.trod enc Tryz.prog W base sp true m 69 cs = some y) : ∃ c s : Int, cs = [.int .i64 c, .int .i64 s] := by
  obtain ⟨xs, k, rfl, rfl, hl, hx, hfs⟩ := DataW.trod_struct Tryz.underlying69 h
  have cE : Tryz.prog.cellsOf 69 = 2 := by kernel_rfl
  rw [cE] at hl
  have c_0 : Tryz.prog.cellsOf 3 = 1 := by kernel_rfl
  match cs, hl with
  | [u0, u1], _ =>
    have hx' : xs.length = 2 := hx
    have h0 : DataW.trod enc Tryz.prog W base sp true k 3 (([u0, u1].drop 0).take (Tryz.prog.cellsOf 3)) = xs[0]? := hfs 0 _ rfl
    have h1 : DataW.trod enc Tryz.prog W base sp true k 3 (([u0, u1].drop 1).take (Tryz.prog.cellsOf 3)) = xs[1]? := hfs 1 _ rfl
    rw [List.getElem?_eq_getElem (by omega)] at h0 h1
    simp only [c_0, List.drop_zero, List.drop_succ_cons, List.take_succ_cons, List.take_zero] at h0 h1
    obtain ⟨a, e0, r0⟩ := int_cells Tryz.underlying3 h0
    obtain ⟨b, e1, r1⟩ := int_cells Tryz.underlying3 h1
    simp at e0
    subst e0
    simp at e1
    subst e1
    exact ⟨a, b, rfl⟩

set_option maxRecDepth 100000 in
set_option maxHeartbeats 1000000 in
theorem rmk_cells {H : Type} {enc : TypeId × Value → H} {W : World} {base : Nat} {sp : Nat → Bool} {m : Nat} {cs : List Value} {y : DataW H × List MemPlace}
    (h : DataW.trod enc Tryz.prog W base sp true m 71 cs = some y) : ∃ x : MkV, cs = x.cells := by
  obtain ⟨xs, k, rfl, rfl, hl, hx, hfs⟩ := DataW.trod_struct Tryz.underlying71 h
  have cE : Tryz.prog.cellsOf 71 = 3 := by kernel_rfl
  rw [cE] at hl
  have c_0 : Tryz.prog.cellsOf 69 = 2 := by kernel_rfl
  have c_1 : Tryz.prog.cellsOf 9 = 1 := by kernel_rfl
  match cs, hl with
  | [u0, u1, u2], _ =>
    have hx' : xs.length = 2 := hx
    have h0 : DataW.trod enc Tryz.prog W base sp true k 69 (([u0, u1, u2].drop 0).take (Tryz.prog.cellsOf 69)) = xs[0]? := hfs 0 _ rfl
    have h1 : DataW.trod enc Tryz.prog W base sp true k 9 (([u0, u1, u2].drop 2).take (Tryz.prog.cellsOf 9)) = xs[1]? := hfs 1 _ rfl
    rw [List.getElem?_eq_getElem (by omega)] at h0 h1
    simp only [c_0, c_1, List.drop_zero, List.drop_succ_cons, List.take_succ_cons, List.take_zero] at h0 h1
    obtain ⟨a, b, e0⟩ := rst_cells h0
    obtain ⟨key, e1, _, q1⟩ := DataW.trod_string Tryz.underlying9 h1
    simp at e1
    subst e1
    simp at e0
    obtain ⟨rfl, rfl⟩ := e0
    exact ⟨⟨a, b, key⟩, rfl⟩

set_option maxRecDepth 100000 in
set_option maxHeartbeats 1000000 in
theorem ren_cells {H : Type} {enc : TypeId × Value → H} {W : World} {base : Nat} {sp : Nat → Bool} {m : Nat} {cs : List Value} {y : DataW H × List MemPlace}
    (h : DataW.trod enc Tryz.prog W base sp true m 131 cs = some y) : ∃ x : EnV, cs = x.cells := by
  obtain ⟨xs, k, rfl, rfl, hl, hx, hfs⟩ := DataW.trod_struct Tryz.underlying131 h
  have cE : Tryz.prog.cellsOf 131 = 9 := by kernel_rfl
  rw [cE] at hl
  have c_0 : Tryz.prog.cellsOf 9 = 1 := by kernel_rfl
  have c_1 : Tryz.prog.cellsOf 4 = 1 := by kernel_rfl
  have c_2 : Tryz.prog.cellsOf 69 = 2 := by kernel_rfl
  have c_3 : Tryz.prog.cellsOf 3 = 1 := by kernel_rfl
  match cs, hl with
  | [u0, u1, u2, u3, u4, u5, u6, u7, u8], _ =>
    have hx' : xs.length = 7 := hx
    have h0 : DataW.trod enc Tryz.prog W base sp true k 9 (([u0, u1, u2, u3, u4, u5, u6, u7, u8].drop 0).take (Tryz.prog.cellsOf 9)) = xs[0]? := hfs 0 _ rfl
    have h1 : DataW.trod enc Tryz.prog W base sp true k 9 (([u0, u1, u2, u3, u4, u5, u6, u7, u8].drop 1).take (Tryz.prog.cellsOf 9)) = xs[1]? := hfs 1 _ rfl
    have h2 : DataW.trod enc Tryz.prog W base sp true k 4 (([u0, u1, u2, u3, u4, u5, u6, u7, u8].drop 2).take (Tryz.prog.cellsOf 4)) = xs[2]? := hfs 2 _ rfl
    have h3 : DataW.trod enc Tryz.prog W base sp true k 69 (([u0, u1, u2, u3, u4, u5, u6, u7, u8].drop 3).take (Tryz.prog.cellsOf 69)) = xs[3]? := hfs 3 _ rfl
    have h4 : DataW.trod enc Tryz.prog W base sp true k 69 (([u0, u1, u2, u3, u4, u5, u6, u7, u8].drop 5).take (Tryz.prog.cellsOf 69)) = xs[4]? := hfs 4 _ rfl
    have h5 : DataW.trod enc Tryz.prog W base sp true k 3 (([u0, u1, u2, u3, u4, u5, u6, u7, u8].drop 7).take (Tryz.prog.cellsOf 3)) = xs[5]? := hfs 5 _ rfl
    have h6 : DataW.trod enc Tryz.prog W base sp true k 3 (([u0, u1, u2, u3, u4, u5, u6, u7, u8].drop 8).take (Tryz.prog.cellsOf 3)) = xs[6]? := hfs 6 _ rfl
    rw [List.getElem?_eq_getElem (by omega)] at h0 h1 h2 h3 h4 h5 h6
    simp only [c_0, c_1, c_2, c_3, List.drop_zero, List.drop_succ_cons, List.take_succ_cons, List.take_zero] at h0 h1 h2 h3 h4 h5 h6
    obtain ⟨key, e0, _, q0⟩ := DataW.trod_string Tryz.underlying9 h0
    obtain ⟨val, e1, _, q1⟩ := DataW.trod_string Tryz.underlying9 h1
    obtain ⟨dead, e2, _⟩ := DataW.trod_bool Tryz.underlying4 h2
    obtain ⟨a, b, e3⟩ := rst_cells h3
    obtain ⟨c, d, e4⟩ := rst_cells h4
    obtain ⟨kp, e5, r5⟩ := int_cells Tryz.underlying3 h5
    obtain ⟨age, e6, r6⟩ := int_cells Tryz.underlying3 h6
    simp at e0
    subst e0
    simp at e1
    subst e1
    simp at e2
    subst e2
    simp at e5
    subst e5
    simp at e6
    subst e6
    simp at e3 e4
    obtain ⟨rfl, rfl⟩ := e3
    obtain ⟨rfl, rfl⟩ := e4
    exact ⟨⟨key, val, dead, a, b, c, d, kp, age⟩, rfl⟩

theorem slice_shape {H : Type} {enc : TypeId × Value → H} {P : Program} {W : World} {base : Nat} {sp : Nat → Bool} {held : Bool} {m : Nat} {T E : TypeId} {u : Value} {y : DataW H × List MemPlace}
    (uT : P.underlying T = some (.slice E)) (h : DataW.trod enc P W base sp held m T [u] = some y) : ∃ a n c, u = .slice a n c := by
  rcases DataW.trod_slice uT h with ⟨h1, _⟩ | ⟨a, n, c, _, _, _, _, h1, _⟩
  · exact ⟨none, 0, 0, by simpa using h1⟩
  · exact ⟨some a, n, c, by simpa using h1⟩
/-- What a message that came in reads. -/
def MsgV.reads (W : World) (x : MsgV) (ks : List MkV) (es : List EnV) : Prop := RdS W 1 x.pa x.pn x.pc (ivs x.ps) ∧ RdS W 3 x.ma x.mn x.mq (mkC ks) ∧ RdS W 9 x.ea x.en x.eq (enC es)

set_option maxRecDepth 100000 in
set_option maxHeartbeats 1000000 in
theorem rmsg_cells {H : Type} {enc : TypeId × Value → H} {W : World} {base : Nat} {sp : Nat → Bool} {m : Nat} {cs : List Value} {y : DataW H × List MemPlace}
    (h : DataW.trod enc Tryz.prog W base sp true m 75 cs = some y) : ∃ (x : MsgV) (ks : List MkV) (es : List EnV), cs = x.cells ∧ x.reads W ks es := by
  obtain ⟨xs, k, rfl, rfl, hl, hx, hfs⟩ := DataW.trod_struct Tryz.underlying75 h
  have cE : Tryz.prog.cellsOf 75 = 12 := by kernel_rfl
  rw [cE] at hl
  have c_0 : Tryz.prog.cellsOf 3 = 1 := by kernel_rfl
  have c_1 : Tryz.prog.cellsOf 4 = 1 := by kernel_rfl
  have c_2 : Tryz.prog.cellsOf 24 = 1 := by kernel_rfl
  have c_3 : Tryz.prog.cellsOf 50 = 1 := by kernel_rfl
  have c_4 : Tryz.prog.cellsOf 71 = 3 := by kernel_rfl
  have c_5 : Tryz.prog.cellsOf 72 = 1 := by kernel_rfl
  have c_6 : Tryz.prog.cellsOf 73 = 1 := by kernel_rfl
  match cs, hl with
  | [u0, u1, u2, u3, u4, u5, u6, u7, u8, u9, u10, u11], _ =>
    have hx' : xs.length = 10 := hx
    have h0 : DataW.trod enc Tryz.prog W base sp true k 3 (([u0, u1, u2, u3, u4, u5, u6, u7, u8, u9, u10, u11].drop 0).take (Tryz.prog.cellsOf 3)) = xs[0]? := hfs 0 _ rfl
    have h1 : DataW.trod enc Tryz.prog W base sp true k 3 (([u0, u1, u2, u3, u4, u5, u6, u7, u8, u9, u10, u11].drop 1).take (Tryz.prog.cellsOf 3)) = xs[1]? := hfs 1 _ rfl
    have h2 : DataW.trod enc Tryz.prog W base sp true k 3 (([u0, u1, u2, u3, u4, u5, u6, u7, u8, u9, u10, u11].drop 2).take (Tryz.prog.cellsOf 3)) = xs[2]? := hfs 2 _ rfl
    have h3 : DataW.trod enc Tryz.prog W base sp true k 4 (([u0, u1, u2, u3, u4, u5, u6, u7, u8, u9, u10, u11].drop 3).take (Tryz.prog.cellsOf 4)) = xs[3]? := hfs 3 _ rfl
    have h4 : DataW.trod enc Tryz.prog W base sp true k 24 (([u0, u1, u2, u3, u4, u5, u6, u7, u8, u9, u10, u11].drop 4).take (Tryz.prog.cellsOf 24)) = xs[4]? := hfs 4 _ rfl
    have h5 : DataW.trod enc Tryz.prog W base sp true k 3 (([u0, u1, u2, u3, u4, u5, u6, u7, u8, u9, u10, u11].drop 5).take (Tryz.prog.cellsOf 3)) = xs[5]? := hfs 5 _ rfl
    have h6 : DataW.trod enc Tryz.prog W base sp true k 50 (([u0, u1, u2, u3, u4, u5, u6, u7, u8, u9, u10, u11].drop 6).take (Tryz.prog.cellsOf 50)) = xs[6]? := hfs 6 _ rfl
    have h7 : DataW.trod enc Tryz.prog W base sp true k 71 (([u0, u1, u2, u3, u4, u5, u6, u7, u8, u9, u10, u11].drop 7).take (Tryz.prog.cellsOf 71)) = xs[7]? := hfs 7 _ rfl
    have h8 : DataW.trod enc Tryz.prog W base sp true k 72 (([u0, u1, u2, u3, u4, u5, u6, u7, u8, u9, u10, u11].drop 10).take (Tryz.prog.cellsOf 72)) = xs[8]? := hfs 8 _ rfl
    have h9 : DataW.trod enc Tryz.prog W base sp true k 73 (([u0, u1, u2, u3, u4, u5, u6, u7, u8, u9, u10, u11].drop 11).take (Tryz.prog.cellsOf 73)) = xs[9]? := hfs 9 _ rfl
    rw [List.getElem?_eq_getElem (by omega)] at h0 h1 h2 h3 h4 h5 h6 h7 h8 h9
    simp only [c_0, c_1, c_2, c_3, c_4, c_5, c_6, List.drop_zero, List.drop_succ_cons, List.take_succ_cons, List.take_zero] at h0 h1 h2 h3 h4 h5 h6 h7 h8 h9
    obtain ⟨kd, e0, r0⟩ := int_cells Tryz.underlying3 h0
    obtain ⟨pe, e1, r1⟩ := int_cells Tryz.underlying3 h1
    obtain ⟨ho, e2, r2⟩ := int_cells Tryz.underlying3 h2
    obtain ⟨hi, e3, _⟩ := DataW.trod_bool Tryz.underlying4 h3
    obtain ⟨pa, pn, pc, e4⟩ := slice_shape Tryz.underlying24 h4
    obtain ⟨nu, e5, r5⟩ := int_cells Tryz.underlying3 h5
    obtain ⟨su, e6, _, _⟩ := DataW.trod_int Tryz.underlying50 h6
    obtain ⟨x, e7⟩ := rmk_cells h7
    obtain ⟨ma, mn, mq, e8⟩ := slice_shape Tryz.underlying72 h8
    obtain ⟨ea, en, eq, e9⟩ := slice_shape Tryz.underlying73 h9
    simp at e0
    subst e0
    simp at e1
    subst e1
    simp at e2
    subst e2
    simp at e3
    subst e3
    simp at e5
    subst e5
    simp at e6
    subst e6
    obtain ⟨xc, xz, xk⟩ := x
    simp [MkV.cells] at e7
    obtain ⟨rfl, rfl, rfl⟩ := e7
    subst e4 e8 e9
    obtain ⟨ps, rp, _⟩ := ints_of_trod' Tryz.underlying24 Tryz.underlying3 (by kernel_rfl) h4
    obtain ⟨ks, rm, _⟩ := slice_cells MkV.cells (fun _ => True) mk_one (by decide) Tryz.underlying72 (by kernel_rfl : Tryz.prog.cellsOf 71 = 3) (fun _ _ _ h => by obtain ⟨x, hx⟩ := rmk_cells h; exact ⟨x, hx, trivial⟩) h8
    obtain ⟨es, re, _⟩ := slice_cells EnV.cells (fun _ => True) en_one (by decide) Tryz.underlying73 (by kernel_rfl : Tryz.prog.cellsOf 131 = 9) (fun _ _ _ h => by obtain ⟨x, hx⟩ := ren_cells h; exact ⟨x, hx, trivial⟩) h9
    exact ⟨⟨kd, pe, ho, hi, pa, pn, pc, ps, nu, su, xc, xz, xk, ma, mn, mq, ea, en, eq⟩, ks, es, rfl, rp, rm, re⟩

end Go.Proofs.YtbpdchaeakihkaaGreat
