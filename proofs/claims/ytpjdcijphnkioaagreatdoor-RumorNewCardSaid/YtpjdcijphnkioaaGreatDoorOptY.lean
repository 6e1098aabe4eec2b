/- Options that come in. -/
import Derived.Test.YtpjdcijphnkioaaGreatDoorLib
import Derived.WalkKit
import Derived.Test.YtpjdcijphnkioaaGreatDoorNews
namespace Go.Proofs.YtpjdcijphnkioaaGreatDoor
open Go.RowKit Go.Qd Go.ChangeShapes Go.WideShapes Go.ChangeAt

set_option maxRecDepth 100000 in
set_option maxHeartbeats 1000000 in
theorem ropt_cells {H : Type} {enc : TypeId × Value → H} {W : World} {base : Nat} {sp : Nat → Bool} {m : Nat} {cs : List Value} {y : DataW H × List MemPlace}
    (h : DataW.trod enc Tryz.prog W base sp true m 23 cs = some y) : ∃ a b c d e : Int, cs = [.int .i64 a, .int .i64 b, .int .i64 c, .int .i64 d, .int .i64 e] := by
  obtain ⟨xs, k, rfl, rfl, hl, hx, hfs⟩ := DataW.trod_struct Tryz.underlying23 h
  have cE : Tryz.prog.cellsOf 23 = 5 := by kernel_rfl
  rw [cE] at hl
  have c_0 : Tryz.prog.cellsOf 3 = 1 := by kernel_rfl
  match cs, hl with
  | [u0, u1, u2, u3, u4], _ =>
    have hx' : xs.length = 5 := hx
    have h0 : DataW.trod enc Tryz.prog W base sp true k 3 (([u0, u1, u2, u3, u4].drop 0).take (Tryz.prog.cellsOf 3)) = xs[0]? := hfs 0 _ rfl
    have h1 : DataW.trod enc Tryz.prog W base sp true k 3 (([u0, u1, u2, u3, u4].drop 1).take (Tryz.prog.cellsOf 3)) = xs[1]? := hfs 1 _ rfl
    have h2 : DataW.trod enc Tryz.prog W base sp true k 3 (([u0, u1, u2, u3, u4].drop 2).take (Tryz.prog.cellsOf 3)) = xs[2]? := hfs 2 _ rfl
    have h3 : DataW.trod enc Tryz.prog W base sp true k 3 (([u0, u1, u2, u3, u4].drop 3).take (Tryz.prog.cellsOf 3)) = xs[3]? := hfs 3 _ rfl
    have h4 : DataW.trod enc Tryz.prog W base sp true k 3 (([u0, u1, u2, u3, u4].drop 4).take (Tryz.prog.cellsOf 3)) = xs[4]? := hfs 4 _ rfl
    rw [List.getElem?_eq_getElem (by omega)] at h0 h1 h2 h3 h4
    simp only [c_0, List.drop_zero, List.drop_succ_cons, List.take_succ_cons, List.take_zero] at h0 h1 h2 h3 h4
    obtain ⟨nodes, e0, r0⟩ := int_cells Tryz.underlying3 h0
    obtain ⟨quota, e1, r1⟩ := int_cells Tryz.underlying3 h1
    obtain ⟨retain, e2, r2⟩ := int_cells Tryz.underlying3 h2
    obtain ⟨t1, e3, r3⟩ := int_cells Tryz.underlying3 h3
    obtain ⟨t2, e4, r4⟩ := int_cells Tryz.underlying3 h4
    simp at e0
    subst e0
    simp at e1
    subst e1
    simp at e2
    subst e2
    simp at e3
    subst e3
    simp at e4
    subst e4
    exact ⟨nodes, quota, retain, t1, t2, rfl⟩

set_option maxRecDepth 100000 in
theorem opts_of_trod {H : Type} {enc : TypeId × Value → H} {W : World} {base : Nat} {sp : Nat → Bool} {r : Reach} {b0 : Nat} {v : Value} {d : DataW H} {ps : List MemPlace}
    (hval : Value.okWide Tryz.prog W r b0 23 v) (hd : DataW.Trod enc Tryz.prog W base sp true 23 v d ps) : ∃ z : OptV, v = .agg z.cells.toArray := by
  obtain ⟨cs, rfl, _⟩ := okWide_struct Tryz.underlying23 hval
  obtain ⟨fuel, hf⟩ := hd
  obtain ⟨a, b, c, e, f, hx⟩ := ropt_cells hf
  refine ⟨⟨a, b, c, e, f⟩, ?_⟩
  have h2 : cs.toList = (OptV.mk a b c e f).cells := hx
  rw [← h2]
end Go.Proofs.YtpjdcijphnkioaaGreatDoor
