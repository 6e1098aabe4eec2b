/- The package variable replica.first, as the program's text lays it; options, marks and texts that came in. -/
import Derived.Test.YtpjdcijphnkioaaGreatDoorRepJ
import Derived.Test.YtpjdcijphnkioaaGreatDoorRows
import Derived.LaidMore
import Derived.ProofKit
import Derived.OpenShut
import Derived.ShutString
namespace Go.Proofs.YtpjdcijphnkioaaGreatDoor
open Go.RowKit Go.Qd Go.ChangeShapes Go.WideShapes Go.ChangeAt

theorem gFirst : Tryz.prog.globalNamed "quidnunc/replica.first" = some 0 := by kernel_rfl
theorem tFirst : (Tryz.prog.globals[0]?).map (·.type) = some 64 := by kernel_rfl

set_option maxRecDepth 100000 in
theorem first_of_laid {W : World} (h : laidMetH Tryz.prog [("quidnunc/replica.first", Rows.laid_quidnunc_replica_first)] W) : FirstW W := by
  rw [MakeChecks.laidMetH_plain _ _ _ (by kernel_rfl)] at h
  obtain ⟨ps, ⟨g0, t0, cs0, f0, p0, q0, hg0, ht0, hv0, hd0, _, _⟩, _, _⟩ := h
  obtain rfl := Option.some.inj (gFirst.symm.trans hg0)
  obtain rfl := Option.some.inj (tFirst.symm.trans ht0)
  obtain ⟨xs, k, he, he2, hl, hx, hfs⟩ := DataW.trod_struct Tryz.underlying64 hd0
  have cE : Tryz.prog.cellsOf 64 = 2 := by kernel_rfl
  have c3 : Tryz.prog.cellsOf 3 = 1 := by kernel_rfl
  rw [cE] at hl
  obtain ⟨l0⟩ := cs0
  match l0, hl with
  | [u0, u1], _ =>
    have hx' : xs.length = 2 := hx
    have h0 := hfs 0 _ rfl
    have h1 := hfs 1 _ rfl
    match xs, hx' with
    | [x0, x1], _ =>
      try dsimp only at h0 h1
      have e0 : x0.1 = .lit (.int .i64 1) ∧ x1.1 = .lit (.int .i64 0) := by
        have := he2
        simp [Rows.laid_quidnunc_replica_first] at this
        exact ⟨this.1.1.symm, this.1.2.symm⟩
      obtain ⟨a, ea, ea2, _⟩ := DataW.trod_int Tryz.underlying3 (show DataW.trod _ Tryz.prog W 0 _ false k 3 [u0] = some x0 from h0)
      obtain ⟨b, eb, eb2, _⟩ := DataW.trod_int Tryz.underlying3 (show DataW.trod _ Tryz.prog W 0 _ false k 3 [u1] = some x1 from h1)
      have ha : a = 1 := by rw [ea2] at e0; simpa using e0.1
      have hb : b = 0 := by rw [eb2] at e0; simpa using e0.2
      subst ha; subst hb
      have v0 := World.var?_cell hg0 hv0 0
      have v1 := World.var?_cell hg0 hv0 1
      simp at ea eb
      subst ea; subst eb
      exact ⟨by simpa using v0, by simpa using v1⟩
end Go.Proofs.YtpjdcijphnkioaaGreatDoor
