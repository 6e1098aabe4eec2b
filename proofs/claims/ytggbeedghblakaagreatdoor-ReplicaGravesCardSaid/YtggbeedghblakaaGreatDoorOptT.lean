/- Options that come in. -/
import Derived.Test.YtggbeedghblakaaGreatDoorLaws
import Derived.Test.YtggbeedghblakaaGreatDoorNews
namespace Go.Proofs.YtggbeedghblakaaGreatDoor
open Go.RowKit Go.Qd Go.ChangeShapes Go.WideShapes Go.ChangeAt

set_option maxRecDepth 100000 in
theorem opts_of_trod {H : Type} {enc : TypeId × Value → H} {W : World} {base : Nat} {sp : Nat → Bool} {r : Reach} {b0 : Nat} {v : Value} {d : DataW H} {ps : List MemPlace}
    (hval : Value.okWide Tryz.prog W r b0 51 v) (hd : DataW.Trod enc Tryz.prog W base sp true 51 v d ps) : ∃ z : OptV, v = .agg z.cells.toArray := by
  obtain ⟨cs, rfl, _⟩ := okWide_struct Tryz.underlying51 hval
  obtain ⟨fuel, hf⟩ := hd
  obtain ⟨a, b, c, e, f, hx⟩ := ropt_cells hf
  refine ⟨⟨a, b, c, e, f⟩, ?_⟩
  have h2 : cs.toList = (OptV.mk a b c e f).cells := hx
  rw [← h2]
end Go.Proofs.YtggbeedghblakaaGreatDoor
