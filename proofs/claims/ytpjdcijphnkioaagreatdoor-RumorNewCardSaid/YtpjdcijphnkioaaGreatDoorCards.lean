/-
  DERIVED. GIVEN WITH THE SEED: THE CARDS: each row of YtpjdcijphnkioaaGreatDoorRows.lean that lists a variable, with what it lists TIED to the program's text (the seventh form; the later family's looks); each row that meets fmt, with fmt's text TOLD by the authors' own Lean function (tested against real Go, not proved from fmt's source: count such statements apart). THE CARD IS WHAT COUNTS. Prove the row's statement (the work); the ties are given (YtpjdcijphnkioaaGreatDoorTie.lean); close each card by the builder's one call (the guide's Derived/Test/ToyasCard.lean, 'card_holds'). Laid BY PROGRAM, IN A SANDBOX (cutbox-door.mjs). By AI agents, Wed Nov 11 2026. No macro, syntax, notation, axiom, sorry.
-/
import Derived.Test.YtpjdcijphnkioaaGreatDoorRows
import GoSem.ClaimSeven
namespace Go.Proofs.YtpjdcijphnkioaaGreatDoor
namespace Rows

/-- THE TIED CARD OF 'quidnunclaw20.RumorNew'. -/
def rumorNewCard : Claim7 := { stood := { row := rumorNewRow, standIns := [], harness := (true, "70424ec5d0d102bea5540a684b4f3a166449932dc77e121155bc91f26b6e8261"), looks := false }, kinds := [], alts := [], laidByText := true, laidKinds := [.data], laidTests := true, laidLooks := .later }
def RumorNewCardSaid : Prop := Claim7.holds Tryz.pinned (.plain (OpenSpec.ofChange rumorNewSpec)) rumorNewCard

/-- THE SECOND FORM's CARD OF 'quidnunclaw20.RumorNew'. -/
def rumorNewUptoCard : Claim7 := { stood := { row := rumorNewUptoRow, standIns := [], harness := (true, "70424ec5d0d102bea5540a684b4f3a166449932dc77e121155bc91f26b6e8261"), looks := false }, kinds := [], alts := [], laidByText := true, laidKinds := [.data], laidTests := true, laidLooks := .later }
def RumorNewUptoCardSaid : Prop := Claim7.holds Tryz.pinned (.plain (OpenSpec.upto rumorNewSpec)) rumorNewUptoCard
end Rows
end Go.Proofs.YtpjdcijphnkioaaGreatDoor
