/-
  DERIVED. GIVEN WITH THE SEED: THE CARDS: each row of YtojfjbbggpfijaaGreatDoorRows.lean that lists a variable, with what it lists TIED to the program's text (the seventh form; the later family's looks); each row that meets fmt, with fmt's text TOLD by the authors' own Lean function (tested against real Go, not proved from fmt's source: count such statements apart). THE CARD IS WHAT COUNTS. Prove the row's statement (the work); the ties are given (YtojfjbbggpfijaaGreatDoorTie.lean); close each card by the builder's one call (the guide's Derived/Test/ToyasCard.lean, 'card_holds'). Laid BY PROGRAM, IN A SANDBOX (cutbox-door.mjs). By AI agents, Wed Nov 11 2026. No macro, syntax, notation, axiom, sorry.
-/
import Derived.Test.YtojfjbbggpfijaaGreatDoorRows
import GoSem.ClaimSeven
namespace Go.Proofs.YtojfjbbggpfijaaGreatDoor
namespace Rows

/-- THE TIED CARD OF 'quidnunclaw20.RumorEchoes'. -/
def rumorEchoesCard : Claim7 := { stood := { row := rumorEchoesRow, standIns := [], harness := (true, "e3c2843e4e35791ec217e117a80587deb5be473a476b10178f57d28c0574050f"), looks := false }, kinds := [], alts := [], laidByText := true, laidKinds := [.data], laidTests := true, laidLooks := .later }
def RumorEchoesCardSaid : Prop := Claim7.holds Tryz.pinned (.plain (OpenSpec.ofChange rumorEchoesSpec)) rumorEchoesCard

/-- THE TIED CARD OF 'quidnunclaw20.RumorDies'. -/
def rumorDiesCard : Claim7 := { stood := { row := rumorDiesRow, standIns := [], harness := (true, "e3c2843e4e35791ec217e117a80587deb5be473a476b10178f57d28c0574050f"), looks := false }, kinds := [], alts := [], laidByText := true, laidKinds := [.data], laidTests := true, laidLooks := .later }
def RumorDiesCardSaid : Prop := Claim7.holds Tryz.pinned (.plain (OpenSpec.ofChange rumorDiesSpec)) rumorDiesCard

/-- THE TIED CARD OF 'quidnunclaw20.RumorCaps'. -/
def rumorCapsCard : Claim7 := { stood := { row := rumorCapsRow, standIns := [], harness := (true, "e3c2843e4e35791ec217e117a80587deb5be473a476b10178f57d28c0574050f"), looks := false }, kinds := [], alts := [], laidByText := true, laidKinds := [.data], laidTests := true, laidLooks := .later }
def RumorCapsCardSaid : Prop := Claim7.holds Tryz.pinned (.plain (OpenSpec.ofChange rumorCapsSpec)) rumorCapsCard

/-- THE SECOND FORM's CARD OF 'quidnunclaw20.RumorEchoes'. -/
def rumorEchoesUptoCard : Claim7 := { stood := { row := rumorEchoesUptoRow, standIns := [], harness := (true, "e3c2843e4e35791ec217e117a80587deb5be473a476b10178f57d28c0574050f"), looks := false }, kinds := [], alts := [], laidByText := true, laidKinds := [.data], laidTests := true, laidLooks := .later }
def RumorEchoesUptoCardSaid : Prop := Claim7.holds Tryz.pinned (.plain (OpenSpec.upto rumorEchoesSpec)) rumorEchoesUptoCard

/-- THE SECOND FORM's CARD OF 'quidnunclaw20.RumorDies'. -/
def rumorDiesUptoCard : Claim7 := { stood := { row := rumorDiesUptoRow, standIns := [], harness := (true, "e3c2843e4e35791ec217e117a80587deb5be473a476b10178f57d28c0574050f"), looks := false }, kinds := [], alts := [], laidByText := true, laidKinds := [.data], laidTests := true, laidLooks := .later }
def RumorDiesUptoCardSaid : Prop := Claim7.holds Tryz.pinned (.plain (OpenSpec.upto rumorDiesSpec)) rumorDiesUptoCard

/-- THE SECOND FORM's CARD OF 'quidnunclaw20.RumorCaps'. -/
def rumorCapsUptoCard : Claim7 := { stood := { row := rumorCapsUptoRow, standIns := [], harness := (true, "e3c2843e4e35791ec217e117a80587deb5be473a476b10178f57d28c0574050f"), looks := false }, kinds := [], alts := [], laidByText := true, laidKinds := [.data], laidTests := true, laidLooks := .later }
def RumorCapsUptoCardSaid : Prop := Claim7.holds Tryz.pinned (.plain (OpenSpec.upto rumorCapsSpec)) rumorCapsUptoCard
end Rows
end Go.Proofs.YtojfjbbggpfijaaGreatDoor
