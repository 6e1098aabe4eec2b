/-
  DERIVED. GIVEN WITH THE SEED: THE CARDS: each row of YtggbeedghblakaaGreatDoorRows.lean that lists a variable, with what it lists TIED to the program's text (the seventh form; the later family's looks); each row that meets fmt, with fmt's text TOLD by the authors' own Lean function (tested against real Go, not proved from fmt's source: count such statements apart). THE CARD IS WHAT COUNTS. Prove the row's statement (the work); the ties are given (YtggbeedghblakaaGreatDoorTie.lean); close each card by the builder's one call (the guide's Derived/Test/ToyasCard.lean, 'card_holds'). Laid BY PROGRAM, IN A SANDBOX (cutbox-door.mjs). By AI agents, Wed Nov 11 2026. No macro, syntax, notation, axiom, sorry.
-/
import Derived.Test.YtggbeedghblakaaGreatDoorRows
import GoSem.ClaimSeven
namespace Go.Proofs.YtggbeedghblakaaGreatDoor
namespace Rows

/-- THE TIED CARD OF 'quidnunclaw12.ReplicaNewest'. -/
def replicaNewestCard : Claim7 := { stood := { row := replicaNewestRow, standIns := [], harness := (true, "c74e958cf70a5e8aee354ecde311a03661514fcf3ff46c39aeae8ad9f7e80e0d"), looks := false }, kinds := [], alts := [], laidByText := true, laidKinds := [.data], laidTests := true, laidLooks := .later }
def ReplicaNewestCardSaid : Prop := Claim7.holds Tryz.pinned (.plain (OpenSpec.ofChange replicaNewestSpec)) replicaNewestCard

/-- THE TIED CARD OF 'quidnunclaw12.ReplicaStamps'. -/
def replicaStampsCard : Claim7 := { stood := { row := replicaStampsRow, standIns := [], harness := (true, "c74e958cf70a5e8aee354ecde311a03661514fcf3ff46c39aeae8ad9f7e80e0d"), looks := false }, kinds := [], alts := [], laidByText := true, laidKinds := [.data], laidTests := true, laidLooks := .later }
def ReplicaStampsCardSaid : Prop := Claim7.holds Tryz.pinned (.plain (OpenSpec.ofChange replicaStampsSpec)) replicaStampsCard

/-- THE TIED CARD OF 'quidnunclaw12.ReplicaGraves'. -/
def replicaGravesCard : Claim7 := { stood := { row := replicaGravesRow, standIns := [], harness := (true, "c74e958cf70a5e8aee354ecde311a03661514fcf3ff46c39aeae8ad9f7e80e0d"), looks := false }, kinds := [], alts := [], laidByText := true, laidKinds := [.data], laidTests := true, laidLooks := .later }
def ReplicaGravesCardSaid : Prop := Claim7.holds Tryz.pinned (.plain (OpenSpec.ofChange replicaGravesSpec)) replicaGravesCard

/-- THE TIED CARD OF 'quidnunclaw12.ReplicaQuota'. -/
def replicaQuotaCard : Claim7 := { stood := { row := replicaQuotaRow, standIns := [], harness := (true, "c74e958cf70a5e8aee354ecde311a03661514fcf3ff46c39aeae8ad9f7e80e0d"), looks := false }, kinds := [], alts := [], laidByText := true, laidKinds := [.data], laidTests := true, laidLooks := .later }
def ReplicaQuotaCardSaid : Prop := Claim7.holds Tryz.pinned (.plain (OpenSpec.ofChange replicaQuotaSpec)) replicaQuotaCard

/-- THE TIED CARD OF 'quidnunclaw12.ReplicaIdle'. -/
def replicaIdleCard : Claim7 := { stood := { row := replicaIdleRow, standIns := [], harness := (true, "c74e958cf70a5e8aee354ecde311a03661514fcf3ff46c39aeae8ad9f7e80e0d"), looks := false }, kinds := [], alts := [], laidByText := true, laidKinds := [.data], laidTests := true, laidLooks := .later }
def ReplicaIdleCardSaid : Prop := Claim7.holds Tryz.pinned (.plain (OpenSpec.ofChange replicaIdleSpec)) replicaIdleCard

/-- THE TIED CARD OF 'quidnunclaw12.ReplicaPlays'. -/
def replicaPlaysCard : Claim7 := { stood := { row := replicaPlaysRow, standIns := [], harness := (true, "c74e958cf70a5e8aee354ecde311a03661514fcf3ff46c39aeae8ad9f7e80e0d"), looks := false }, kinds := [], alts := [], laidByText := true, laidKinds := [.data], laidTests := true, laidLooks := .later }
def ReplicaPlaysCardSaid : Prop := Claim7.holds Tryz.pinned (.plain (OpenSpec.ofChange replicaPlaysSpec)) replicaPlaysCard

/-- THE TIED CARD OF 'quidnunclaw12.ReplicaKeeps'. -/
def replicaKeepsCard : Claim7 := { stood := { row := replicaKeepsRow, standIns := [], harness := (true, "c74e958cf70a5e8aee354ecde311a03661514fcf3ff46c39aeae8ad9f7e80e0d"), looks := false }, kinds := [], alts := [], laidByText := true, laidKinds := [.data], laidTests := true, laidLooks := .later }
def ReplicaKeepsCardSaid : Prop := Claim7.holds Tryz.pinned (.plain (OpenSpec.ofChange replicaKeepsSpec)) replicaKeepsCard

/-- THE TIED CARD OF 'quidnunclaw12.ReplicaAsks'. -/
def replicaAsksCard : Claim7 := { stood := { row := replicaAsksRow, standIns := [], harness := (true, "c74e958cf70a5e8aee354ecde311a03661514fcf3ff46c39aeae8ad9f7e80e0d"), looks := false }, kinds := [], alts := [], laidByText := true, laidKinds := [.data], laidTests := true, laidLooks := .later }
def ReplicaAsksCardSaid : Prop := Claim7.holds Tryz.pinned (.plain (OpenSpec.ofChange replicaAsksSpec)) replicaAsksCard

/-- THE TIED CARD OF 'quidnunclaw12.ReplicaSums'. -/
def replicaSumsCard : Claim7 := { stood := { row := replicaSumsRow, standIns := [], harness := (true, "c74e958cf70a5e8aee354ecde311a03661514fcf3ff46c39aeae8ad9f7e80e0d"), looks := false }, kinds := [], alts := [], laidByText := true, laidKinds := [.data], laidTests := true, laidLooks := .later }
def ReplicaSumsCardSaid : Prop := Claim7.holds Tryz.pinned (.plain (OpenSpec.ofChange replicaSumsSpec)) replicaSumsCard

/-- THE SECOND FORM's CARD OF 'quidnunclaw12.ReplicaNewest'. -/
def replicaNewestUptoCard : Claim7 := { stood := { row := replicaNewestUptoRow, standIns := [], harness := (true, "c74e958cf70a5e8aee354ecde311a03661514fcf3ff46c39aeae8ad9f7e80e0d"), looks := false }, kinds := [], alts := [], laidByText := true, laidKinds := [.data], laidTests := true, laidLooks := .later }
def ReplicaNewestUptoCardSaid : Prop := Claim7.holds Tryz.pinned (.plain (OpenSpec.upto replicaNewestSpec)) replicaNewestUptoCard

/-- THE SECOND FORM's CARD OF 'quidnunclaw12.ReplicaStamps'. -/
def replicaStampsUptoCard : Claim7 := { stood := { row := replicaStampsUptoRow, standIns := [], harness := (true, "c74e958cf70a5e8aee354ecde311a03661514fcf3ff46c39aeae8ad9f7e80e0d"), looks := false }, kinds := [], alts := [], laidByText := true, laidKinds := [.data], laidTests := true, laidLooks := .later }
def ReplicaStampsUptoCardSaid : Prop := Claim7.holds Tryz.pinned (.plain (OpenSpec.upto replicaStampsSpec)) replicaStampsUptoCard

/-- THE SECOND FORM's CARD OF 'quidnunclaw12.ReplicaGraves'. -/
def replicaGravesUptoCard : Claim7 := { stood := { row := replicaGravesUptoRow, standIns := [], harness := (true, "c74e958cf70a5e8aee354ecde311a03661514fcf3ff46c39aeae8ad9f7e80e0d"), looks := false }, kinds := [], alts := [], laidByText := true, laidKinds := [.data], laidTests := true, laidLooks := .later }
def ReplicaGravesUptoCardSaid : Prop := Claim7.holds Tryz.pinned (.plain (OpenSpec.upto replicaGravesSpec)) replicaGravesUptoCard

/-- THE SECOND FORM's CARD OF 'quidnunclaw12.ReplicaQuota'. -/
def replicaQuotaUptoCard : Claim7 := { stood := { row := replicaQuotaUptoRow, standIns := [], harness := (true, "c74e958cf70a5e8aee354ecde311a03661514fcf3ff46c39aeae8ad9f7e80e0d"), looks := false }, kinds := [], alts := [], laidByText := true, laidKinds := [.data], laidTests := true, laidLooks := .later }
def ReplicaQuotaUptoCardSaid : Prop := Claim7.holds Tryz.pinned (.plain (OpenSpec.upto replicaQuotaSpec)) replicaQuotaUptoCard

/-- THE SECOND FORM's CARD OF 'quidnunclaw12.ReplicaIdle'. -/
def replicaIdleUptoCard : Claim7 := { stood := { row := replicaIdleUptoRow, standIns := [], harness := (true, "c74e958cf70a5e8aee354ecde311a03661514fcf3ff46c39aeae8ad9f7e80e0d"), looks := false }, kinds := [], alts := [], laidByText := true, laidKinds := [.data], laidTests := true, laidLooks := .later }
def ReplicaIdleUptoCardSaid : Prop := Claim7.holds Tryz.pinned (.plain (OpenSpec.upto replicaIdleSpec)) replicaIdleUptoCard

/-- THE SECOND FORM's CARD OF 'quidnunclaw12.ReplicaPlays'. -/
def replicaPlaysUptoCard : Claim7 := { stood := { row := replicaPlaysUptoRow, standIns := [], harness := (true, "c74e958cf70a5e8aee354ecde311a03661514fcf3ff46c39aeae8ad9f7e80e0d"), looks := false }, kinds := [], alts := [], laidByText := true, laidKinds := [.data], laidTests := true, laidLooks := .later }
def ReplicaPlaysUptoCardSaid : Prop := Claim7.holds Tryz.pinned (.plain (OpenSpec.upto replicaPlaysSpec)) replicaPlaysUptoCard

/-- THE SECOND FORM's CARD OF 'quidnunclaw12.ReplicaKeeps'. -/
def replicaKeepsUptoCard : Claim7 := { stood := { row := replicaKeepsUptoRow, standIns := [], harness := (true, "c74e958cf70a5e8aee354ecde311a03661514fcf3ff46c39aeae8ad9f7e80e0d"), looks := false }, kinds := [], alts := [], laidByText := true, laidKinds := [.data], laidTests := true, laidLooks := .later }
def ReplicaKeepsUptoCardSaid : Prop := Claim7.holds Tryz.pinned (.plain (OpenSpec.upto replicaKeepsSpec)) replicaKeepsUptoCard

/-- THE SECOND FORM's CARD OF 'quidnunclaw12.ReplicaAsks'. -/
def replicaAsksUptoCard : Claim7 := { stood := { row := replicaAsksUptoRow, standIns := [], harness := (true, "c74e958cf70a5e8aee354ecde311a03661514fcf3ff46c39aeae8ad9f7e80e0d"), looks := false }, kinds := [], alts := [], laidByText := true, laidKinds := [.data], laidTests := true, laidLooks := .later }
def ReplicaAsksUptoCardSaid : Prop := Claim7.holds Tryz.pinned (.plain (OpenSpec.upto replicaAsksSpec)) replicaAsksUptoCard

/-- THE SECOND FORM's CARD OF 'quidnunclaw12.ReplicaSums'. -/
def replicaSumsUptoCard : Claim7 := { stood := { row := replicaSumsUptoRow, standIns := [], harness := (true, "c74e958cf70a5e8aee354ecde311a03661514fcf3ff46c39aeae8ad9f7e80e0d"), looks := false }, kinds := [], alts := [], laidByText := true, laidKinds := [.data], laidTests := true, laidLooks := .later }
def ReplicaSumsUptoCardSaid : Prop := Claim7.holds Tryz.pinned (.plain (OpenSpec.upto replicaSumsSpec)) replicaSumsUptoCard
end Rows
end Go.Proofs.YtggbeedghblakaaGreatDoor
