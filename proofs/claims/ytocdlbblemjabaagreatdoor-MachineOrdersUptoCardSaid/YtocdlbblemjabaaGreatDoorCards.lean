/-
  DERIVED. GIVEN WITH THE SEED: THE CARDS: each row of YtocdlbblemjabaaGreatDoorRows.lean that lists a variable, with what it lists TIED to the program's text (the seventh form; the later family's looks); each row that meets fmt, with fmt's text TOLD by the authors' own Lean function (tested against real Go, not proved from fmt's source: count such statements apart). THE CARD IS WHAT COUNTS. Prove the row's statement (the work); the ties are given (YtocdlbblemjabaaGreatDoorTie.lean); close each card by the builder's one call (the guide's Derived/Test/ToyasCard.lean, 'card_holds'). Laid BY PROGRAM, IN A SANDBOX (cutbox-door.mjs). By AI agents, Wed Nov 11 2026. No macro, syntax, notation, axiom, sorry.
-/
import Derived.Test.YtocdlbblemjabaaGreatDoorRows
import GoSem.ClaimSeven
namespace Go.Proofs.YtocdlbblemjabaaGreatDoor
namespace Rows

/-- THE TIED CARD OF 'euclidlaw51.MachineHeads'. -/
def machineHeadsCard : Claim7 := { stood := { row := machineHeadsRow, standIns := [], harness := (true, "7187807a5b2de94eaf6165e5390469f5c54829c160c29cb8d40f987d22887680"), looks := true }, kinds := [], alts := [], laidByText := true, laidKinds := [.data, .data, .data], laidTests := true, laidLooks := .later }
def MachineHeadsCardSaid : Prop := Claim7.holds Tryz.pinned (.plain (OpenSpec.ofChange machineHeadsSpec)) machineHeadsCard

/-- THE TIED CARD OF 'euclidlaw51.MachineNorms'. -/
def machineNormsCard : Claim7 := { stood := { row := machineNormsRow, standIns := [], harness := (true, "7187807a5b2de94eaf6165e5390469f5c54829c160c29cb8d40f987d22887680"), looks := true }, kinds := [], alts := [], laidByText := true, laidKinds := [.data, .data, .data], laidTests := true, laidLooks := .later }
def MachineNormsCardSaid : Prop := Claim7.holds Tryz.pinned (.plain (OpenSpec.ofChange machineNormsSpec)) machineNormsCard

/-- THE TIED CARD OF 'euclidlaw51.MachineEquals'. -/
def machineEqualsCard : Claim7 := { stood := { row := machineEqualsRow, standIns := [], harness := (true, "7187807a5b2de94eaf6165e5390469f5c54829c160c29cb8d40f987d22887680"), looks := true }, kinds := [], alts := [], laidByText := true, laidKinds := [.data, .data, .data], laidTests := true, laidLooks := .later }
def MachineEqualsCardSaid : Prop := Claim7.holds Tryz.pinned (.plain (OpenSpec.ofChange machineEqualsSpec)) machineEqualsCard

/-- THE TIED CARD OF 'euclidlaw51.MachineOrders'. -/
def machineOrdersCard : Claim7 := { stood := { row := machineOrdersRow, standIns := [], harness := (true, "7187807a5b2de94eaf6165e5390469f5c54829c160c29cb8d40f987d22887680"), looks := true }, kinds := [], alts := [], laidByText := true, laidKinds := [.data, .data, .data], laidTests := true, laidLooks := .later }
def MachineOrdersCardSaid : Prop := Claim7.holds Tryz.pinned (.plain (OpenSpec.ofChange machineOrdersSpec)) machineOrdersCard

/-- THE TIED CARD OF 'euclidlaw51.MachineKeeps'. -/
def machineKeepsCard : Claim7 := { stood := { row := machineKeepsRow, standIns := [], harness := (true, "7187807a5b2de94eaf6165e5390469f5c54829c160c29cb8d40f987d22887680"), looks := true }, kinds := [], alts := [], laidByText := true, laidKinds := [.data, .data, .data], laidTests := true, laidLooks := .later }
def MachineKeepsCardSaid : Prop := Claim7.holds Tryz.pinned (.plain (OpenSpec.ofChange machineKeepsSpec)) machineKeepsCard

/-- THE SECOND FORM's CARD OF 'euclidlaw51.MachineHeads'. -/
def machineHeadsUptoCard : Claim7 := { stood := { row := machineHeadsUptoRow, standIns := [], harness := (true, "7187807a5b2de94eaf6165e5390469f5c54829c160c29cb8d40f987d22887680"), looks := true }, kinds := [], alts := [], laidByText := true, laidKinds := [.data, .data, .data], laidTests := true, laidLooks := .later }
def MachineHeadsUptoCardSaid : Prop := Claim7.holds Tryz.pinned (.plain (OpenSpec.upto machineHeadsSpec)) machineHeadsUptoCard

/-- THE SECOND FORM's CARD OF 'euclidlaw51.MachineNorms'. -/
def machineNormsUptoCard : Claim7 := { stood := { row := machineNormsUptoRow, standIns := [], harness := (true, "7187807a5b2de94eaf6165e5390469f5c54829c160c29cb8d40f987d22887680"), looks := true }, kinds := [], alts := [], laidByText := true, laidKinds := [.data, .data, .data], laidTests := true, laidLooks := .later }
def MachineNormsUptoCardSaid : Prop := Claim7.holds Tryz.pinned (.plain (OpenSpec.upto machineNormsSpec)) machineNormsUptoCard

/-- THE SECOND FORM's CARD OF 'euclidlaw51.MachineEquals'. -/
def machineEqualsUptoCard : Claim7 := { stood := { row := machineEqualsUptoRow, standIns := [], harness := (true, "7187807a5b2de94eaf6165e5390469f5c54829c160c29cb8d40f987d22887680"), looks := true }, kinds := [], alts := [], laidByText := true, laidKinds := [.data, .data, .data], laidTests := true, laidLooks := .later }
def MachineEqualsUptoCardSaid : Prop := Claim7.holds Tryz.pinned (.plain (OpenSpec.upto machineEqualsSpec)) machineEqualsUptoCard

/-- THE SECOND FORM's CARD OF 'euclidlaw51.MachineOrders'. -/
def machineOrdersUptoCard : Claim7 := { stood := { row := machineOrdersUptoRow, standIns := [], harness := (true, "7187807a5b2de94eaf6165e5390469f5c54829c160c29cb8d40f987d22887680"), looks := true }, kinds := [], alts := [], laidByText := true, laidKinds := [.data, .data, .data], laidTests := true, laidLooks := .later }
def MachineOrdersUptoCardSaid : Prop := Claim7.holds Tryz.pinned (.plain (OpenSpec.upto machineOrdersSpec)) machineOrdersUptoCard

/-- THE SECOND FORM's CARD OF 'euclidlaw51.MachineKeeps'. -/
def machineKeepsUptoCard : Claim7 := { stood := { row := machineKeepsUptoRow, standIns := [], harness := (true, "7187807a5b2de94eaf6165e5390469f5c54829c160c29cb8d40f987d22887680"), looks := true }, kinds := [], alts := [], laidByText := true, laidKinds := [.data, .data, .data], laidTests := true, laidLooks := .later }
def MachineKeepsUptoCardSaid : Prop := Claim7.holds Tryz.pinned (.plain (OpenSpec.upto machineKeepsSpec)) machineKeepsUptoCard
end Rows
end Go.Proofs.YtocdlbblemjabaaGreatDoor
