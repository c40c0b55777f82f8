/-
  DERIVED. GIVEN WITH THE SEED: THE CARDS: each row of YtboohpkmllelgaaDoorRows.lean that lists a variable, with what it lists TIED to the program's text (the seventh form; the later family's looks); each row that meets fmt, with fmt's text TOLD by the authors' own Lean function (tested against real Go, not proved from fmt's source: count such statements apart). THE CARD IS WHAT COUNTS. Prove the row's statement (the work); the ties are given (YtboohpkmllelgaaDoorTie.lean); close each card by the builder's one call (the guide's Derived/Test/ToyasCard.lean, 'card_holds'). Laid BY PROGRAM, IN A SANDBOX (cutbox-door.mjs). By AI agents, Wed Nov 11 2026. No macro, syntax, notation, axiom, sorry.
-/
import Derived.Test.YtboohpkmllelgaaDoorRows
import GoSem.ClaimSeven
namespace Go.Proofs.YtboohpkmllelgaaDoor
namespace Rows

/-- THE TIED CARD OF 'hornbooklaw21.NetBack'. -/
def netBackCard : Claim7 := { stood := { row := netBackRow, standIns := [], harness := (true, "dc8ffae4d4568675e301657e34040cf74cf6f9bcd23c497becf652d182eb6982"), looks := true }, kinds := [], alts := [], laidByText := true, laidKinds := [.data, .data, .data], laidTests := true, laidLooks := .later }
def NetBackCardSaid : Prop := Claim7.holds Tryd.pinned (.plain (OpenSpec.ofChange netBackSpec)) netBackCard

/-- THE TIED CARD OF 'hornbooklaw21.NetTorn'. -/
def netTornCard : Claim7 := { stood := { row := netTornRow, standIns := [], harness := (true, "dc8ffae4d4568675e301657e34040cf74cf6f9bcd23c497becf652d182eb6982"), looks := true }, kinds := [], alts := [], laidByText := true, laidKinds := [.data, .data, .data], laidTests := true, laidLooks := .later }
def NetTornCardSaid : Prop := Claim7.holds Tryd.pinned (.plain (OpenSpec.ofChange netTornSpec)) netTornCard

/-- THE TIED CARD OF 'hornbooklaw21.NetOpens'. -/
def netOpensCard : Claim7 := { stood := { row := netOpensRow, standIns := [], harness := (true, "dc8ffae4d4568675e301657e34040cf74cf6f9bcd23c497becf652d182eb6982"), looks := true }, kinds := [], alts := [], laidByText := true, laidKinds := [.data, .data, .data, .sentinel, .sentinel], laidTests := true, laidLooks := .later }
def NetOpensCardSaid : Prop := Claim7.holds Tryd.pinned (.plain (OpenSpec.ofChange netOpensSpec)) netOpensCard

/-- THE TIED CARD OF 'hornbooklaw14.WalBytes'. -/
def walBytesCard : Claim7 := { stood := { row := walBytesRow, standIns := [], harness := (true, "dc8ffae4d4568675e301657e34040cf74cf6f9bcd23c497becf652d182eb6982"), looks := true }, kinds := [], alts := [], laidByText := true, laidKinds := [.data, .data, .data, .sentinel, .sentinel], laidTests := true, laidLooks := .later }
def WalBytesCardSaid : Prop := Claim7.holds Tryd.pinned (.plain (OpenSpec.ofChange walBytesSpec)) walBytesCard

/-- THE SECOND FORM's CARD OF 'hornbooklaw21.NetBack'. -/
def netBackUptoCard : Claim7 := { stood := { row := netBackUptoRow, standIns := [], harness := (true, "dc8ffae4d4568675e301657e34040cf74cf6f9bcd23c497becf652d182eb6982"), looks := true }, kinds := [], alts := [], laidByText := true, laidKinds := [.data, .data, .data], laidTests := true, laidLooks := .later }
def NetBackUptoCardSaid : Prop := Claim7.holds Tryd.pinned (.plain (OpenSpec.upto netBackSpec)) netBackUptoCard

/-- THE SECOND FORM's CARD OF 'hornbooklaw21.NetTorn'. -/
def netTornUptoCard : Claim7 := { stood := { row := netTornUptoRow, standIns := [], harness := (true, "dc8ffae4d4568675e301657e34040cf74cf6f9bcd23c497becf652d182eb6982"), looks := true }, kinds := [], alts := [], laidByText := true, laidKinds := [.data, .data, .data], laidTests := true, laidLooks := .later }
def NetTornUptoCardSaid : Prop := Claim7.holds Tryd.pinned (.plain (OpenSpec.upto netTornSpec)) netTornUptoCard

/-- THE SECOND FORM's CARD OF 'hornbooklaw21.NetOpens'. -/
def netOpensUptoCard : Claim7 := { stood := { row := netOpensUptoRow, standIns := [], harness := (true, "dc8ffae4d4568675e301657e34040cf74cf6f9bcd23c497becf652d182eb6982"), looks := true }, kinds := [], alts := [], laidByText := true, laidKinds := [.data, .data, .data, .sentinel, .sentinel], laidTests := true, laidLooks := .later }
def NetOpensUptoCardSaid : Prop := Claim7.holds Tryd.pinned (.plain (OpenSpec.upto netOpensSpec)) netOpensUptoCard

/-- THE SECOND FORM's CARD OF 'hornbooklaw14.WalBytes'. -/
def walBytesUptoCard : Claim7 := { stood := { row := walBytesUptoRow, standIns := [], harness := (true, "dc8ffae4d4568675e301657e34040cf74cf6f9bcd23c497becf652d182eb6982"), looks := true }, kinds := [], alts := [], laidByText := true, laidKinds := [.data, .data, .data, .sentinel, .sentinel], laidTests := true, laidLooks := .later }
def WalBytesUptoCardSaid : Prop := Claim7.holds Tryd.pinned (.plain (OpenSpec.upto walBytesSpec)) walBytesUptoCard
end Rows
end Go.Proofs.YtboohpkmllelgaaDoor
