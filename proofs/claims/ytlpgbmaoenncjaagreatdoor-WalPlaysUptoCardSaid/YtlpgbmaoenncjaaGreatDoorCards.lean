/-
  DERIVED. GIVEN WITH THE SEED: THE CARDS: each row of YtlpgbmaoenncjaaGreatDoorRows.lean that lists a variable, with what it lists TIED to the program's text (the seventh form; the later family's looks); each row that meets fmt, with fmt's text TOLD by the authors' own Lean function (tested against real Go, not proved from fmt's source: count such statements apart). THE CARD IS WHAT COUNTS. Prove the row's statement (the work); the ties are given (YtlpgbmaoenncjaaGreatDoorTie.lean); close each card by the builder's one call (the guide's Derived/Test/ToyasCard.lean, 'card_holds'). Laid BY PROGRAM, IN A SANDBOX (cutbox-door.mjs). By AI agents, Wed Nov 11 2026. No macro, syntax, notation, axiom, sorry.
-/
import Derived.Test.YtlpgbmaoenncjaaGreatDoorRows
import GoSem.ClaimSeven
namespace Go.Proofs.YtlpgbmaoenncjaaGreatDoor
namespace Rows

/-- THE TIED CARD OF 'hornbooklaw21.NetBytes'. -/
def netBytesCard : Claim7 := { stood := { row := netBytesRow, standIns := [], harness := (true, "3e39369329ee734abf07cac5db80b99a5f1b36eaab3e432f1878bfbe176f4550"), looks := true }, kinds := [], alts := [], laidByText := true, laidKinds := [.data, .data, .data, .sentinel, .sentinel], laidTests := true, laidLooks := .later }
def NetBytesCardSaid : Prop := Claim7.holds Tryz.pinned (.plain (OpenSpec.ofChange netBytesSpec)) netBytesCard

/-- THE TIED CARD OF 'hornbooklaw14.WalSaves'. -/
def walSavesCard : Claim7 := { stood := { row := walSavesRow, standIns := [], harness := (true, "3e39369329ee734abf07cac5db80b99a5f1b36eaab3e432f1878bfbe176f4550"), looks := true }, kinds := [], alts := [], laidByText := true, laidKinds := [.data, .data, .data], laidTests := true, laidLooks := .later }
def WalSavesCardSaid : Prop := Claim7.holds Tryz.pinned (.plain (OpenSpec.ofChange walSavesSpec)) walSavesCard

/-- THE TIED CARD OF 'hornbooklaw14.WalBack'. -/
def walBackCard : Claim7 := { stood := { row := walBackRow, standIns := [], harness := (true, "3e39369329ee734abf07cac5db80b99a5f1b36eaab3e432f1878bfbe176f4550"), looks := true }, kinds := [], alts := [], laidByText := true, laidKinds := [.data, .data, .data], laidTests := true, laidLooks := .later }
def WalBackCardSaid : Prop := Claim7.holds Tryz.pinned (.plain (OpenSpec.ofChange walBackSpec)) walBackCard

/-- THE TIED CARD OF 'hornbooklaw14.WalCrashes'. -/
def walCrashesCard : Claim7 := { stood := { row := walCrashesRow, standIns := [], harness := (true, "3e39369329ee734abf07cac5db80b99a5f1b36eaab3e432f1878bfbe176f4550"), looks := true }, kinds := [], alts := [], laidByText := true, laidKinds := [.data, .data, .data], laidTests := true, laidLooks := .later }
def WalCrashesCardSaid : Prop := Claim7.holds Tryz.pinned (.plain (OpenSpec.ofChange walCrashesSpec)) walCrashesCard

/-- THE TIED CARD OF 'hornbooklaw14.WalPlays'. -/
def walPlaysCard : Claim7 := { stood := { row := walPlaysRow, standIns := [], harness := (true, "3e39369329ee734abf07cac5db80b99a5f1b36eaab3e432f1878bfbe176f4550"), looks := true }, kinds := [], alts := [], laidByText := true, laidKinds := [.data, .data, .data], laidTests := true, laidLooks := .later }
def WalPlaysCardSaid : Prop := Claim7.holds Tryz.pinned (.plain (OpenSpec.ofChange walPlaysSpec)) walPlaysCard

/-- THE TIED CARD OF 'hornbooklaw14.WalOpens'. -/
def walOpensCard : Claim7 := { stood := { row := walOpensRow, standIns := [], harness := (true, "3e39369329ee734abf07cac5db80b99a5f1b36eaab3e432f1878bfbe176f4550"), looks := true }, kinds := [], alts := [], laidByText := true, laidKinds := [.data, .data, .data, .sentinel, .sentinel], laidTests := true, laidLooks := .later }
def WalOpensCardSaid : Prop := Claim7.holds Tryz.pinned (.plain (OpenSpec.ofChange walOpensSpec)) walOpensCard

/-- THE SECOND FORM's CARD OF 'hornbooklaw21.NetBytes'. -/
def netBytesUptoCard : Claim7 := { stood := { row := netBytesUptoRow, standIns := [], harness := (true, "3e39369329ee734abf07cac5db80b99a5f1b36eaab3e432f1878bfbe176f4550"), looks := true }, kinds := [], alts := [], laidByText := true, laidKinds := [.data, .data, .data, .sentinel, .sentinel], laidTests := true, laidLooks := .later }
def NetBytesUptoCardSaid : Prop := Claim7.holds Tryz.pinned (.plain (OpenSpec.upto netBytesSpec)) netBytesUptoCard

/-- THE SECOND FORM's CARD OF 'hornbooklaw14.WalSaves'. -/
def walSavesUptoCard : Claim7 := { stood := { row := walSavesUptoRow, standIns := [], harness := (true, "3e39369329ee734abf07cac5db80b99a5f1b36eaab3e432f1878bfbe176f4550"), looks := true }, kinds := [], alts := [], laidByText := true, laidKinds := [.data, .data, .data], laidTests := true, laidLooks := .later }
def WalSavesUptoCardSaid : Prop := Claim7.holds Tryz.pinned (.plain (OpenSpec.upto walSavesSpec)) walSavesUptoCard

/-- THE SECOND FORM's CARD OF 'hornbooklaw14.WalBack'. -/
def walBackUptoCard : Claim7 := { stood := { row := walBackUptoRow, standIns := [], harness := (true, "3e39369329ee734abf07cac5db80b99a5f1b36eaab3e432f1878bfbe176f4550"), looks := true }, kinds := [], alts := [], laidByText := true, laidKinds := [.data, .data, .data], laidTests := true, laidLooks := .later }
def WalBackUptoCardSaid : Prop := Claim7.holds Tryz.pinned (.plain (OpenSpec.upto walBackSpec)) walBackUptoCard

/-- THE SECOND FORM's CARD OF 'hornbooklaw14.WalCrashes'. -/
def walCrashesUptoCard : Claim7 := { stood := { row := walCrashesUptoRow, standIns := [], harness := (true, "3e39369329ee734abf07cac5db80b99a5f1b36eaab3e432f1878bfbe176f4550"), looks := true }, kinds := [], alts := [], laidByText := true, laidKinds := [.data, .data, .data], laidTests := true, laidLooks := .later }
def WalCrashesUptoCardSaid : Prop := Claim7.holds Tryz.pinned (.plain (OpenSpec.upto walCrashesSpec)) walCrashesUptoCard

/-- THE SECOND FORM's CARD OF 'hornbooklaw14.WalPlays'. -/
def walPlaysUptoCard : Claim7 := { stood := { row := walPlaysUptoRow, standIns := [], harness := (true, "3e39369329ee734abf07cac5db80b99a5f1b36eaab3e432f1878bfbe176f4550"), looks := true }, kinds := [], alts := [], laidByText := true, laidKinds := [.data, .data, .data], laidTests := true, laidLooks := .later }
def WalPlaysUptoCardSaid : Prop := Claim7.holds Tryz.pinned (.plain (OpenSpec.upto walPlaysSpec)) walPlaysUptoCard

/-- THE SECOND FORM's CARD OF 'hornbooklaw14.WalOpens'. -/
def walOpensUptoCard : Claim7 := { stood := { row := walOpensUptoRow, standIns := [], harness := (true, "3e39369329ee734abf07cac5db80b99a5f1b36eaab3e432f1878bfbe176f4550"), looks := true }, kinds := [], alts := [], laidByText := true, laidKinds := [.data, .data, .data, .sentinel, .sentinel], laidTests := true, laidLooks := .later }
def WalOpensUptoCardSaid : Prop := Claim7.holds Tryz.pinned (.plain (OpenSpec.upto walOpensSpec)) walOpensUptoCard
end Rows
end Go.Proofs.YtlpgbmaoenncjaaGreatDoor
