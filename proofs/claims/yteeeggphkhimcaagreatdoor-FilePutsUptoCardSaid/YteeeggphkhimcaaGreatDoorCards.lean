/-
  DERIVED. GIVEN WITH THE SEED: THE CARDS: each row of YteeeggphkhimcaaGreatDoorRows.lean that lists a variable, with what it lists TIED to the program's text (the seventh form; the later family's looks); each row that meets fmt, with fmt's text TOLD by the authors' own Lean function (tested against real Go, not proved from fmt's source: count such statements apart). THE CARD IS WHAT COUNTS. Prove the row's statement (the work); the ties are given (YteeeggphkhimcaaGreatDoorTie.lean); close each card by the builder's one call (the guide's Derived/Test/ToyasCard.lean, 'card_holds'). Laid BY PROGRAM, IN A SANDBOX (cutbox-door.mjs). By AI agents, Wed Nov 11 2026. No macro, syntax, notation, axiom, sorry.
-/
import Derived.Test.YteeeggphkhimcaaGreatDoorRows
import GoSem.ClaimSeven
namespace Go.Proofs.YteeeggphkhimcaaGreatDoor
namespace Rows

/-- THE TIED CARD OF 'freightlaw6.FileKeeps'. -/
def fileKeepsCard : Claim7 := { stood := { row := fileKeepsRow, standIns := [], harness := (true, "e2fd597f68339d58e2cd7402b2b16b88dd1d465b5a0cd4c739323f2d73a7ef6c"), looks := true }, kinds := [], alts := [], laidByText := true, laidKinds := [.handle], laidTests := true, laidLooks := .later }
def FileKeepsCardSaid : Prop := Claim7.holds Tryz.pinned (.plain (OpenSpec.ofChange fileKeepsSpec)) fileKeepsCard

/-- THE TIED CARD OF 'freightlaw9.ReachNeeds'. -/
def reachNeedsCard : Claim7 := { stood := { row := reachNeedsRow, standIns := [], harness := (true, "e2fd597f68339d58e2cd7402b2b16b88dd1d465b5a0cd4c739323f2d73a7ef6c"), looks := true }, kinds := [], alts := [], laidByText := true, laidKinds := [.data, .handle, .pinned], laidTests := true, laidLooks := .later }
def ReachNeedsCardSaid : Prop := Claim7.holds Tryz.pinned (.plain (OpenSpec.ofChange reachNeedsSpec)) reachNeedsCard

/-- THE TIED CARD OF 'freightlaw9.ReachJoins'. -/
def reachJoinsCard : Claim7 := { stood := { row := reachJoinsRow, standIns := [], harness := (true, "e2fd597f68339d58e2cd7402b2b16b88dd1d465b5a0cd4c739323f2d73a7ef6c"), looks := true }, kinds := [], alts := [], laidByText := true, laidKinds := [.data, .handle, .pinned], laidTests := true, laidLooks := .later }
def ReachJoinsCardSaid : Prop := Claim7.holds Tryz.pinned (.plain (OpenSpec.ofChange reachJoinsSpec)) reachJoinsCard

/-- THE TIED CARD OF 'freightlaw9.ReachLacks'. -/
def reachLacksCard : Claim7 := { stood := { row := reachLacksRow, standIns := [], harness := (true, "e2fd597f68339d58e2cd7402b2b16b88dd1d465b5a0cd4c739323f2d73a7ef6c"), looks := true }, kinds := [], alts := [], laidByText := true, laidKinds := [.data, .handle, .pinned], laidTests := true, laidLooks := .later }
def ReachLacksCardSaid : Prop := Claim7.holds Tryz.pinned (.plain (OpenSpec.ofChange reachLacksSpec)) reachLacksCard

/-- THE TIED CARD OF 'freightlaw9.ReachMaps'. -/
def reachMapsCard : Claim7 := { stood := { row := reachMapsRow, standIns := [], harness := (true, "e2fd597f68339d58e2cd7402b2b16b88dd1d465b5a0cd4c739323f2d73a7ef6c"), looks := true }, kinds := [], alts := [], laidByText := true, laidKinds := [.data, .handle, .pinned], laidTests := true, laidLooks := .later }
def ReachMapsCardSaid : Prop := Claim7.holds Tryz.pinned (.plain (OpenSpec.ofChange reachMapsSpec)) reachMapsCard

/-- THE TIED CARD OF 'freightlaw9.ReachCloses'. -/
def reachClosesCard : Claim7 := { stood := { row := reachClosesRow, standIns := [], harness := (true, "e2fd597f68339d58e2cd7402b2b16b88dd1d465b5a0cd4c739323f2d73a7ef6c"), looks := true }, kinds := [], alts := [], laidByText := true, laidKinds := [.data, .handle, .pinned], laidTests := true, laidLooks := .later }
def ReachClosesCardSaid : Prop := Claim7.holds Tryz.pinned (.plain (OpenSpec.ofChange reachClosesSpec)) reachClosesCard

/-- THE TIED CARD OF 'freightlaw9.ReachOrders'. -/
def reachOrdersCard : Claim7 := { stood := { row := reachOrdersRow, standIns := [], harness := (true, "e2fd597f68339d58e2cd7402b2b16b88dd1d465b5a0cd4c739323f2d73a7ef6c"), looks := true }, kinds := [], alts := [], laidByText := true, laidKinds := [.data, .handle, .pinned], laidTests := true, laidLooks := .later }
def ReachOrdersCardSaid : Prop := Claim7.holds Tryz.pinned (.plain (OpenSpec.ofChange reachOrdersSpec)) reachOrdersCard

/-- THE TIED CARD OF 'freightlaw9.ReachKeeps'. -/
def reachKeepsCard : Claim7 := { stood := { row := reachKeepsRow, standIns := [], harness := (true, "e2fd597f68339d58e2cd7402b2b16b88dd1d465b5a0cd4c739323f2d73a7ef6c"), looks := true }, kinds := [], alts := [], laidByText := true, laidKinds := [.data, .handle, .pinned], laidTests := true, laidLooks := .later }
def ReachKeepsCardSaid : Prop := Claim7.holds Tryz.pinned (.plain (OpenSpec.ofChange reachKeepsSpec)) reachKeepsCard

/-- THE TIED CARD OF 'freightlaw6.FileNothing'. -/
def fileNothingCard : Claim7 := { stood := { row := fileNothingRow, standIns := [], harness := (true, "e2fd597f68339d58e2cd7402b2b16b88dd1d465b5a0cd4c739323f2d73a7ef6c"), looks := true }, kinds := [], alts := [], laidByText := true, laidKinds := [.handle], laidTests := true, laidLooks := .later }
def FileNothingCardSaid : Prop := Claim7.holds Tryz.pinned (.plain (OpenSpec.ofChange fileNothingSpec)) fileNothingCard

/-- THE TIED CARD OF 'freightlaw6.FilePuts'. -/
def filePutsCard : Claim7 := { stood := { row := filePutsRow, standIns := [], harness := (true, "e2fd597f68339d58e2cd7402b2b16b88dd1d465b5a0cd4c739323f2d73a7ef6c"), looks := true }, kinds := [], alts := [], laidByText := true, laidKinds := [.handle], laidTests := true, laidLooks := .later }
def FilePutsCardSaid : Prop := Claim7.holds Tryz.pinned (.plain (OpenSpec.ofChange filePutsSpec)) filePutsCard

/-- THE TIED CARD OF 'freightlaw6.FileDrops'. -/
def fileDropsCard : Claim7 := { stood := { row := fileDropsRow, standIns := [], harness := (true, "e2fd597f68339d58e2cd7402b2b16b88dd1d465b5a0cd4c739323f2d73a7ef6c"), looks := true }, kinds := [], alts := [], laidByText := true, laidKinds := [.handle], laidTests := true, laidLooks := .later }
def FileDropsCardSaid : Prop := Claim7.holds Tryz.pinned (.plain (OpenSpec.ofChange fileDropsSpec)) fileDropsCard

/-- THE TIED CARD OF 'freightlaw6.FileCut'. -/
def fileCutCard : Claim7 := { stood := { row := fileCutRow, standIns := [], harness := (true, "e2fd597f68339d58e2cd7402b2b16b88dd1d465b5a0cd4c739323f2d73a7ef6c"), looks := true }, kinds := [], alts := [], laidByText := true, laidKinds := [.handle], laidTests := true, laidLooks := .later }
def FileCutCardSaid : Prop := Claim7.holds Tryz.pinned (.plain (OpenSpec.ofChange fileCutSpec)) fileCutCard

/-- THE TIED CARD OF 'freightlaw6.FileCleans'. -/
def fileCleansCard : Claim7 := { stood := { row := fileCleansRow, standIns := [], harness := (true, "e2fd597f68339d58e2cd7402b2b16b88dd1d465b5a0cd4c739323f2d73a7ef6c"), looks := true }, kinds := [], alts := [], laidByText := true, laidKinds := [.handle], laidTests := true, laidLooks := .later }
def FileCleansCardSaid : Prop := Claim7.holds Tryz.pinned (.plain (OpenSpec.ofChange fileCleansSpec)) fileCleansCard

/-- THE TIED CARD OF 'freightlaw6.FilePlays'. -/
def filePlaysCard : Claim7 := { stood := { row := filePlaysRow, standIns := [], harness := (true, "e2fd597f68339d58e2cd7402b2b16b88dd1d465b5a0cd4c739323f2d73a7ef6c"), looks := true }, kinds := [], alts := [], laidByText := true, laidKinds := [.handle], laidTests := true, laidLooks := .later }
def FilePlaysCardSaid : Prop := Claim7.holds Tryz.pinned (.plain (OpenSpec.ofChange filePlaysSpec)) filePlaysCard

/-- THE SECOND FORM's CARD OF 'freightlaw6.FileKeeps'. -/
def fileKeepsUptoCard : Claim7 := { stood := { row := fileKeepsUptoRow, standIns := [], harness := (true, "e2fd597f68339d58e2cd7402b2b16b88dd1d465b5a0cd4c739323f2d73a7ef6c"), looks := true }, kinds := [], alts := [], laidByText := true, laidKinds := [.handle], laidTests := true, laidLooks := .later }
def FileKeepsUptoCardSaid : Prop := Claim7.holds Tryz.pinned (.plain (OpenSpec.upto fileKeepsSpec)) fileKeepsUptoCard

/-- THE SECOND FORM's CARD OF 'freightlaw9.ReachNeeds'. -/
def reachNeedsUptoCard : Claim7 := { stood := { row := reachNeedsUptoRow, standIns := [], harness := (true, "e2fd597f68339d58e2cd7402b2b16b88dd1d465b5a0cd4c739323f2d73a7ef6c"), looks := true }, kinds := [], alts := [], laidByText := true, laidKinds := [.data, .handle, .pinned], laidTests := true, laidLooks := .later }
def ReachNeedsUptoCardSaid : Prop := Claim7.holds Tryz.pinned (.plain (OpenSpec.upto reachNeedsSpec)) reachNeedsUptoCard

/-- THE SECOND FORM's CARD OF 'freightlaw9.ReachJoins'. -/
def reachJoinsUptoCard : Claim7 := { stood := { row := reachJoinsUptoRow, standIns := [], harness := (true, "e2fd597f68339d58e2cd7402b2b16b88dd1d465b5a0cd4c739323f2d73a7ef6c"), looks := true }, kinds := [], alts := [], laidByText := true, laidKinds := [.data, .handle, .pinned], laidTests := true, laidLooks := .later }
def ReachJoinsUptoCardSaid : Prop := Claim7.holds Tryz.pinned (.plain (OpenSpec.upto reachJoinsSpec)) reachJoinsUptoCard

/-- THE SECOND FORM's CARD OF 'freightlaw9.ReachLacks'. -/
def reachLacksUptoCard : Claim7 := { stood := { row := reachLacksUptoRow, standIns := [], harness := (true, "e2fd597f68339d58e2cd7402b2b16b88dd1d465b5a0cd4c739323f2d73a7ef6c"), looks := true }, kinds := [], alts := [], laidByText := true, laidKinds := [.data, .handle, .pinned], laidTests := true, laidLooks := .later }
def ReachLacksUptoCardSaid : Prop := Claim7.holds Tryz.pinned (.plain (OpenSpec.upto reachLacksSpec)) reachLacksUptoCard

/-- THE SECOND FORM's CARD OF 'freightlaw9.ReachMaps'. -/
def reachMapsUptoCard : Claim7 := { stood := { row := reachMapsUptoRow, standIns := [], harness := (true, "e2fd597f68339d58e2cd7402b2b16b88dd1d465b5a0cd4c739323f2d73a7ef6c"), looks := true }, kinds := [], alts := [], laidByText := true, laidKinds := [.data, .handle, .pinned], laidTests := true, laidLooks := .later }
def ReachMapsUptoCardSaid : Prop := Claim7.holds Tryz.pinned (.plain (OpenSpec.upto reachMapsSpec)) reachMapsUptoCard

/-- THE SECOND FORM's CARD OF 'freightlaw9.ReachCloses'. -/
def reachClosesUptoCard : Claim7 := { stood := { row := reachClosesUptoRow, standIns := [], harness := (true, "e2fd597f68339d58e2cd7402b2b16b88dd1d465b5a0cd4c739323f2d73a7ef6c"), looks := true }, kinds := [], alts := [], laidByText := true, laidKinds := [.data, .handle, .pinned], laidTests := true, laidLooks := .later }
def ReachClosesUptoCardSaid : Prop := Claim7.holds Tryz.pinned (.plain (OpenSpec.upto reachClosesSpec)) reachClosesUptoCard

/-- THE SECOND FORM's CARD OF 'freightlaw9.ReachOrders'. -/
def reachOrdersUptoCard : Claim7 := { stood := { row := reachOrdersUptoRow, standIns := [], harness := (true, "e2fd597f68339d58e2cd7402b2b16b88dd1d465b5a0cd4c739323f2d73a7ef6c"), looks := true }, kinds := [], alts := [], laidByText := true, laidKinds := [.data, .handle, .pinned], laidTests := true, laidLooks := .later }
def ReachOrdersUptoCardSaid : Prop := Claim7.holds Tryz.pinned (.plain (OpenSpec.upto reachOrdersSpec)) reachOrdersUptoCard

/-- THE SECOND FORM's CARD OF 'freightlaw9.ReachKeeps'. -/
def reachKeepsUptoCard : Claim7 := { stood := { row := reachKeepsUptoRow, standIns := [], harness := (true, "e2fd597f68339d58e2cd7402b2b16b88dd1d465b5a0cd4c739323f2d73a7ef6c"), looks := true }, kinds := [], alts := [], laidByText := true, laidKinds := [.data, .handle, .pinned], laidTests := true, laidLooks := .later }
def ReachKeepsUptoCardSaid : Prop := Claim7.holds Tryz.pinned (.plain (OpenSpec.upto reachKeepsSpec)) reachKeepsUptoCard

/-- THE SECOND FORM's CARD OF 'freightlaw6.FileNothing'. -/
def fileNothingUptoCard : Claim7 := { stood := { row := fileNothingUptoRow, standIns := [], harness := (true, "e2fd597f68339d58e2cd7402b2b16b88dd1d465b5a0cd4c739323f2d73a7ef6c"), looks := true }, kinds := [], alts := [], laidByText := true, laidKinds := [.handle], laidTests := true, laidLooks := .later }
def FileNothingUptoCardSaid : Prop := Claim7.holds Tryz.pinned (.plain (OpenSpec.upto fileNothingSpec)) fileNothingUptoCard

/-- THE SECOND FORM's CARD OF 'freightlaw6.FilePuts'. -/
def filePutsUptoCard : Claim7 := { stood := { row := filePutsUptoRow, standIns := [], harness := (true, "e2fd597f68339d58e2cd7402b2b16b88dd1d465b5a0cd4c739323f2d73a7ef6c"), looks := true }, kinds := [], alts := [], laidByText := true, laidKinds := [.handle], laidTests := true, laidLooks := .later }
def FilePutsUptoCardSaid : Prop := Claim7.holds Tryz.pinned (.plain (OpenSpec.upto filePutsSpec)) filePutsUptoCard

/-- THE SECOND FORM's CARD OF 'freightlaw6.FileDrops'. -/
def fileDropsUptoCard : Claim7 := { stood := { row := fileDropsUptoRow, standIns := [], harness := (true, "e2fd597f68339d58e2cd7402b2b16b88dd1d465b5a0cd4c739323f2d73a7ef6c"), looks := true }, kinds := [], alts := [], laidByText := true, laidKinds := [.handle], laidTests := true, laidLooks := .later }
def FileDropsUptoCardSaid : Prop := Claim7.holds Tryz.pinned (.plain (OpenSpec.upto fileDropsSpec)) fileDropsUptoCard

/-- THE SECOND FORM's CARD OF 'freightlaw6.FileCut'. -/
def fileCutUptoCard : Claim7 := { stood := { row := fileCutUptoRow, standIns := [], harness := (true, "e2fd597f68339d58e2cd7402b2b16b88dd1d465b5a0cd4c739323f2d73a7ef6c"), looks := true }, kinds := [], alts := [], laidByText := true, laidKinds := [.handle], laidTests := true, laidLooks := .later }
def FileCutUptoCardSaid : Prop := Claim7.holds Tryz.pinned (.plain (OpenSpec.upto fileCutSpec)) fileCutUptoCard

/-- THE SECOND FORM's CARD OF 'freightlaw6.FileCleans'. -/
def fileCleansUptoCard : Claim7 := { stood := { row := fileCleansUptoRow, standIns := [], harness := (true, "e2fd597f68339d58e2cd7402b2b16b88dd1d465b5a0cd4c739323f2d73a7ef6c"), looks := true }, kinds := [], alts := [], laidByText := true, laidKinds := [.handle], laidTests := true, laidLooks := .later }
def FileCleansUptoCardSaid : Prop := Claim7.holds Tryz.pinned (.plain (OpenSpec.upto fileCleansSpec)) fileCleansUptoCard

/-- THE SECOND FORM's CARD OF 'freightlaw6.FilePlays'. -/
def filePlaysUptoCard : Claim7 := { stood := { row := filePlaysUptoRow, standIns := [], harness := (true, "e2fd597f68339d58e2cd7402b2b16b88dd1d465b5a0cd4c739323f2d73a7ef6c"), looks := true }, kinds := [], alts := [], laidByText := true, laidKinds := [.handle], laidTests := true, laidLooks := .later }
def FilePlaysUptoCardSaid : Prop := Claim7.holds Tryz.pinned (.plain (OpenSpec.upto filePlaysSpec)) filePlaysUptoCard
end Rows
end Go.Proofs.YteeeggphkhimcaaGreatDoor
