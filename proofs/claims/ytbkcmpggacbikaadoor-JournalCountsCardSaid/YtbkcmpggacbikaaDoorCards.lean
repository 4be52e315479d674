/-
  DERIVED. GIVEN WITH THE SEED: THE CARDS: each row of YtbkcmpggacbikaaDoorRows.lean that lists a variable, with what it lists TIED to the program's text (the seventh form; the later family's looks); each row that meets fmt, with fmt's text TOLD by the authors' own Lean function (tested against real Go, not proved from fmt's source: count such statements apart). THE CARD IS WHAT COUNTS. Prove the row's statement (the work); the ties are given (YtbkcmpggacbikaaDoorTie.lean); close each card by the builder's one call (the guide's Derived/Test/ToyasCard.lean, 'card_holds'). Laid BY PROGRAM, IN A SANDBOX (cutbox-door.mjs). By AI agents, Wed Nov 11 2026. No macro, syntax, notation, axiom, sorry.
-/
import Derived.Test.YtbkcmpggacbikaaDoorRows
import GoSem.ClaimSeven
namespace Go.Proofs.YtbkcmpggacbikaaDoor
namespace Rows

/-- THE TIED CARD OF 'tollbarlaw32.JournalRest'. -/
def journalRestCard : Claim7 := { stood := { row := journalRestRow, standIns := [], harness := (true, "303963f5de53601226c0fd9b9f158fb044489a9c87aedbf88408e3aa31b1f40e"), looks := false }, kinds := [], alts := [], laidByText := true, laidKinds := [.data], laidTests := true, laidLooks := .later }
def JournalRestCardSaid : Prop := Claim7.holds Tryd.pinned (.plain (OpenSpec.ofChange journalRestSpec)) journalRestCard

/-- THE TIED CARD OF 'tollbarlaw32.JournalDoes'. -/
def journalDoesCard : Claim7 := { stood := { row := journalDoesRow, standIns := [], harness := (true, "303963f5de53601226c0fd9b9f158fb044489a9c87aedbf88408e3aa31b1f40e"), looks := false }, kinds := [], alts := [], laidByText := true, laidKinds := [.data], laidTests := true, laidLooks := .later }
def JournalDoesCardSaid : Prop := Claim7.holds Tryd.pinned (.plain (OpenSpec.ofChange journalDoesSpec)) journalDoesCard

/-- THE TIED CARD OF 'tollbarlaw32.JournalSafe'. -/
def journalSafeCard : Claim7 := { stood := { row := journalSafeRow, standIns := [], harness := (true, "303963f5de53601226c0fd9b9f158fb044489a9c87aedbf88408e3aa31b1f40e"), looks := false }, kinds := [], alts := [], laidByText := true, laidKinds := [.data], laidTests := true, laidLooks := .later }
def JournalSafeCardSaid : Prop := Claim7.holds Tryd.pinned (.plain (OpenSpec.ofChange journalSafeSpec)) journalSafeCard

/-- THE TIED CARD OF 'tollbarlaw32.JournalCounts'. -/
def journalCountsCard : Claim7 := { stood := { row := journalCountsRow, standIns := [], harness := (true, "303963f5de53601226c0fd9b9f158fb044489a9c87aedbf88408e3aa31b1f40e"), looks := false }, kinds := [], alts := [], laidByText := true, laidKinds := [.data], laidTests := true, laidLooks := .later }
def JournalCountsCardSaid : Prop := Claim7.holds Tryd.pinned (.plain (OpenSpec.ofChange journalCountsSpec)) journalCountsCard

/-- THE SECOND FORM's CARD OF 'tollbarlaw32.JournalRest'. -/
def journalRestUptoCard : Claim7 := { stood := { row := journalRestUptoRow, standIns := [], harness := (true, "303963f5de53601226c0fd9b9f158fb044489a9c87aedbf88408e3aa31b1f40e"), looks := false }, kinds := [], alts := [], laidByText := true, laidKinds := [.data], laidTests := true, laidLooks := .later }
def JournalRestUptoCardSaid : Prop := Claim7.holds Tryd.pinned (.plain (OpenSpec.upto journalRestSpec)) journalRestUptoCard

/-- THE SECOND FORM's CARD OF 'tollbarlaw32.JournalDoes'. -/
def journalDoesUptoCard : Claim7 := { stood := { row := journalDoesUptoRow, standIns := [], harness := (true, "303963f5de53601226c0fd9b9f158fb044489a9c87aedbf88408e3aa31b1f40e"), looks := false }, kinds := [], alts := [], laidByText := true, laidKinds := [.data], laidTests := true, laidLooks := .later }
def JournalDoesUptoCardSaid : Prop := Claim7.holds Tryd.pinned (.plain (OpenSpec.upto journalDoesSpec)) journalDoesUptoCard

/-- THE SECOND FORM's CARD OF 'tollbarlaw32.JournalSafe'. -/
def journalSafeUptoCard : Claim7 := { stood := { row := journalSafeUptoRow, standIns := [], harness := (true, "303963f5de53601226c0fd9b9f158fb044489a9c87aedbf88408e3aa31b1f40e"), looks := false }, kinds := [], alts := [], laidByText := true, laidKinds := [.data], laidTests := true, laidLooks := .later }
def JournalSafeUptoCardSaid : Prop := Claim7.holds Tryd.pinned (.plain (OpenSpec.upto journalSafeSpec)) journalSafeUptoCard

/-- THE SECOND FORM's CARD OF 'tollbarlaw32.JournalCounts'. -/
def journalCountsUptoCard : Claim7 := { stood := { row := journalCountsUptoRow, standIns := [], harness := (true, "303963f5de53601226c0fd9b9f158fb044489a9c87aedbf88408e3aa31b1f40e"), looks := false }, kinds := [], alts := [], laidByText := true, laidKinds := [.data], laidTests := true, laidLooks := .later }
def JournalCountsUptoCardSaid : Prop := Claim7.holds Tryd.pinned (.plain (OpenSpec.upto journalCountsSpec)) journalCountsUptoCard
end Rows
end Go.Proofs.YtbkcmpggacbikaaDoor
