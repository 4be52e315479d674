/-
  DERIVED. GIVEN WITH THE SEED: THE CARDS: each row of YtnkfginlmdenjaaDoorRows.lean that lists a variable, with what it lists TIED to the program's text (the seventh form; the later family's looks); each row that meets fmt, with fmt's text TOLD by the authors' own Lean function (tested against real Go, not proved from fmt's source: count such statements apart). THE CARD IS WHAT COUNTS. Prove the row's statement (the work); the ties are given (YtnkfginlmdenjaaDoorTie.lean); close each card by the builder's one call (the guide's Derived/Test/ToyasCard.lean, 'card_holds'). Laid BY PROGRAM, IN A SANDBOX (cutbox-door.mjs). By AI agents, Wed Nov 11 2026. No macro, syntax, notation, axiom, sorry.
-/
import Derived.Test.YtnkfginlmdenjaaDoorRows
import GoSem.ClaimSeven
namespace Go.Proofs.YtnkfginlmdenjaaDoor
namespace Rows

/-- THE TIED CARD OF 'tollbarlaw04.FrameTells'. -/
def frameTellsCard : Claim7 := { stood := { row := frameTellsRow, standIns := [], harness := (true, "142fccca9a5248973a135be6ccecbd5c583bc0629b4fd5fb7d135da592a33198"), looks := false }, kinds := [], alts := [], laidByText := true, laidKinds := [.data], laidTests := true, laidLooks := .later }
def FrameTellsCardSaid : Prop := Claim7.holds Tryd.pinned (.plain (OpenSpec.ofChange frameTellsSpec)) frameTellsCard

/-- THE TIED CARD OF 'tollbarlaw04.FrameAlls'. -/
def frameAllsCard : Claim7 := { stood := { row := frameAllsRow, standIns := [], harness := (true, "142fccca9a5248973a135be6ccecbd5c583bc0629b4fd5fb7d135da592a33198"), looks := false }, kinds := [], alts := [], laidByText := true, laidKinds := [.data], laidTests := true, laidLooks := .later }
def FrameAllsCardSaid : Prop := Claim7.holds Tryd.pinned (.plain (OpenSpec.ofChange frameAllsSpec)) frameAllsCard

/-- THE TIED CARD OF 'tollbarlaw04.FrameBack'. -/
def frameBackCard : Claim7 := { stood := { row := frameBackRow, standIns := [], harness := (true, "142fccca9a5248973a135be6ccecbd5c583bc0629b4fd5fb7d135da592a33198"), looks := false }, kinds := [], alts := [], laidByText := true, laidKinds := [.data], laidTests := true, laidLooks := .later }
def FrameBackCardSaid : Prop := Claim7.holds Tryd.pinned (.plain (OpenSpec.ofChange frameBackSpec)) frameBackCard

/-- THE TIED CARD OF 'tollbarlaw04.FrameTurns'. -/
def frameTurnsCard : Claim7 := { stood := { row := frameTurnsRow, standIns := [], harness := (true, "142fccca9a5248973a135be6ccecbd5c583bc0629b4fd5fb7d135da592a33198"), looks := false }, kinds := [], alts := [], laidByText := true, laidKinds := [.data], laidTests := true, laidLooks := .later }
def FrameTurnsCardSaid : Prop := Claim7.holds Tryd.pinned (.plain (OpenSpec.ofChange frameTurnsSpec)) frameTurnsCard

/-- THE TIED CARD OF 'tollbarlaw04.FrameXors'. -/
def frameXorsCard : Claim7 := { stood := { row := frameXorsRow, standIns := [], harness := (true, "142fccca9a5248973a135be6ccecbd5c583bc0629b4fd5fb7d135da592a33198"), looks := false }, kinds := [], alts := [], laidByText := true, laidKinds := [.data], laidTests := true, laidLooks := .later }
def FrameXorsCardSaid : Prop := Claim7.holds Tryd.pinned (.plain (OpenSpec.ofChange frameXorsSpec)) frameXorsCard

/-- THE TIED CARD OF 'tollbarlaw04.FrameBehind'. -/
def frameBehindCard : Claim7 := { stood := { row := frameBehindRow, standIns := [], harness := (true, "142fccca9a5248973a135be6ccecbd5c583bc0629b4fd5fb7d135da592a33198"), looks := false }, kinds := [], alts := [], laidByText := true, laidKinds := [.data], laidTests := true, laidLooks := .later }
def FrameBehindCardSaid : Prop := Claim7.holds Tryd.pinned (.plain (OpenSpec.ofChange frameBehindSpec)) frameBehindCard

/-- THE SECOND FORM's CARD OF 'tollbarlaw04.FrameTells'. -/
def frameTellsUptoCard : Claim7 := { stood := { row := frameTellsUptoRow, standIns := [], harness := (true, "142fccca9a5248973a135be6ccecbd5c583bc0629b4fd5fb7d135da592a33198"), looks := false }, kinds := [], alts := [], laidByText := true, laidKinds := [.data], laidTests := true, laidLooks := .later }
def FrameTellsUptoCardSaid : Prop := Claim7.holds Tryd.pinned (.plain (OpenSpec.upto frameTellsSpec)) frameTellsUptoCard

/-- THE SECOND FORM's CARD OF 'tollbarlaw04.FrameAlls'. -/
def frameAllsUptoCard : Claim7 := { stood := { row := frameAllsUptoRow, standIns := [], harness := (true, "142fccca9a5248973a135be6ccecbd5c583bc0629b4fd5fb7d135da592a33198"), looks := false }, kinds := [], alts := [], laidByText := true, laidKinds := [.data], laidTests := true, laidLooks := .later }
def FrameAllsUptoCardSaid : Prop := Claim7.holds Tryd.pinned (.plain (OpenSpec.upto frameAllsSpec)) frameAllsUptoCard

/-- THE SECOND FORM's CARD OF 'tollbarlaw04.FrameBack'. -/
def frameBackUptoCard : Claim7 := { stood := { row := frameBackUptoRow, standIns := [], harness := (true, "142fccca9a5248973a135be6ccecbd5c583bc0629b4fd5fb7d135da592a33198"), looks := false }, kinds := [], alts := [], laidByText := true, laidKinds := [.data], laidTests := true, laidLooks := .later }
def FrameBackUptoCardSaid : Prop := Claim7.holds Tryd.pinned (.plain (OpenSpec.upto frameBackSpec)) frameBackUptoCard

/-- THE SECOND FORM's CARD OF 'tollbarlaw04.FrameTurns'. -/
def frameTurnsUptoCard : Claim7 := { stood := { row := frameTurnsUptoRow, standIns := [], harness := (true, "142fccca9a5248973a135be6ccecbd5c583bc0629b4fd5fb7d135da592a33198"), looks := false }, kinds := [], alts := [], laidByText := true, laidKinds := [.data], laidTests := true, laidLooks := .later }
def FrameTurnsUptoCardSaid : Prop := Claim7.holds Tryd.pinned (.plain (OpenSpec.upto frameTurnsSpec)) frameTurnsUptoCard

/-- THE SECOND FORM's CARD OF 'tollbarlaw04.FrameXors'. -/
def frameXorsUptoCard : Claim7 := { stood := { row := frameXorsUptoRow, standIns := [], harness := (true, "142fccca9a5248973a135be6ccecbd5c583bc0629b4fd5fb7d135da592a33198"), looks := false }, kinds := [], alts := [], laidByText := true, laidKinds := [.data], laidTests := true, laidLooks := .later }
def FrameXorsUptoCardSaid : Prop := Claim7.holds Tryd.pinned (.plain (OpenSpec.upto frameXorsSpec)) frameXorsUptoCard

/-- THE SECOND FORM's CARD OF 'tollbarlaw04.FrameBehind'. -/
def frameBehindUptoCard : Claim7 := { stood := { row := frameBehindUptoRow, standIns := [], harness := (true, "142fccca9a5248973a135be6ccecbd5c583bc0629b4fd5fb7d135da592a33198"), looks := false }, kinds := [], alts := [], laidByText := true, laidKinds := [.data], laidTests := true, laidLooks := .later }
def FrameBehindUptoCardSaid : Prop := Claim7.holds Tryd.pinned (.plain (OpenSpec.upto frameBehindSpec)) frameBehindUptoCard
end Rows
end Go.Proofs.YtnkfginlmdenjaaDoor
