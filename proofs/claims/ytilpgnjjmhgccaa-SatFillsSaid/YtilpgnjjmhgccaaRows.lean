/-
  No cell of these rows narrows 'for every input' (looked for: loops, veiled, ifaces, maps, wideKeys, modest, calm, conditions, laid).
  DERIVED. THE GIVEN ROWS OF THIS SEAT. 4 by the template 'for every input the law returns true; each argument reads behind the call as it read before'; 0 by the template 'total and deterministic' (their statements: YtilpgnjjmhgccaaTotals.lean).
  GIVEN WITH THE SEED: the statements are not yours to turn. If you find one false, say at which input.
  Laid BY PROGRAM, IN A SANDBOX (cutbox-rows.mjs): the forced cells as the released guide's own fill.sh prints them over the translation 5230e4bcf90057f1… (all of the seat's roots in one cut). By AI agents, Wed Nov 11 2026. No macro, syntax, notation, axiom, sorry.
-/
import Derived.Test.YtilpgnjjmhgccaaChecked
import GoSem.Claim
import GoSem.ClaimJoined
import GoSem.ClaimMapViews
import Derived.JoinedTies
import Derived.KernelRfl
namespace Go.Proofs.Ytilpgnjjmhgccaa
/- THE CELL 'sum', in the pinned program and in every row, IS THE sha256 OF THE DUMP (.gsa) THAT YtilpgnjjmhgccaaProg.lean LOADS. Nothing in Lean hashes anything: it is a label: what it is worth is what the hold of that sum in a sandbox is worth. -/
noncomputable def Try.pinned : Pinned := { name := "ytilpgnjjmhgccaa", sum := "5230e4bcf90057f1bc8bed74a43ca1c9ee2009e336035440e65e59ba150d9c4c", checked := Try.checked }
namespace Rows
def none {H : Type} : Left H := { results := [], args := [] }

/-- 'tollbarlaw20.SatTells': WHATEVER THE INPUT: true; the input reads as it did. -/
def satTellsSpec : ChangeSpec := { name := "satTells", fn := fun _ => fun
  | [d1, d2, d3] => { results := [.lit (.bool true)], args := [d1, d2, d3] }
  | _ => none }
def satTellsRow : OpenClaim := { program := "ytilpgnjjmhgccaa", sum := "5230e4bcf90057f1bc8bed74a43ca1c9ee2009e336035440e65e59ba150d9c4c", func := "tollbar/tollbarlaw20.SatTells", spec := "satTells", unfollowed := true, recurses := true, apart := false }
def SatTellsSaid : Prop := satTellsRow.holds Try.pinned (OpenSpec.ofChange satTellsSpec)

/-- ITS FALSE NEIGHBOUR: 'it returns false'. Refute it at one input. -/
def satTellsWrong : ChangeSpec := { name := "satTells", fn := fun _ => fun
  | [d1, d2, d3] => { results := [.lit (.bool false)], args := [d1, d2, d3] }
  | _ => none }
def SatTellsWrongFalsely : Prop := satTellsRow.holds Try.pinned (OpenSpec.ofChange satTellsWrong)

/-- 'tollbarlaw20.SatFills': WHATEVER THE INPUT: true; the input reads as it did. -/
def satFillsSpec : ChangeSpec := { name := "satFills", fn := fun _ => fun
  | [d] => { results := [.lit (.bool true)], args := [d] }
  | _ => none }
def satFillsRow : OpenClaim := { program := "ytilpgnjjmhgccaa", sum := "5230e4bcf90057f1bc8bed74a43ca1c9ee2009e336035440e65e59ba150d9c4c", func := "tollbar/tollbarlaw20.SatFills", spec := "satFills", unfollowed := true, recurses := true, apart := false }
def SatFillsSaid : Prop := satFillsRow.holds Try.pinned (OpenSpec.ofChange satFillsSpec)

/-- ITS FALSE NEIGHBOUR: 'it returns false'. Refute it at one input. -/
def satFillsWrong : ChangeSpec := { name := "satFills", fn := fun _ => fun
  | [d] => { results := [.lit (.bool false)], args := [d] }
  | _ => none }
def SatFillsWrongFalsely : Prop := satFillsRow.holds Try.pinned (OpenSpec.ofChange satFillsWrong)

/-- 'tollbarlaw20.SatTurns': WHATEVER THE INPUT: true; the input reads as it did. -/
def satTurnsSpec : ChangeSpec := { name := "satTurns", fn := fun _ => fun
  | [d1, d2, d3] => { results := [.lit (.bool true)], args := [d1, d2, d3] }
  | _ => none }
def satTurnsRow : OpenClaim := { program := "ytilpgnjjmhgccaa", sum := "5230e4bcf90057f1bc8bed74a43ca1c9ee2009e336035440e65e59ba150d9c4c", func := "tollbar/tollbarlaw20.SatTurns", spec := "satTurns", unfollowed := true, recurses := true, apart := false }
def SatTurnsSaid : Prop := satTurnsRow.holds Try.pinned (OpenSpec.ofChange satTurnsSpec)

/-- ITS FALSE NEIGHBOUR: 'it returns false'. Refute it at one input. -/
def satTurnsWrong : ChangeSpec := { name := "satTurns", fn := fun _ => fun
  | [d1, d2, d3] => { results := [.lit (.bool false)], args := [d1, d2, d3] }
  | _ => none }
def SatTurnsWrongFalsely : Prop := satTurnsRow.holds Try.pinned (OpenSpec.ofChange satTurnsWrong)

/-- 'tollbarlaw20.SatTwice': WHATEVER THE INPUT: true; the input reads as it did. -/
def satTwiceSpec : ChangeSpec := { name := "satTwice", fn := fun _ => fun
  | [d1, d2, d3] => { results := [.lit (.bool true)], args := [d1, d2, d3] }
  | _ => none }
def satTwiceRow : OpenClaim := { program := "ytilpgnjjmhgccaa", sum := "5230e4bcf90057f1bc8bed74a43ca1c9ee2009e336035440e65e59ba150d9c4c", func := "tollbar/tollbarlaw20.SatTwice", spec := "satTwice", unfollowed := true, recurses := true, apart := false }
def SatTwiceSaid : Prop := satTwiceRow.holds Try.pinned (OpenSpec.ofChange satTwiceSpec)

/-- ITS FALSE NEIGHBOUR: 'it returns false'. Refute it at one input. -/
def satTwiceWrong : ChangeSpec := { name := "satTwice", fn := fun _ => fun
  | [d1, d2, d3] => { results := [.lit (.bool false)], args := [d1, d2, d3] }
  | _ => none }
def SatTwiceWrongFalsely : Prop := satTwiceRow.holds Try.pinned (OpenSpec.ofChange satTwiceWrong)

/- THE SECOND FORM. 'bulk': how many values and letters a reading holds, each counted each time it is reached (what is shared counts as often as it is met; a slice's spare places count too). A statement '..UptoSaid' is the law's where the arguments, and the package variables that the reading takes, are together of bulk at most 1048576: NARROWER than '..Said'. Prove '..Said' where nothing that the law and all that it calls make is longer than what came in: it says more and counts as full. Else prove '..UptoSaid'. A law counts once. -/
mutual
def uptoBulk {H : Type} : DataW H → Nat
  | .lit (.string bytes) => bytes.length + 1
  | .lit _ => 1
  | .nil => 1
  | .ptr d => uptoBulk d + 1
  | .slice elems spare => uptoBulkAll elems + uptoBulkAll spare + 1
  | .agg parts => uptoBulkAll parts + 1
  | .iface _ d => uptoBulk d + 1
  | .map entries => uptoBulkEntries entries + 1
  | .held _ => 1
def uptoBulkAll {H : Type} : List (DataW H) → Nat
  | [] => 0
  | d :: r => uptoBulk d + uptoBulkAll r
def uptoBulkEntries {H : Type} : List (Lit × DataW H) → Nat
  | [] => 0
  | x :: r => uptoBulkEntry x + uptoBulkEntries r
def uptoBulkEntry {H : Type} : Lit × DataW H → Nat
  | (.string bytes, d) => bytes.length + uptoBulk d + 1
  | (_, d) => uptoBulk d + 1
 end
def uptoSmall : (H : Type) → List (DataW H) → Bool := fun _ ds => decide (uptoBulkAll ds ≤ 1048576)
def OpenSpec.upto (s : _root_.Go.ChangeSpec) : _root_.Go.OpenSpec := { _root_.Go.OpenSpec.ofChange s with cond := some uptoSmall }

/-- 'tollbarlaw20.SatTells', WHERE WHAT IT READS IS OF BULK AT MOST 1048576: true; the input reads as it did. -/
def satTellsUptoRow : OpenClaim := { program := "ytilpgnjjmhgccaa", sum := "5230e4bcf90057f1bc8bed74a43ca1c9ee2009e336035440e65e59ba150d9c4c", func := "tollbar/tollbarlaw20.SatTells", spec := "satTells", unfollowed := true, recurses := true, apart := false, narrowed := true }
def SatTellsUptoSaid : Prop := satTellsUptoRow.holds Try.pinned (OpenSpec.upto satTellsSpec)

/-- 'tollbarlaw20.SatFills', WHERE WHAT IT READS IS OF BULK AT MOST 1048576: true; the input reads as it did. -/
def satFillsUptoRow : OpenClaim := { program := "ytilpgnjjmhgccaa", sum := "5230e4bcf90057f1bc8bed74a43ca1c9ee2009e336035440e65e59ba150d9c4c", func := "tollbar/tollbarlaw20.SatFills", spec := "satFills", unfollowed := true, recurses := true, apart := false, narrowed := true }
def SatFillsUptoSaid : Prop := satFillsUptoRow.holds Try.pinned (OpenSpec.upto satFillsSpec)

/-- 'tollbarlaw20.SatTurns', WHERE WHAT IT READS IS OF BULK AT MOST 1048576: true; the input reads as it did. -/
def satTurnsUptoRow : OpenClaim := { program := "ytilpgnjjmhgccaa", sum := "5230e4bcf90057f1bc8bed74a43ca1c9ee2009e336035440e65e59ba150d9c4c", func := "tollbar/tollbarlaw20.SatTurns", spec := "satTurns", unfollowed := true, recurses := true, apart := false, narrowed := true }
def SatTurnsUptoSaid : Prop := satTurnsUptoRow.holds Try.pinned (OpenSpec.upto satTurnsSpec)

/-- 'tollbarlaw20.SatTwice', WHERE WHAT IT READS IS OF BULK AT MOST 1048576: true; the input reads as it did. -/
def satTwiceUptoRow : OpenClaim := { program := "ytilpgnjjmhgccaa", sum := "5230e4bcf90057f1bc8bed74a43ca1c9ee2009e336035440e65e59ba150d9c4c", func := "tollbar/tollbarlaw20.SatTwice", spec := "satTwice", unfollowed := true, recurses := true, apart := false, narrowed := true }
def SatTwiceUptoSaid : Prop := satTwiceUptoRow.holds Try.pinned (OpenSpec.upto satTwiceSpec)

end Rows
end Go.Proofs.Ytilpgnjjmhgccaa
