/-
  NARROWER THAN 'FOR EVERY INPUT', by the rows' own cells (each row's printed sentence says how): JournalRest: laid · JournalDoes: laid · JournalSafe: laid · JournalCounts: laid.
  DERIVED. THE GIVEN ROWS OF THIS SEAT. 4 by the template 'for every input the law returns true; each argument reads behind the call as it read before'; 0 by the template 'total and deterministic' (their statements: YtbkcmpggacbikaaDoorTotals.lean).
  GIVEN WITH THE SEED: the statements are not yours to turn. If you find one false, say at which input.
  Laid BY PROGRAM, IN A SANDBOX (cutbox-rows.mjs): the forced cells as the released guide's own fill.sh prints them over the translation 09d9b718c7e5c1ce… (all of the seat's roots in one cut). By AI agents, Wed Nov 11 2026. No macro, syntax, notation, axiom, sorry.
-/
import Derived.Test.YtbkcmpggacbikaaDoorChecked
import GoSem.Claim
import GoSem.ClaimJoined
import GoSem.ClaimMapViews
import Derived.JoinedTies
import Derived.KernelRfl
namespace Go.Proofs.YtbkcmpggacbikaaDoor
/- THE CELL 'sum', in the pinned program and in every row, IS THE sha256 OF THE DUMP (.gsa) THAT YtbkcmpggacbikaaDoorProg.lean LOADS. Nothing in Lean hashes anything: it is a label: what it is worth is what the hold of that sum in a sandbox is worth. -/
noncomputable def Tryd.pinned : Pinned := { name := "ytbkcmpggacbikaadoor", sum := "09d9b718c7e5c1ce3be05e46401078a8d06879bb44f2186e2cd8e665310349d9", checked := Tryd.checked }
namespace Rows
def none {H : Type} : Left H := { results := [], args := [] }

/- WHAT THE LISTED PACKAGE-LEVEL VARIABLES READ AS WHEN THE CALL BEGINS. Each datum BY PROGRAM (the guide's laid-datum.mjs) off the statement by which the dump's own 'gosem.cut.vars' lays the variable. In a bare row this is a premise. The card (YtbkcmpggacbikaaDoorCards.lean) ties it to the program's text. -/
def laid_tollbar_frame_half {H : Type} : DataW H := .agg [.lit (.int .u32 0), .lit (.int .u32 274646895), .lit (.int .u32 549293790), .lit (.int .u32 820201905), .lit (.int .u32 1098587580), .lit (.int .u32 1361435347), .lit (.int .u32 1640403810), .lit (.int .u32 1905808397), .lit (.int .u32 2197175160), .lit (.int .u32 2460548119), .lit (.int .u32 2722870694), .lit (.int .u32 2987750089), .lit (.int .u32 3280807620), .lit (.int .u32 3553878443), .lit (.int .u32 3811616794), .lit (.int .u32 4084100981)]

/-- 'tollbarlaw32.JournalRest': WHATEVER THE INPUT: true; the input reads as it did. -/
def journalRestSpec : ChangeSpec := { name := "journalRest", fn := fun _ => fun
  | [d1, d2, d3] => { results := [.lit (.bool true)], args := [d1, d2, d3] }
  | _ => none }
def journalRestRow : OpenClaim := { program := "ytbkcmpggacbikaadoor", sum := "09d9b718c7e5c1ce3be05e46401078a8d06879bb44f2186e2cd8e665310349d9", func := "tollbar/tollbarlaw32.JournalRest", spec := "journalRest", inPlace := ["internal/bytealg.MakeNoZero"], unfollowed := true, recurses := true, named := ["tollbar/frame.half"], apart := false, laid := [("tollbar/frame.half", laid_tollbar_frame_half)] }
def JournalRestSaid : Prop := journalRestRow.holds Tryd.pinned (OpenSpec.ofChange journalRestSpec)

/-- ITS FALSE NEIGHBOUR: 'it returns false'. Refute it at one input. -/
def journalRestWrong : ChangeSpec := { name := "journalRest", fn := fun _ => fun
  | [d1, d2, d3] => { results := [.lit (.bool false)], args := [d1, d2, d3] }
  | _ => none }
def JournalRestWrongFalsely : Prop := journalRestRow.holds Tryd.pinned (OpenSpec.ofChange journalRestWrong)

/-- 'tollbarlaw32.JournalDoes': WHATEVER THE INPUT: true; the input reads as it did. -/
def journalDoesSpec : ChangeSpec := { name := "journalDoes", fn := fun _ => fun
  | [d1, d2] => { results := [.lit (.bool true)], args := [d1, d2] }
  | _ => none }
def journalDoesRow : OpenClaim := { program := "ytbkcmpggacbikaadoor", sum := "09d9b718c7e5c1ce3be05e46401078a8d06879bb44f2186e2cd8e665310349d9", func := "tollbar/tollbarlaw32.JournalDoes", spec := "journalDoes", inPlace := ["internal/bytealg.MakeNoZero"], unfollowed := true, recurses := true, named := ["tollbar/frame.half"], apart := false, laid := [("tollbar/frame.half", laid_tollbar_frame_half)] }
def JournalDoesSaid : Prop := journalDoesRow.holds Tryd.pinned (OpenSpec.ofChange journalDoesSpec)

/-- ITS FALSE NEIGHBOUR: 'it returns false'. Refute it at one input. -/
def journalDoesWrong : ChangeSpec := { name := "journalDoes", fn := fun _ => fun
  | [d1, d2] => { results := [.lit (.bool false)], args := [d1, d2] }
  | _ => none }
def JournalDoesWrongFalsely : Prop := journalDoesRow.holds Tryd.pinned (OpenSpec.ofChange journalDoesWrong)

/-- 'tollbarlaw32.JournalSafe': WHATEVER THE INPUT: true; the input reads as it did. -/
def journalSafeSpec : ChangeSpec := { name := "journalSafe", fn := fun _ => fun
  | [d] => { results := [.lit (.bool true)], args := [d] }
  | _ => none }
def journalSafeRow : OpenClaim := { program := "ytbkcmpggacbikaadoor", sum := "09d9b718c7e5c1ce3be05e46401078a8d06879bb44f2186e2cd8e665310349d9", func := "tollbar/tollbarlaw32.JournalSafe", spec := "journalSafe", inPlace := ["internal/bytealg.MakeNoZero"], unfollowed := true, recurses := true, named := ["tollbar/frame.half"], apart := false, laid := [("tollbar/frame.half", laid_tollbar_frame_half)] }
def JournalSafeSaid : Prop := journalSafeRow.holds Tryd.pinned (OpenSpec.ofChange journalSafeSpec)

/-- ITS FALSE NEIGHBOUR: 'it returns false'. Refute it at one input. -/
def journalSafeWrong : ChangeSpec := { name := "journalSafe", fn := fun _ => fun
  | [d] => { results := [.lit (.bool false)], args := [d] }
  | _ => none }
def JournalSafeWrongFalsely : Prop := journalSafeRow.holds Tryd.pinned (OpenSpec.ofChange journalSafeWrong)

/-- 'tollbarlaw32.JournalCounts': WHATEVER THE INPUT: true; the input reads as it did. -/
def journalCountsSpec : ChangeSpec := { name := "journalCounts", fn := fun _ => fun
  | [d] => { results := [.lit (.bool true)], args := [d] }
  | _ => none }
def journalCountsRow : OpenClaim := { program := "ytbkcmpggacbikaadoor", sum := "09d9b718c7e5c1ce3be05e46401078a8d06879bb44f2186e2cd8e665310349d9", func := "tollbar/tollbarlaw32.JournalCounts", spec := "journalCounts", inPlace := ["internal/bytealg.MakeNoZero"], unfollowed := true, recurses := true, named := ["tollbar/frame.half"], apart := false, laid := [("tollbar/frame.half", laid_tollbar_frame_half)] }
def JournalCountsSaid : Prop := journalCountsRow.holds Tryd.pinned (OpenSpec.ofChange journalCountsSpec)

/-- ITS FALSE NEIGHBOUR: 'it returns false'. Refute it at one input. -/
def journalCountsWrong : ChangeSpec := { name := "journalCounts", fn := fun _ => fun
  | [d] => { results := [.lit (.bool false)], args := [d] }
  | _ => none }
def JournalCountsWrongFalsely : Prop := journalCountsRow.holds Tryd.pinned (OpenSpec.ofChange journalCountsWrong)

/- THE SECOND FORM. 'bulk': how many values and letters a reading holds, each counted each time it is reached (what is shared counts as often as it is met; a slice's spare places count too). A statement '..UptoSaid' is the law's where the arguments, and the package variables that the reading takes, are together of bulk at most 1048576: NARROWER than '..Said'. Prove '..Said' where nothing that the law and all that it calls make is longer than what came in: it says more and counts as full. Else prove '..UptoSaid'. A law counts once. -/
mutual
def uptoBulk {H : Type} : DataW H → Nat
  | .lit (.string bytes) => bytes.length + 1
  | .lit _ => 1
  | .nil => 1
  | .ptr d => uptoBulk d + 1
  | .slice elems spare => uptoBulkAll elems + uptoBulkAll spare + 1
  | .agg parts => uptoBulkAll parts + 1
  | .iface _ d => uptoBulk d + 1
  | .map entries => uptoBulkEntries entries + 1
  | .held _ => 1
def uptoBulkAll {H : Type} : List (DataW H) → Nat
  | [] => 0
  | d :: r => uptoBulk d + uptoBulkAll r
def uptoBulkEntries {H : Type} : List (Lit × DataW H) → Nat
  | [] => 0
  | x :: r => uptoBulkEntry x + uptoBulkEntries r
def uptoBulkEntry {H : Type} : Lit × DataW H → Nat
  | (.string bytes, d) => bytes.length + uptoBulk d + 1
  | (_, d) => uptoBulk d + 1
 end
def uptoSmall : (H : Type) → List (DataW H) → Bool := fun _ ds => decide (uptoBulkAll ds ≤ 1048576)
def OpenSpec.upto (s : _root_.Go.ChangeSpec) : _root_.Go.OpenSpec := { _root_.Go.OpenSpec.ofChange s with cond := some uptoSmall }

/-- 'tollbarlaw32.JournalRest', WHERE WHAT IT READS IS OF BULK AT MOST 1048576: true; the input reads as it did. -/
def journalRestUptoRow : OpenClaim := { program := "ytbkcmpggacbikaadoor", sum := "09d9b718c7e5c1ce3be05e46401078a8d06879bb44f2186e2cd8e665310349d9", func := "tollbar/tollbarlaw32.JournalRest", spec := "journalRest", inPlace := ["internal/bytealg.MakeNoZero"], unfollowed := true, recurses := true, named := ["tollbar/frame.half"], apart := false, laid := [("tollbar/frame.half", laid_tollbar_frame_half)], narrowed := true }
def JournalRestUptoSaid : Prop := journalRestUptoRow.holds Tryd.pinned (OpenSpec.upto journalRestSpec)

/-- 'tollbarlaw32.JournalDoes', WHERE WHAT IT READS IS OF BULK AT MOST 1048576: true; the input reads as it did. -/
def journalDoesUptoRow : OpenClaim := { program := "ytbkcmpggacbikaadoor", sum := "09d9b718c7e5c1ce3be05e46401078a8d06879bb44f2186e2cd8e665310349d9", func := "tollbar/tollbarlaw32.JournalDoes", spec := "journalDoes", inPlace := ["internal/bytealg.MakeNoZero"], unfollowed := true, recurses := true, named := ["tollbar/frame.half"], apart := false, laid := [("tollbar/frame.half", laid_tollbar_frame_half)], narrowed := true }
def JournalDoesUptoSaid : Prop := journalDoesUptoRow.holds Tryd.pinned (OpenSpec.upto journalDoesSpec)

/-- 'tollbarlaw32.JournalSafe', WHERE WHAT IT READS IS OF BULK AT MOST 1048576: true; the input reads as it did. -/
def journalSafeUptoRow : OpenClaim := { program := "ytbkcmpggacbikaadoor", sum := "09d9b718c7e5c1ce3be05e46401078a8d06879bb44f2186e2cd8e665310349d9", func := "tollbar/tollbarlaw32.JournalSafe", spec := "journalSafe", inPlace := ["internal/bytealg.MakeNoZero"], unfollowed := true, recurses := true, named := ["tollbar/frame.half"], apart := false, laid := [("tollbar/frame.half", laid_tollbar_frame_half)], narrowed := true }
def JournalSafeUptoSaid : Prop := journalSafeUptoRow.holds Tryd.pinned (OpenSpec.upto journalSafeSpec)

/-- 'tollbarlaw32.JournalCounts', WHERE WHAT IT READS IS OF BULK AT MOST 1048576: true; the input reads as it did. -/
def journalCountsUptoRow : OpenClaim := { program := "ytbkcmpggacbikaadoor", sum := "09d9b718c7e5c1ce3be05e46401078a8d06879bb44f2186e2cd8e665310349d9", func := "tollbar/tollbarlaw32.JournalCounts", spec := "journalCounts", inPlace := ["internal/bytealg.MakeNoZero"], unfollowed := true, recurses := true, named := ["tollbar/frame.half"], apart := false, laid := [("tollbar/frame.half", laid_tollbar_frame_half)], narrowed := true }
def JournalCountsUptoSaid : Prop := journalCountsUptoRow.holds Tryd.pinned (OpenSpec.upto journalCountsSpec)

end Rows
end Go.Proofs.YtbkcmpggacbikaaDoor
