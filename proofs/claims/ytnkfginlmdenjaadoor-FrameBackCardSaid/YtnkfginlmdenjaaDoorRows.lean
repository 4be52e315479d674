/-
  NARROWER THAN 'FOR EVERY INPUT', by the rows' own cells (each row's printed sentence says how): FrameTells: laid · FrameAlls: laid · FrameBack: laid · FrameTurns: laid · FrameXors: laid · FrameBehind: laid.
  DERIVED. THE GIVEN ROWS OF THIS SEAT. 6 by the template 'for every input the law returns true; each argument reads behind the call as it read before'; 0 by the template 'total and deterministic' (their statements: YtnkfginlmdenjaaDoorTotals.lean).
  GIVEN WITH THE SEED: the statements are not yours to turn. If you find one false, say at which input.
  Laid BY PROGRAM, IN A SANDBOX (cutbox-rows.mjs): the forced cells as the released guide's own fill.sh prints them over the translation ecc0571405587f23… (all of the seat's roots in one cut). By AI agents, Wed Nov 11 2026. No macro, syntax, notation, axiom, sorry.
-/
import Derived.Test.YtnkfginlmdenjaaDoorChecked
import GoSem.Claim
import GoSem.ClaimJoined
import GoSem.ClaimMapViews
import Derived.JoinedTies
import Derived.KernelRfl
namespace Go.Proofs.YtnkfginlmdenjaaDoor
/- THE CELL 'sum', in the pinned program and in every row, IS THE sha256 OF THE DUMP (.gsa) THAT YtnkfginlmdenjaaDoorProg.lean LOADS. Nothing in Lean hashes anything: it is a label: what it is worth is what the hold of that sum in a sandbox is worth. -/
noncomputable def Tryd.pinned : Pinned := { name := "ytnkfginlmdenjaadoor", sum := "ecc0571405587f23886fa714dcf852874e31e570009863ee1909d5f76463ae50", checked := Tryd.checked }
namespace Rows
def none {H : Type} : Left H := { results := [], args := [] }

/- WHAT THE LISTED PACKAGE-LEVEL VARIABLES READ AS WHEN THE CALL BEGINS. Each datum BY PROGRAM (the guide's laid-datum.mjs) off the statement by which the dump's own 'gosem.cut.vars' lays the variable. In a bare row this is a premise. The card (YtnkfginlmdenjaaDoorCards.lean) ties it to the program's text. -/
def laid_tollbar_frame_half {H : Type} : DataW H := .agg [.lit (.int .u32 0), .lit (.int .u32 274646895), .lit (.int .u32 549293790), .lit (.int .u32 820201905), .lit (.int .u32 1098587580), .lit (.int .u32 1361435347), .lit (.int .u32 1640403810), .lit (.int .u32 1905808397), .lit (.int .u32 2197175160), .lit (.int .u32 2460548119), .lit (.int .u32 2722870694), .lit (.int .u32 2987750089), .lit (.int .u32 3280807620), .lit (.int .u32 3553878443), .lit (.int .u32 3811616794), .lit (.int .u32 4084100981)]

/-- 'tollbarlaw04.FrameTells': WHATEVER THE INPUT: true; the input reads as it did. -/
def frameTellsSpec : ChangeSpec := { name := "frameTells", fn := fun _ => fun
  | [d] => { results := [.lit (.bool true)], args := [d] }
  | _ => none }
def frameTellsRow : OpenClaim := { program := "ytnkfginlmdenjaadoor", sum := "ecc0571405587f23886fa714dcf852874e31e570009863ee1909d5f76463ae50", func := "tollbar/tollbarlaw04.FrameTells", spec := "frameTells", unfollowed := true, recurses := true, named := ["tollbar/frame.half"], apart := false, laid := [("tollbar/frame.half", laid_tollbar_frame_half)] }
def FrameTellsSaid : Prop := frameTellsRow.holds Tryd.pinned (OpenSpec.ofChange frameTellsSpec)

/-- ITS FALSE NEIGHBOUR: 'it returns false'. Refute it at one input. -/
def frameTellsWrong : ChangeSpec := { name := "frameTells", fn := fun _ => fun
  | [d] => { results := [.lit (.bool false)], args := [d] }
  | _ => none }
def FrameTellsWrongFalsely : Prop := frameTellsRow.holds Tryd.pinned (OpenSpec.ofChange frameTellsWrong)

/-- 'tollbarlaw04.FrameAlls': WHATEVER THE INPUT: true; the input reads as it did. -/
def frameAllsSpec : ChangeSpec := { name := "frameAlls", fn := fun _ => fun
  | [d] => { results := [.lit (.bool true)], args := [d] }
  | _ => none }
def frameAllsRow : OpenClaim := { program := "ytnkfginlmdenjaadoor", sum := "ecc0571405587f23886fa714dcf852874e31e570009863ee1909d5f76463ae50", func := "tollbar/tollbarlaw04.FrameAlls", spec := "frameAlls", unfollowed := true, recurses := true, named := ["tollbar/frame.half"], apart := false, laid := [("tollbar/frame.half", laid_tollbar_frame_half)] }
def FrameAllsSaid : Prop := frameAllsRow.holds Tryd.pinned (OpenSpec.ofChange frameAllsSpec)

/-- ITS FALSE NEIGHBOUR: 'it returns false'. Refute it at one input. -/
def frameAllsWrong : ChangeSpec := { name := "frameAlls", fn := fun _ => fun
  | [d] => { results := [.lit (.bool false)], args := [d] }
  | _ => none }
def FrameAllsWrongFalsely : Prop := frameAllsRow.holds Tryd.pinned (OpenSpec.ofChange frameAllsWrong)

/-- 'tollbarlaw04.FrameBack': WHATEVER THE INPUT: true; the input reads as it did. -/
def frameBackSpec : ChangeSpec := { name := "frameBack", fn := fun _ => fun
  | [d1, d2] => { results := [.lit (.bool true)], args := [d1, d2] }
  | _ => none }
def frameBackRow : OpenClaim := { program := "ytnkfginlmdenjaadoor", sum := "ecc0571405587f23886fa714dcf852874e31e570009863ee1909d5f76463ae50", func := "tollbar/tollbarlaw04.FrameBack", spec := "frameBack", unfollowed := true, recurses := true, named := ["tollbar/frame.half"], apart := false, laid := [("tollbar/frame.half", laid_tollbar_frame_half)] }
def FrameBackSaid : Prop := frameBackRow.holds Tryd.pinned (OpenSpec.ofChange frameBackSpec)

/-- ITS FALSE NEIGHBOUR: 'it returns false'. Refute it at one input. -/
def frameBackWrong : ChangeSpec := { name := "frameBack", fn := fun _ => fun
  | [d1, d2] => { results := [.lit (.bool false)], args := [d1, d2] }
  | _ => none }
def FrameBackWrongFalsely : Prop := frameBackRow.holds Tryd.pinned (OpenSpec.ofChange frameBackWrong)

/-- 'tollbarlaw04.FrameTurns': WHATEVER THE INPUT: true; the input reads as it did. -/
def frameTurnsSpec : ChangeSpec := { name := "frameTurns", fn := fun _ => fun
  | [d1, d2, d3] => { results := [.lit (.bool true)], args := [d1, d2, d3] }
  | _ => none }
def frameTurnsRow : OpenClaim := { program := "ytnkfginlmdenjaadoor", sum := "ecc0571405587f23886fa714dcf852874e31e570009863ee1909d5f76463ae50", func := "tollbar/tollbarlaw04.FrameTurns", spec := "frameTurns", unfollowed := true, recurses := true, named := ["tollbar/frame.half"], apart := false, laid := [("tollbar/frame.half", laid_tollbar_frame_half)] }
def FrameTurnsSaid : Prop := frameTurnsRow.holds Tryd.pinned (OpenSpec.ofChange frameTurnsSpec)

/-- ITS FALSE NEIGHBOUR: 'it returns false'. Refute it at one input. -/
def frameTurnsWrong : ChangeSpec := { name := "frameTurns", fn := fun _ => fun
  | [d1, d2, d3] => { results := [.lit (.bool false)], args := [d1, d2, d3] }
  | _ => none }
def FrameTurnsWrongFalsely : Prop := frameTurnsRow.holds Tryd.pinned (OpenSpec.ofChange frameTurnsWrong)

/-- 'tollbarlaw04.FrameXors': WHATEVER THE INPUT: true; the input reads as it did. -/
def frameXorsSpec : ChangeSpec := { name := "frameXors", fn := fun _ => fun
  | [d1, d2, d3] => { results := [.lit (.bool true)], args := [d1, d2, d3] }
  | _ => none }
def frameXorsRow : OpenClaim := { program := "ytnkfginlmdenjaadoor", sum := "ecc0571405587f23886fa714dcf852874e31e570009863ee1909d5f76463ae50", func := "tollbar/tollbarlaw04.FrameXors", spec := "frameXors", unfollowed := true, recurses := true, named := ["tollbar/frame.half"], apart := false, laid := [("tollbar/frame.half", laid_tollbar_frame_half)] }
def FrameXorsSaid : Prop := frameXorsRow.holds Tryd.pinned (OpenSpec.ofChange frameXorsSpec)

/-- ITS FALSE NEIGHBOUR: 'it returns false'. Refute it at one input. -/
def frameXorsWrong : ChangeSpec := { name := "frameXors", fn := fun _ => fun
  | [d1, d2, d3] => { results := [.lit (.bool false)], args := [d1, d2, d3] }
  | _ => none }
def FrameXorsWrongFalsely : Prop := frameXorsRow.holds Tryd.pinned (OpenSpec.ofChange frameXorsWrong)

/-- 'tollbarlaw04.FrameBehind': WHATEVER THE INPUT: true; the input reads as it did. -/
def frameBehindSpec : ChangeSpec := { name := "frameBehind", fn := fun _ => fun
  | [d1, d2, d3] => { results := [.lit (.bool true)], args := [d1, d2, d3] }
  | _ => none }
def frameBehindRow : OpenClaim := { program := "ytnkfginlmdenjaadoor", sum := "ecc0571405587f23886fa714dcf852874e31e570009863ee1909d5f76463ae50", func := "tollbar/tollbarlaw04.FrameBehind", spec := "frameBehind", unfollowed := true, recurses := true, named := ["tollbar/frame.half"], apart := false, laid := [("tollbar/frame.half", laid_tollbar_frame_half)] }
def FrameBehindSaid : Prop := frameBehindRow.holds Tryd.pinned (OpenSpec.ofChange frameBehindSpec)

/-- ITS FALSE NEIGHBOUR: 'it returns false'. Refute it at one input. -/
def frameBehindWrong : ChangeSpec := { name := "frameBehind", fn := fun _ => fun
  | [d1, d2, d3] => { results := [.lit (.bool false)], args := [d1, d2, d3] }
  | _ => none }
def FrameBehindWrongFalsely : Prop := frameBehindRow.holds Tryd.pinned (OpenSpec.ofChange frameBehindWrong)

/- THE SECOND FORM. 'bulk': how many values and letters a reading holds, each counted each time it is reached (what is shared counts as often as it is met; a slice's spare places count too). A statement '..UptoSaid' is the law's where the arguments, and the package variables that the reading takes, are together of bulk at most 1048576: NARROWER than '..Said'. Prove '..Said' where nothing that the law and all that it calls make is longer than what came in: it says more and counts as full. Else prove '..UptoSaid'. A law counts once. -/
mutual
def uptoBulk {H : Type} : DataW H → Nat
  | .lit (.string bytes) => bytes.length + 1
  | .lit _ => 1
  | .nil => 1
  | .ptr d => uptoBulk d + 1
  | .slice elems spare => uptoBulkAll elems + uptoBulkAll spare + 1
  | .agg parts => uptoBulkAll parts + 1
  | .iface _ d => uptoBulk d + 1
  | .map entries => uptoBulkEntries entries + 1
  | .held _ => 1
def uptoBulkAll {H : Type} : List (DataW H) → Nat
  | [] => 0
  | d :: r => uptoBulk d + uptoBulkAll r
def uptoBulkEntries {H : Type} : List (Lit × DataW H) → Nat
  | [] => 0
  | x :: r => uptoBulkEntry x + uptoBulkEntries r
def uptoBulkEntry {H : Type} : Lit × DataW H → Nat
  | (.string bytes, d) => bytes.length + uptoBulk d + 1
  | (_, d) => uptoBulk d + 1
 end
def uptoSmall : (H : Type) → List (DataW H) → Bool := fun _ ds => decide (uptoBulkAll ds ≤ 1048576)
def OpenSpec.upto (s : _root_.Go.ChangeSpec) : _root_.Go.OpenSpec := { _root_.Go.OpenSpec.ofChange s with cond := some uptoSmall }

/-- 'tollbarlaw04.FrameTells', WHERE WHAT IT READS IS OF BULK AT MOST 1048576: true; the input reads as it did. -/
def frameTellsUptoRow : OpenClaim := { program := "ytnkfginlmdenjaadoor", sum := "ecc0571405587f23886fa714dcf852874e31e570009863ee1909d5f76463ae50", func := "tollbar/tollbarlaw04.FrameTells", spec := "frameTells", unfollowed := true, recurses := true, named := ["tollbar/frame.half"], apart := false, laid := [("tollbar/frame.half", laid_tollbar_frame_half)], narrowed := true }
def FrameTellsUptoSaid : Prop := frameTellsUptoRow.holds Tryd.pinned (OpenSpec.upto frameTellsSpec)

/-- 'tollbarlaw04.FrameAlls', WHERE WHAT IT READS IS OF BULK AT MOST 1048576: true; the input reads as it did. -/
def frameAllsUptoRow : OpenClaim := { program := "ytnkfginlmdenjaadoor", sum := "ecc0571405587f23886fa714dcf852874e31e570009863ee1909d5f76463ae50", func := "tollbar/tollbarlaw04.FrameAlls", spec := "frameAlls", unfollowed := true, recurses := true, named := ["tollbar/frame.half"], apart := false, laid := [("tollbar/frame.half", laid_tollbar_frame_half)], narrowed := true }
def FrameAllsUptoSaid : Prop := frameAllsUptoRow.holds Tryd.pinned (OpenSpec.upto frameAllsSpec)

/-- 'tollbarlaw04.FrameBack', WHERE WHAT IT READS IS OF BULK AT MOST 1048576: true; the input reads as it did. -/
def frameBackUptoRow : OpenClaim := { program := "ytnkfginlmdenjaadoor", sum := "ecc0571405587f23886fa714dcf852874e31e570009863ee1909d5f76463ae50", func := "tollbar/tollbarlaw04.FrameBack", spec := "frameBack", unfollowed := true, recurses := true, named := ["tollbar/frame.half"], apart := false, laid := [("tollbar/frame.half", laid_tollbar_frame_half)], narrowed := true }
def FrameBackUptoSaid : Prop := frameBackUptoRow.holds Tryd.pinned (OpenSpec.upto frameBackSpec)

/-- 'tollbarlaw04.FrameTurns', WHERE WHAT IT READS IS OF BULK AT MOST 1048576: true; the input reads as it did. -/
def frameTurnsUptoRow : OpenClaim := { program := "ytnkfginlmdenjaadoor", sum := "ecc0571405587f23886fa714dcf852874e31e570009863ee1909d5f76463ae50", func := "tollbar/tollbarlaw04.FrameTurns", spec := "frameTurns", unfollowed := true, recurses := true, named := ["tollbar/frame.half"], apart := false, laid := [("tollbar/frame.half", laid_tollbar_frame_half)], narrowed := true }
def FrameTurnsUptoSaid : Prop := frameTurnsUptoRow.holds Tryd.pinned (OpenSpec.upto frameTurnsSpec)

/-- 'tollbarlaw04.FrameXors', WHERE WHAT IT READS IS OF BULK AT MOST 1048576: true; the input reads as it did. -/
def frameXorsUptoRow : OpenClaim := { program := "ytnkfginlmdenjaadoor", sum := "ecc0571405587f23886fa714dcf852874e31e570009863ee1909d5f76463ae50", func := "tollbar/tollbarlaw04.FrameXors", spec := "frameXors", unfollowed := true, recurses := true, named := ["tollbar/frame.half"], apart := false, laid := [("tollbar/frame.half", laid_tollbar_frame_half)], narrowed := true }
def FrameXorsUptoSaid : Prop := frameXorsUptoRow.holds Tryd.pinned (OpenSpec.upto frameXorsSpec)

/-- 'tollbarlaw04.FrameBehind', WHERE WHAT IT READS IS OF BULK AT MOST 1048576: true; the input reads as it did. -/
def frameBehindUptoRow : OpenClaim := { program := "ytnkfginlmdenjaadoor", sum := "ecc0571405587f23886fa714dcf852874e31e570009863ee1909d5f76463ae50", func := "tollbar/tollbarlaw04.FrameBehind", spec := "frameBehind", unfollowed := true, recurses := true, named := ["tollbar/frame.half"], apart := false, laid := [("tollbar/frame.half", laid_tollbar_frame_half)], narrowed := true }
def FrameBehindUptoSaid : Prop := frameBehindUptoRow.holds Tryd.pinned (OpenSpec.upto frameBehindSpec)

end Rows
end Go.Proofs.YtnkfginlmdenjaaDoor
