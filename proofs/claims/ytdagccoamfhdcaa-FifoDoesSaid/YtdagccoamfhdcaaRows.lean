/-
  No cell of these rows narrows 'for every input' (looked for: loops, veiled, ifaces, maps, wideKeys, modest, calm, conditions, laid).
  DERIVED. THE GIVEN ROWS OF THIS SEAT. 4 by the template 'for every input the law returns true; each argument reads behind the call as it read before'; 0 by the template 'total and deterministic' (their statements: YtdagccoamfhdcaaTotals.lean).
  GIVEN WITH THE SEED: the statements are not yours to turn. If you find one false, say at which input.
  Laid BY PROGRAM, IN A SANDBOX (cutbox-rows.mjs): the forced cells as the released guide's own fill.sh prints them over the translation 7c485842f5d7a87d… (all of the seat's roots in one cut). By AI agents, Wed Nov 11 2026. No macro, syntax, notation, axiom, sorry.
-/
import Derived.Test.YtdagccoamfhdcaaChecked
import GoSem.Claim
import GoSem.ClaimJoined
import GoSem.ClaimMapViews
import Derived.JoinedTies
import Derived.KernelRfl
namespace Go.Proofs.Ytdagccoamfhdcaa
/- THE CELL 'sum', in the pinned program and in every row, IS THE sha256 OF THE DUMP (.gsa) THAT YtdagccoamfhdcaaProg.lean LOADS. Nothing in Lean hashes anything: it is a label: what it is worth is what the hold of that sum in a sandbox is worth. -/
noncomputable def Try.pinned : Pinned := { name := "ytdagccoamfhdcaa", sum := "7c485842f5d7a87d15f03815e4f5b1a2581512faacc0d9a101c89e8d0c6b5e10", checked := Try.checked }
namespace Rows
def none {H : Type} : Left H := { results := [], args := [] }

/-- 'tollbarlaw22.FifoMerges': WHATEVER THE INPUT: true; the input reads as it did. -/
def fifoMergesSpec : ChangeSpec := { name := "fifoMerges", fn := fun _ => fun
  | [d1, d2] => { results := [.lit (.bool true)], args := [d1, d2] }
  | _ => none }
def fifoMergesRow : OpenClaim := { program := "ytdagccoamfhdcaa", sum := "7c485842f5d7a87d15f03815e4f5b1a2581512faacc0d9a101c89e8d0c6b5e10", func := "tollbar/tollbarlaw22.FifoMerges", spec := "fifoMerges", apart := false }
def FifoMergesSaid : Prop := fifoMergesRow.holds Try.pinned (OpenSpec.ofChange fifoMergesSpec)

/-- ITS FALSE NEIGHBOUR: 'it returns false'. Refute it at one input. -/
def fifoMergesWrong : ChangeSpec := { name := "fifoMerges", fn := fun _ => fun
  | [d1, d2] => { results := [.lit (.bool false)], args := [d1, d2] }
  | _ => none }
def FifoMergesWrongFalsely : Prop := fifoMergesRow.holds Try.pinned (OpenSpec.ofChange fifoMergesWrong)

/-- 'tollbarlaw22.FifoOrder': WHATEVER THE INPUT: true; the input reads as it did. -/
def fifoOrderSpec : ChangeSpec := { name := "fifoOrder", fn := fun _ => fun
  | [d1, d2] => { results := [.lit (.bool true)], args := [d1, d2] }
  | _ => none }
def fifoOrderRow : OpenClaim := { program := "ytdagccoamfhdcaa", sum := "7c485842f5d7a87d15f03815e4f5b1a2581512faacc0d9a101c89e8d0c6b5e10", func := "tollbar/tollbarlaw22.FifoOrder", spec := "fifoOrder", apart := false }
def FifoOrderSaid : Prop := fifoOrderRow.holds Try.pinned (OpenSpec.ofChange fifoOrderSpec)

/-- ITS FALSE NEIGHBOUR: 'it returns false'. Refute it at one input. -/
def fifoOrderWrong : ChangeSpec := { name := "fifoOrder", fn := fun _ => fun
  | [d1, d2] => { results := [.lit (.bool false)], args := [d1, d2] }
  | _ => none }
def FifoOrderWrongFalsely : Prop := fifoOrderRow.holds Try.pinned (OpenSpec.ofChange fifoOrderWrong)

/-- 'tollbarlaw22.FifoOwn': WHATEVER THE INPUT: true; the input reads as it did. -/
def fifoOwnSpec : ChangeSpec := { name := "fifoOwn", fn := fun _ => fun
  | [d1, d2] => { results := [.lit (.bool true)], args := [d1, d2] }
  | _ => none }
def fifoOwnRow : OpenClaim := { program := "ytdagccoamfhdcaa", sum := "7c485842f5d7a87d15f03815e4f5b1a2581512faacc0d9a101c89e8d0c6b5e10", func := "tollbar/tollbarlaw22.FifoOwn", spec := "fifoOwn", apart := false }
def FifoOwnSaid : Prop := fifoOwnRow.holds Try.pinned (OpenSpec.ofChange fifoOwnSpec)

/-- ITS FALSE NEIGHBOUR: 'it returns false'. Refute it at one input. -/
def fifoOwnWrong : ChangeSpec := { name := "fifoOwn", fn := fun _ => fun
  | [d1, d2] => { results := [.lit (.bool false)], args := [d1, d2] }
  | _ => none }
def FifoOwnWrongFalsely : Prop := fifoOwnRow.holds Try.pinned (OpenSpec.ofChange fifoOwnWrong)

/-- 'tollbarlaw22.FifoDoes': WHATEVER THE INPUT: true; the input reads as it did. -/
def fifoDoesSpec : ChangeSpec := { name := "fifoDoes", fn := fun _ => fun
  | [d1, d2] => { results := [.lit (.bool true)], args := [d1, d2] }
  | _ => none }
def fifoDoesRow : OpenClaim := { program := "ytdagccoamfhdcaa", sum := "7c485842f5d7a87d15f03815e4f5b1a2581512faacc0d9a101c89e8d0c6b5e10", func := "tollbar/tollbarlaw22.FifoDoes", spec := "fifoDoes", apart := false }
def FifoDoesSaid : Prop := fifoDoesRow.holds Try.pinned (OpenSpec.ofChange fifoDoesSpec)

/-- ITS FALSE NEIGHBOUR: 'it returns false'. Refute it at one input. -/
def fifoDoesWrong : ChangeSpec := { name := "fifoDoes", fn := fun _ => fun
  | [d1, d2] => { results := [.lit (.bool false)], args := [d1, d2] }
  | _ => none }
def FifoDoesWrongFalsely : Prop := fifoDoesRow.holds Try.pinned (OpenSpec.ofChange fifoDoesWrong)

/- THE SECOND FORM. 'bulk': how many values and letters a reading holds, each counted each time it is reached (what is shared counts as often as it is met; a slice's spare places count too). A statement '..UptoSaid' is the law's where the arguments, and the package variables that the reading takes, are together of bulk at most 1048576: NARROWER than '..Said'. Prove '..Said' where nothing that the law and all that it calls make is longer than what came in: it says more and counts as full. Else prove '..UptoSaid'. A law counts once. -/
mutual
def uptoBulk {H : Type} : DataW H → Nat
  | .lit (.string bytes) => bytes.length + 1
  | .lit _ => 1
  | .nil => 1
  | .ptr d => uptoBulk d + 1
  | .slice elems spare => uptoBulkAll elems + uptoBulkAll spare + 1
  | .agg parts => uptoBulkAll parts + 1
  | .iface _ d => uptoBulk d + 1
  | .map entries => uptoBulkEntries entries + 1
  | .held _ => 1
def uptoBulkAll {H : Type} : List (DataW H) → Nat
  | [] => 0
  | d :: r => uptoBulk d + uptoBulkAll r
def uptoBulkEntries {H : Type} : List (Lit × DataW H) → Nat
  | [] => 0
  | x :: r => uptoBulkEntry x + uptoBulkEntries r
def uptoBulkEntry {H : Type} : Lit × DataW H → Nat
  | (.string bytes, d) => bytes.length + uptoBulk d + 1
  | (_, d) => uptoBulk d + 1
 end
def uptoSmall : (H : Type) → List (DataW H) → Bool := fun _ ds => decide (uptoBulkAll ds ≤ 1048576)
def OpenSpec.upto (s : _root_.Go.ChangeSpec) : _root_.Go.OpenSpec := { _root_.Go.OpenSpec.ofChange s with cond := some uptoSmall }

/-- 'tollbarlaw22.FifoMerges', WHERE WHAT IT READS IS OF BULK AT MOST 1048576: true; the input reads as it did. -/
def fifoMergesUptoRow : OpenClaim := { program := "ytdagccoamfhdcaa", sum := "7c485842f5d7a87d15f03815e4f5b1a2581512faacc0d9a101c89e8d0c6b5e10", func := "tollbar/tollbarlaw22.FifoMerges", spec := "fifoMerges", apart := false, narrowed := true }
def FifoMergesUptoSaid : Prop := fifoMergesUptoRow.holds Try.pinned (OpenSpec.upto fifoMergesSpec)

/-- 'tollbarlaw22.FifoOrder', WHERE WHAT IT READS IS OF BULK AT MOST 1048576: true; the input reads as it did. -/
def fifoOrderUptoRow : OpenClaim := { program := "ytdagccoamfhdcaa", sum := "7c485842f5d7a87d15f03815e4f5b1a2581512faacc0d9a101c89e8d0c6b5e10", func := "tollbar/tollbarlaw22.FifoOrder", spec := "fifoOrder", apart := false, narrowed := true }
def FifoOrderUptoSaid : Prop := fifoOrderUptoRow.holds Try.pinned (OpenSpec.upto fifoOrderSpec)

/-- 'tollbarlaw22.FifoOwn', WHERE WHAT IT READS IS OF BULK AT MOST 1048576: true; the input reads as it did. -/
def fifoOwnUptoRow : OpenClaim := { program := "ytdagccoamfhdcaa", sum := "7c485842f5d7a87d15f03815e4f5b1a2581512faacc0d9a101c89e8d0c6b5e10", func := "tollbar/tollbarlaw22.FifoOwn", spec := "fifoOwn", apart := false, narrowed := true }
def FifoOwnUptoSaid : Prop := fifoOwnUptoRow.holds Try.pinned (OpenSpec.upto fifoOwnSpec)

/-- 'tollbarlaw22.FifoDoes', WHERE WHAT IT READS IS OF BULK AT MOST 1048576: true; the input reads as it did. -/
def fifoDoesUptoRow : OpenClaim := { program := "ytdagccoamfhdcaa", sum := "7c485842f5d7a87d15f03815e4f5b1a2581512faacc0d9a101c89e8d0c6b5e10", func := "tollbar/tollbarlaw22.FifoDoes", spec := "fifoDoes", apart := false, narrowed := true }
def FifoDoesUptoSaid : Prop := fifoDoesUptoRow.holds Try.pinned (OpenSpec.upto fifoDoesSpec)

end Rows
end Go.Proofs.Ytdagccoamfhdcaa
