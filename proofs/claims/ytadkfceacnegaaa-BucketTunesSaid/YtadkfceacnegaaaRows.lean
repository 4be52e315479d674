/-
  No cell of these rows narrows 'for every input' (looked for: loops, veiled, ifaces, maps, wideKeys, modest, calm, conditions, laid).
  DERIVED. THE GIVEN ROWS OF THIS SEAT. 4 by the template 'for every input the law returns true; each argument reads behind the call as it read before'; 0 by the template 'total and deterministic' (their statements: YtadkfceacnegaaaTotals.lean).
  GIVEN WITH THE SEED: the statements are not yours to turn. If you find one false, say at which input.
  Laid BY PROGRAM, IN A SANDBOX (cutbox-rows.mjs): the forced cells as the released guide's own fill.sh prints them over the translation a678dcaae1f67bcb… (all of the seat's roots in one cut). By AI agents, Wed Nov 11 2026. No macro, syntax, notation, axiom, sorry.
-/
import Derived.Test.YtadkfceacnegaaaChecked
import GoSem.Claim
import GoSem.ClaimJoined
import GoSem.ClaimMapViews
import Derived.JoinedTies
import Derived.KernelRfl
namespace Go.Proofs.Ytadkfceacnegaaa
/- THE CELL 'sum', in the pinned program and in every row, IS THE sha256 OF THE DUMP (.gsa) THAT YtadkfceacnegaaaProg.lean LOADS. Nothing in Lean hashes anything: it is a label: what it is worth is what the hold of that sum in a sandbox is worth. -/
noncomputable def Try.pinned : Pinned := { name := "ytadkfceacnegaaa", sum := "a678dcaae1f67bcbdd96e72c39cfba02e3c55e6e7de876dbd4c8a87a2e8529d7", checked := Try.checked }
namespace Rows
def none {H : Type} : Left H := { results := [], args := [] }

/-- 'tollbarlaw21.BucketDoes': WHATEVER THE INPUT: true; the input reads as it did. -/
def bucketDoesSpec : ChangeSpec := { name := "bucketDoes", fn := fun _ => fun
  | [d1, d2] => { results := [.lit (.bool true)], args := [d1, d2] }
  | _ => none }
def bucketDoesRow : OpenClaim := { program := "ytadkfceacnegaaa", sum := "a678dcaae1f67bcbdd96e72c39cfba02e3c55e6e7de876dbd4c8a87a2e8529d7", func := "tollbar/tollbarlaw21.BucketDoes", spec := "bucketDoes", apart := false }
def BucketDoesSaid : Prop := bucketDoesRow.holds Try.pinned (OpenSpec.ofChange bucketDoesSpec)

/-- ITS FALSE NEIGHBOUR: 'it returns false'. Refute it at one input. -/
def bucketDoesWrong : ChangeSpec := { name := "bucketDoes", fn := fun _ => fun
  | [d1, d2] => { results := [.lit (.bool false)], args := [d1, d2] }
  | _ => none }
def BucketDoesWrongFalsely : Prop := bucketDoesRow.holds Try.pinned (OpenSpec.ofChange bucketDoesWrong)

/-- 'tollbarlaw21.BucketBounds': WHATEVER THE INPUT: true; the input reads as it did. -/
def bucketBoundsSpec : ChangeSpec := { name := "bucketBounds", fn := fun _ => fun
  | [d1, d2] => { results := [.lit (.bool true)], args := [d1, d2] }
  | _ => none }
def bucketBoundsRow : OpenClaim := { program := "ytadkfceacnegaaa", sum := "a678dcaae1f67bcbdd96e72c39cfba02e3c55e6e7de876dbd4c8a87a2e8529d7", func := "tollbar/tollbarlaw21.BucketBounds", spec := "bucketBounds", apart := false }
def BucketBoundsSaid : Prop := bucketBoundsRow.holds Try.pinned (OpenSpec.ofChange bucketBoundsSpec)

/-- ITS FALSE NEIGHBOUR: 'it returns false'. Refute it at one input. -/
def bucketBoundsWrong : ChangeSpec := { name := "bucketBounds", fn := fun _ => fun
  | [d1, d2] => { results := [.lit (.bool false)], args := [d1, d2] }
  | _ => none }
def BucketBoundsWrongFalsely : Prop := bucketBoundsRow.holds Try.pinned (OpenSpec.ofChange bucketBoundsWrong)

/-- 'tollbarlaw21.BucketWaits': WHATEVER THE INPUT: true; the input reads as it did. -/
def bucketWaitsSpec : ChangeSpec := { name := "bucketWaits", fn := fun _ => fun
  | [d1, d2, d3] => { results := [.lit (.bool true)], args := [d1, d2, d3] }
  | _ => none }
def bucketWaitsRow : OpenClaim := { program := "ytadkfceacnegaaa", sum := "a678dcaae1f67bcbdd96e72c39cfba02e3c55e6e7de876dbd4c8a87a2e8529d7", func := "tollbar/tollbarlaw21.BucketWaits", spec := "bucketWaits", apart := false }
def BucketWaitsSaid : Prop := bucketWaitsRow.holds Try.pinned (OpenSpec.ofChange bucketWaitsSpec)

/-- ITS FALSE NEIGHBOUR: 'it returns false'. Refute it at one input. -/
def bucketWaitsWrong : ChangeSpec := { name := "bucketWaits", fn := fun _ => fun
  | [d1, d2, d3] => { results := [.lit (.bool false)], args := [d1, d2, d3] }
  | _ => none }
def BucketWaitsWrongFalsely : Prop := bucketWaitsRow.holds Try.pinned (OpenSpec.ofChange bucketWaitsWrong)

/-- 'tollbarlaw21.BucketTunes': WHATEVER THE INPUT: true; the input reads as it did. -/
def bucketTunesSpec : ChangeSpec := { name := "bucketTunes", fn := fun _ => fun
  | [d1, d2] => { results := [.lit (.bool true)], args := [d1, d2] }
  | _ => none }
def bucketTunesRow : OpenClaim := { program := "ytadkfceacnegaaa", sum := "a678dcaae1f67bcbdd96e72c39cfba02e3c55e6e7de876dbd4c8a87a2e8529d7", func := "tollbar/tollbarlaw21.BucketTunes", spec := "bucketTunes", apart := false }
def BucketTunesSaid : Prop := bucketTunesRow.holds Try.pinned (OpenSpec.ofChange bucketTunesSpec)

/-- ITS FALSE NEIGHBOUR: 'it returns false'. Refute it at one input. -/
def bucketTunesWrong : ChangeSpec := { name := "bucketTunes", fn := fun _ => fun
  | [d1, d2] => { results := [.lit (.bool false)], args := [d1, d2] }
  | _ => none }
def BucketTunesWrongFalsely : Prop := bucketTunesRow.holds Try.pinned (OpenSpec.ofChange bucketTunesWrong)

/- THE SECOND FORM. 'bulk': how many values and letters a reading holds, each counted each time it is reached (what is shared counts as often as it is met; a slice's spare places count too). A statement '..UptoSaid' is the law's where the arguments, and the package variables that the reading takes, are together of bulk at most 1048576: NARROWER than '..Said'. Prove '..Said' where nothing that the law and all that it calls make is longer than what came in: it says more and counts as full. Else prove '..UptoSaid'. A law counts once. -/
mutual
def uptoBulk {H : Type} : DataW H → Nat
  | .lit (.string bytes) => bytes.length + 1
  | .lit _ => 1
  | .nil => 1
  | .ptr d => uptoBulk d + 1
  | .slice elems spare => uptoBulkAll elems + uptoBulkAll spare + 1
  | .agg parts => uptoBulkAll parts + 1
  | .iface _ d => uptoBulk d + 1
  | .map entries => uptoBulkEntries entries + 1
  | .held _ => 1
def uptoBulkAll {H : Type} : List (DataW H) → Nat
  | [] => 0
  | d :: r => uptoBulk d + uptoBulkAll r
def uptoBulkEntries {H : Type} : List (Lit × DataW H) → Nat
  | [] => 0
  | x :: r => uptoBulkEntry x + uptoBulkEntries r
def uptoBulkEntry {H : Type} : Lit × DataW H → Nat
  | (.string bytes, d) => bytes.length + uptoBulk d + 1
  | (_, d) => uptoBulk d + 1
 end
def uptoSmall : (H : Type) → List (DataW H) → Bool := fun _ ds => decide (uptoBulkAll ds ≤ 1048576)
def OpenSpec.upto (s : _root_.Go.ChangeSpec) : _root_.Go.OpenSpec := { _root_.Go.OpenSpec.ofChange s with cond := some uptoSmall }

/-- 'tollbarlaw21.BucketDoes', WHERE WHAT IT READS IS OF BULK AT MOST 1048576: true; the input reads as it did. -/
def bucketDoesUptoRow : OpenClaim := { program := "ytadkfceacnegaaa", sum := "a678dcaae1f67bcbdd96e72c39cfba02e3c55e6e7de876dbd4c8a87a2e8529d7", func := "tollbar/tollbarlaw21.BucketDoes", spec := "bucketDoes", apart := false, narrowed := true }
def BucketDoesUptoSaid : Prop := bucketDoesUptoRow.holds Try.pinned (OpenSpec.upto bucketDoesSpec)

/-- 'tollbarlaw21.BucketBounds', WHERE WHAT IT READS IS OF BULK AT MOST 1048576: true; the input reads as it did. -/
def bucketBoundsUptoRow : OpenClaim := { program := "ytadkfceacnegaaa", sum := "a678dcaae1f67bcbdd96e72c39cfba02e3c55e6e7de876dbd4c8a87a2e8529d7", func := "tollbar/tollbarlaw21.BucketBounds", spec := "bucketBounds", apart := false, narrowed := true }
def BucketBoundsUptoSaid : Prop := bucketBoundsUptoRow.holds Try.pinned (OpenSpec.upto bucketBoundsSpec)

/-- 'tollbarlaw21.BucketWaits', WHERE WHAT IT READS IS OF BULK AT MOST 1048576: true; the input reads as it did. -/
def bucketWaitsUptoRow : OpenClaim := { program := "ytadkfceacnegaaa", sum := "a678dcaae1f67bcbdd96e72c39cfba02e3c55e6e7de876dbd4c8a87a2e8529d7", func := "tollbar/tollbarlaw21.BucketWaits", spec := "bucketWaits", apart := false, narrowed := true }
def BucketWaitsUptoSaid : Prop := bucketWaitsUptoRow.holds Try.pinned (OpenSpec.upto bucketWaitsSpec)

/-- 'tollbarlaw21.BucketTunes', WHERE WHAT IT READS IS OF BULK AT MOST 1048576: true; the input reads as it did. -/
def bucketTunesUptoRow : OpenClaim := { program := "ytadkfceacnegaaa", sum := "a678dcaae1f67bcbdd96e72c39cfba02e3c55e6e7de876dbd4c8a87a2e8529d7", func := "tollbar/tollbarlaw21.BucketTunes", spec := "bucketTunes", apart := false, narrowed := true }
def BucketTunesUptoSaid : Prop := bucketTunesUptoRow.holds Try.pinned (OpenSpec.upto bucketTunesSpec)

end Rows
end Go.Proofs.Ytadkfceacnegaaa
