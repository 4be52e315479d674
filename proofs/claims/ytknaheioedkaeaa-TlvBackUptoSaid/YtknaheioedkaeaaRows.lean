/-
  NARROWER THAN 'FOR EVERY INPUT', by the rows' own cells (each row's printed sentence says how): TlvPuts: loops · TlvBack: loops.
  DERIVED. THE GIVEN ROWS OF THIS SEAT. 5 by the template 'for every input the law returns true; each argument reads behind the call as it read before'; 0 by the template 'total and deterministic' (their statements: YtknaheioedkaeaaTotals.lean).
  GIVEN WITH THE SEED: the statements are not yours to turn. If you find one false, say at which input.
  Laid BY PROGRAM, IN A SANDBOX (cutbox-rows.mjs): the forced cells as the released guide's own fill.sh prints them over the translation 48fc4ba4b84ca24a… (all of the seat's roots in one cut). By AI agents, Wed Nov 11 2026. No macro, syntax, notation, axiom, sorry.
-/
import Derived.Test.YtknaheioedkaeaaChecked
import GoSem.Claim
import GoSem.ClaimJoined
import GoSem.ClaimMapViews
import Derived.JoinedTies
import Derived.KernelRfl
namespace Go.Proofs.Ytknaheioedkaeaa
/- THE CELL 'sum', in the pinned program and in every row, IS THE sha256 OF THE DUMP (.gsa) THAT YtknaheioedkaeaaProg.lean LOADS. Nothing in Lean hashes anything: it is a label: what it is worth is what the hold of that sum in a sandbox is worth. -/
noncomputable def Try.pinned : Pinned := { name := "ytknaheioedkaeaa", sum := "48fc4ba4b84ca24a352ccf3aa1f2e9ee101811f50d206a6b69946e94724a1066", checked := Try.checked }
namespace Rows
def none {H : Type} : Left H := { results := [], args := [] }

/-- 'tollbarlaw03.TlvPuts': WHATEVER THE INPUT: true; the input reads as it did. -/
def tlvPutsSpec : ChangeSpec := { name := "tlvPuts", fn := fun _ => fun
  | [d] => { results := [.lit (.bool true)], args := [d] }
  | _ => none }
def tlvPutsRow : OpenClaim := { program := "ytknaheioedkaeaa", sum := "48fc4ba4b84ca24a352ccf3aa1f2e9ee101811f50d206a6b69946e94724a1066", func := "tollbar/tollbarlaw03.TlvPuts", spec := "tlvPuts", unfollowed := true, recurses := true, loops := true, apart := false }
def TlvPutsSaid : Prop := tlvPutsRow.holds Try.pinned (OpenSpec.ofChange tlvPutsSpec)

/-- ITS FALSE NEIGHBOUR: 'it returns false'. Refute it at one input. -/
def tlvPutsWrong : ChangeSpec := { name := "tlvPuts", fn := fun _ => fun
  | [d] => { results := [.lit (.bool false)], args := [d] }
  | _ => none }
def TlvPutsWrongFalsely : Prop := tlvPutsRow.holds Try.pinned (OpenSpec.ofChange tlvPutsWrong)

/-- 'tollbarlaw03.TlvGets': WHATEVER THE INPUT: true; the input reads as it did. -/
def tlvGetsSpec : ChangeSpec := { name := "tlvGets", fn := fun _ => fun
  | [d] => { results := [.lit (.bool true)], args := [d] }
  | _ => none }
def tlvGetsRow : OpenClaim := { program := "ytknaheioedkaeaa", sum := "48fc4ba4b84ca24a352ccf3aa1f2e9ee101811f50d206a6b69946e94724a1066", func := "tollbar/tollbarlaw03.TlvGets", spec := "tlvGets", unfollowed := true, recurses := true, apart := false }
def TlvGetsSaid : Prop := tlvGetsRow.holds Try.pinned (OpenSpec.ofChange tlvGetsSpec)

/-- ITS FALSE NEIGHBOUR: 'it returns false'. Refute it at one input. -/
def tlvGetsWrong : ChangeSpec := { name := "tlvGets", fn := fun _ => fun
  | [d] => { results := [.lit (.bool false)], args := [d] }
  | _ => none }
def TlvGetsWrongFalsely : Prop := tlvGetsRow.holds Try.pinned (OpenSpec.ofChange tlvGetsWrong)

/-- 'tollbarlaw03.TlvBack': WHATEVER THE INPUT: true; the input reads as it did. -/
def tlvBackSpec : ChangeSpec := { name := "tlvBack", fn := fun _ => fun
  | [d1, d2] => { results := [.lit (.bool true)], args := [d1, d2] }
  | _ => none }
def tlvBackRow : OpenClaim := { program := "ytknaheioedkaeaa", sum := "48fc4ba4b84ca24a352ccf3aa1f2e9ee101811f50d206a6b69946e94724a1066", func := "tollbar/tollbarlaw03.TlvBack", spec := "tlvBack", unfollowed := true, recurses := true, loops := true, apart := false }
def TlvBackSaid : Prop := tlvBackRow.holds Try.pinned (OpenSpec.ofChange tlvBackSpec)

/-- ITS FALSE NEIGHBOUR: 'it returns false'. Refute it at one input. -/
def tlvBackWrong : ChangeSpec := { name := "tlvBack", fn := fun _ => fun
  | [d1, d2] => { results := [.lit (.bool false)], args := [d1, d2] }
  | _ => none }
def TlvBackWrongFalsely : Prop := tlvBackRow.holds Try.pinned (OpenSpec.ofChange tlvBackWrong)

/-- 'tollbarlaw03.TlvOwn': WHATEVER THE INPUT: true; the input reads as it did. -/
def tlvOwnSpec : ChangeSpec := { name := "tlvOwn", fn := fun _ => fun
  | [d] => { results := [.lit (.bool true)], args := [d] }
  | _ => none }
def tlvOwnRow : OpenClaim := { program := "ytknaheioedkaeaa", sum := "48fc4ba4b84ca24a352ccf3aa1f2e9ee101811f50d206a6b69946e94724a1066", func := "tollbar/tollbarlaw03.TlvOwn", spec := "tlvOwn", unfollowed := true, recurses := true, apart := false }
def TlvOwnSaid : Prop := tlvOwnRow.holds Try.pinned (OpenSpec.ofChange tlvOwnSpec)

/-- ITS FALSE NEIGHBOUR: 'it returns false'. Refute it at one input. -/
def tlvOwnWrong : ChangeSpec := { name := "tlvOwn", fn := fun _ => fun
  | [d] => { results := [.lit (.bool false)], args := [d] }
  | _ => none }
def TlvOwnWrongFalsely : Prop := tlvOwnRow.holds Try.pinned (OpenSpec.ofChange tlvOwnWrong)

/-- 'tollbarlaw03.TlvDeep': WHATEVER THE INPUT: true; the input reads as it did. -/
def tlvDeepSpec : ChangeSpec := { name := "tlvDeep", fn := fun _ => fun
  | [d1, d2] => { results := [.lit (.bool true)], args := [d1, d2] }
  | _ => none }
def tlvDeepRow : OpenClaim := { program := "ytknaheioedkaeaa", sum := "48fc4ba4b84ca24a352ccf3aa1f2e9ee101811f50d206a6b69946e94724a1066", func := "tollbar/tollbarlaw03.TlvDeep", spec := "tlvDeep", unfollowed := true, recurses := true, apart := false }
def TlvDeepSaid : Prop := tlvDeepRow.holds Try.pinned (OpenSpec.ofChange tlvDeepSpec)

/-- ITS FALSE NEIGHBOUR: 'it returns false'. Refute it at one input. -/
def tlvDeepWrong : ChangeSpec := { name := "tlvDeep", fn := fun _ => fun
  | [d1, d2] => { results := [.lit (.bool false)], args := [d1, d2] }
  | _ => none }
def TlvDeepWrongFalsely : Prop := tlvDeepRow.holds Try.pinned (OpenSpec.ofChange tlvDeepWrong)

/- THE SECOND FORM. 'bulk': how many values and letters a reading holds, each counted each time it is reached (what is shared counts as often as it is met; a slice's spare places count too). A statement '..UptoSaid' is the law's where the arguments, and the package variables that the reading takes, are together of bulk at most 1048576: NARROWER than '..Said'. Prove '..Said' where nothing that the law and all that it calls make is longer than what came in: it says more and counts as full. Else prove '..UptoSaid'. A law counts once. -/
mutual
def uptoBulk {H : Type} : DataW H → Nat
  | .lit (.string bytes) => bytes.length + 1
  | .lit _ => 1
  | .nil => 1
  | .ptr d => uptoBulk d + 1
  | .slice elems spare => uptoBulkAll elems + uptoBulkAll spare + 1
  | .agg parts => uptoBulkAll parts + 1
  | .iface _ d => uptoBulk d + 1
  | .map entries => uptoBulkEntries entries + 1
  | .held _ => 1
def uptoBulkAll {H : Type} : List (DataW H) → Nat
  | [] => 0
  | d :: r => uptoBulk d + uptoBulkAll r
def uptoBulkEntries {H : Type} : List (Lit × DataW H) → Nat
  | [] => 0
  | x :: r => uptoBulkEntry x + uptoBulkEntries r
def uptoBulkEntry {H : Type} : Lit × DataW H → Nat
  | (.string bytes, d) => bytes.length + uptoBulk d + 1
  | (_, d) => uptoBulk d + 1
 end
def uptoSmall : (H : Type) → List (DataW H) → Bool := fun _ ds => decide (uptoBulkAll ds ≤ 1048576)
def OpenSpec.upto (s : _root_.Go.ChangeSpec) : _root_.Go.OpenSpec := { _root_.Go.OpenSpec.ofChange s with cond := some uptoSmall }

/-- 'tollbarlaw03.TlvPuts', WHERE WHAT IT READS IS OF BULK AT MOST 1048576: true; the input reads as it did. -/
def tlvPutsUptoRow : OpenClaim := { program := "ytknaheioedkaeaa", sum := "48fc4ba4b84ca24a352ccf3aa1f2e9ee101811f50d206a6b69946e94724a1066", func := "tollbar/tollbarlaw03.TlvPuts", spec := "tlvPuts", unfollowed := true, recurses := true, loops := true, apart := false, narrowed := true }
def TlvPutsUptoSaid : Prop := tlvPutsUptoRow.holds Try.pinned (OpenSpec.upto tlvPutsSpec)

/-- 'tollbarlaw03.TlvGets', WHERE WHAT IT READS IS OF BULK AT MOST 1048576: true; the input reads as it did. -/
def tlvGetsUptoRow : OpenClaim := { program := "ytknaheioedkaeaa", sum := "48fc4ba4b84ca24a352ccf3aa1f2e9ee101811f50d206a6b69946e94724a1066", func := "tollbar/tollbarlaw03.TlvGets", spec := "tlvGets", unfollowed := true, recurses := true, apart := false, narrowed := true }
def TlvGetsUptoSaid : Prop := tlvGetsUptoRow.holds Try.pinned (OpenSpec.upto tlvGetsSpec)

/-- 'tollbarlaw03.TlvBack', WHERE WHAT IT READS IS OF BULK AT MOST 1048576: true; the input reads as it did. -/
def tlvBackUptoRow : OpenClaim := { program := "ytknaheioedkaeaa", sum := "48fc4ba4b84ca24a352ccf3aa1f2e9ee101811f50d206a6b69946e94724a1066", func := "tollbar/tollbarlaw03.TlvBack", spec := "tlvBack", unfollowed := true, recurses := true, loops := true, apart := false, narrowed := true }
def TlvBackUptoSaid : Prop := tlvBackUptoRow.holds Try.pinned (OpenSpec.upto tlvBackSpec)

/-- 'tollbarlaw03.TlvOwn', WHERE WHAT IT READS IS OF BULK AT MOST 1048576: true; the input reads as it did. -/
def tlvOwnUptoRow : OpenClaim := { program := "ytknaheioedkaeaa", sum := "48fc4ba4b84ca24a352ccf3aa1f2e9ee101811f50d206a6b69946e94724a1066", func := "tollbar/tollbarlaw03.TlvOwn", spec := "tlvOwn", unfollowed := true, recurses := true, apart := false, narrowed := true }
def TlvOwnUptoSaid : Prop := tlvOwnUptoRow.holds Try.pinned (OpenSpec.upto tlvOwnSpec)

/-- 'tollbarlaw03.TlvDeep', WHERE WHAT IT READS IS OF BULK AT MOST 1048576: true; the input reads as it did. -/
def tlvDeepUptoRow : OpenClaim := { program := "ytknaheioedkaeaa", sum := "48fc4ba4b84ca24a352ccf3aa1f2e9ee101811f50d206a6b69946e94724a1066", func := "tollbar/tollbarlaw03.TlvDeep", spec := "tlvDeep", unfollowed := true, recurses := true, apart := false, narrowed := true }
def TlvDeepUptoSaid : Prop := tlvDeepUptoRow.holds Try.pinned (OpenSpec.upto tlvDeepSpec)

end Rows
end Go.Proofs.Ytknaheioedkaeaa
