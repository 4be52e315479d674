/-
  No cell of these rows narrows 'for every input' (looked for: loops, veiled, ifaces, maps, wideKeys, modest, calm, conditions, laid).
  DERIVED. THE GIVEN ROWS OF THIS SEAT. 5 by the template 'for every input the law returns true; each argument reads behind the call as it read before'; 0 by the template 'total and deterministic' (their statements: YtojbpjcfdjakkaaTotals.lean).
  GIVEN WITH THE SEED: the statements are not yours to turn. If you find one false, say at which input.
  Laid BY PROGRAM, IN A SANDBOX (cutbox-rows.mjs): the forced cells as the released guide's own fill.sh prints them over the translation 8313926f1c62f5ea… (all of the seat's roots in one cut). By AI agents, Wed Nov 11 2026. No macro, syntax, notation, axiom, sorry.
-/
import Derived.Test.YtojbpjcfdjakkaaChecked
import GoSem.Claim
import GoSem.ClaimJoined
import GoSem.ClaimMapViews
import Derived.JoinedTies
import Derived.KernelRfl
namespace Go.Proofs.Ytojbpjcfdjakkaa
/- THE CELL 'sum', in the pinned program and in every row, IS THE sha256 OF THE DUMP (.gsa) THAT YtojbpjcfdjakkaaProg.lean LOADS. Nothing in Lean hashes anything: it is a label: what it is worth is what the hold of that sum in a sandbox is worth. -/
noncomputable def Try.pinned : Pinned := { name := "ytojbpjcfdjakkaa", sum := "8313926f1c62f5ea9416f5bee4d579981c6f9380cbd8adb208898812fe22902d", checked := Try.checked }
namespace Rows
def none {H : Type} : Left H := { results := [], args := [] }

/-- 'tollbarlaw27.ShaperDoes': WHATEVER THE INPUT: true; the input reads as it did. -/
def shaperDoesSpec : ChangeSpec := { name := "shaperDoes", fn := fun _ => fun
  | [d1, d2] => { results := [.lit (.bool true)], args := [d1, d2] }
  | _ => none }
def shaperDoesRow : OpenClaim := { program := "ytojbpjcfdjakkaa", sum := "8313926f1c62f5ea9416f5bee4d579981c6f9380cbd8adb208898812fe22902d", func := "tollbar/tollbarlaw27.ShaperDoes", spec := "shaperDoes", unfollowed := true, recurses := true, apart := false }
def ShaperDoesSaid : Prop := shaperDoesRow.holds Try.pinned (OpenSpec.ofChange shaperDoesSpec)

/-- ITS FALSE NEIGHBOUR: 'it returns false'. Refute it at one input. -/
def shaperDoesWrong : ChangeSpec := { name := "shaperDoes", fn := fun _ => fun
  | [d1, d2] => { results := [.lit (.bool false)], args := [d1, d2] }
  | _ => none }
def ShaperDoesWrongFalsely : Prop := shaperDoesRow.holds Try.pinned (OpenSpec.ofChange shaperDoesWrong)

/-- 'tollbarlaw27.ShaperKeeps': WHATEVER THE INPUT: true; the input reads as it did. -/
def shaperKeepsSpec : ChangeSpec := { name := "shaperKeeps", fn := fun _ => fun
  | [d1, d2] => { results := [.lit (.bool true)], args := [d1, d2] }
  | _ => none }
def shaperKeepsRow : OpenClaim := { program := "ytojbpjcfdjakkaa", sum := "8313926f1c62f5ea9416f5bee4d579981c6f9380cbd8adb208898812fe22902d", func := "tollbar/tollbarlaw27.ShaperKeeps", spec := "shaperKeeps", unfollowed := true, recurses := true, apart := false }
def ShaperKeepsSaid : Prop := shaperKeepsRow.holds Try.pinned (OpenSpec.ofChange shaperKeepsSpec)

/-- ITS FALSE NEIGHBOUR: 'it returns false'. Refute it at one input. -/
def shaperKeepsWrong : ChangeSpec := { name := "shaperKeeps", fn := fun _ => fun
  | [d1, d2] => { results := [.lit (.bool false)], args := [d1, d2] }
  | _ => none }
def ShaperKeepsWrongFalsely : Prop := shaperKeepsRow.holds Try.pinned (OpenSpec.ofChange shaperKeepsWrong)

/-- 'tollbarlaw27.ShaperDrops': WHATEVER THE INPUT: true; the input reads as it did. -/
def shaperDropsSpec : ChangeSpec := { name := "shaperDrops", fn := fun _ => fun
  | [d1, d2] => { results := [.lit (.bool true)], args := [d1, d2] }
  | _ => none }
def shaperDropsRow : OpenClaim := { program := "ytojbpjcfdjakkaa", sum := "8313926f1c62f5ea9416f5bee4d579981c6f9380cbd8adb208898812fe22902d", func := "tollbar/tollbarlaw27.ShaperDrops", spec := "shaperDrops", unfollowed := true, recurses := true, apart := false }
def ShaperDropsSaid : Prop := shaperDropsRow.holds Try.pinned (OpenSpec.ofChange shaperDropsSpec)

/-- ITS FALSE NEIGHBOUR: 'it returns false'. Refute it at one input. -/
def shaperDropsWrong : ChangeSpec := { name := "shaperDrops", fn := fun _ => fun
  | [d1, d2] => { results := [.lit (.bool false)], args := [d1, d2] }
  | _ => none }
def ShaperDropsWrongFalsely : Prop := shaperDropsRow.holds Try.pinned (OpenSpec.ofChange shaperDropsWrong)

/-- 'tollbarlaw27.ShaperRates': WHATEVER THE INPUT: true; the input reads as it did. -/
def shaperRatesSpec : ChangeSpec := { name := "shaperRates", fn := fun _ => fun
  | [d1, d2, d3] => { results := [.lit (.bool true)], args := [d1, d2, d3] }
  | _ => none }
def shaperRatesRow : OpenClaim := { program := "ytojbpjcfdjakkaa", sum := "8313926f1c62f5ea9416f5bee4d579981c6f9380cbd8adb208898812fe22902d", func := "tollbar/tollbarlaw27.ShaperRates", spec := "shaperRates", unfollowed := true, recurses := true, apart := false }
def ShaperRatesSaid : Prop := shaperRatesRow.holds Try.pinned (OpenSpec.ofChange shaperRatesSpec)

/-- ITS FALSE NEIGHBOUR: 'it returns false'. Refute it at one input. -/
def shaperRatesWrong : ChangeSpec := { name := "shaperRates", fn := fun _ => fun
  | [d1, d2, d3] => { results := [.lit (.bool false)], args := [d1, d2, d3] }
  | _ => none }
def ShaperRatesWrongFalsely : Prop := shaperRatesRow.holds Try.pinned (OpenSpec.ofChange shaperRatesWrong)

/-- 'tollbarlaw27.ShaperApplies': WHATEVER THE INPUT: true; the input reads as it did. -/
def shaperAppliesSpec : ChangeSpec := { name := "shaperApplies", fn := fun _ => fun
  | [d1, d2, d3] => { results := [.lit (.bool true)], args := [d1, d2, d3] }
  | _ => none }
def shaperAppliesRow : OpenClaim := { program := "ytojbpjcfdjakkaa", sum := "8313926f1c62f5ea9416f5bee4d579981c6f9380cbd8adb208898812fe22902d", func := "tollbar/tollbarlaw27.ShaperApplies", spec := "shaperApplies", unfollowed := true, recurses := true, apart := false }
def ShaperAppliesSaid : Prop := shaperAppliesRow.holds Try.pinned (OpenSpec.ofChange shaperAppliesSpec)

/-- ITS FALSE NEIGHBOUR: 'it returns false'. Refute it at one input. -/
def shaperAppliesWrong : ChangeSpec := { name := "shaperApplies", fn := fun _ => fun
  | [d1, d2, d3] => { results := [.lit (.bool false)], args := [d1, d2, d3] }
  | _ => none }
def ShaperAppliesWrongFalsely : Prop := shaperAppliesRow.holds Try.pinned (OpenSpec.ofChange shaperAppliesWrong)

/- THE SECOND FORM. 'bulk': how many values and letters a reading holds, each counted each time it is reached (what is shared counts as often as it is met; a slice's spare places count too). A statement '..UptoSaid' is the law's where the arguments, and the package variables that the reading takes, are together of bulk at most 1048576: NARROWER than '..Said'. Prove '..Said' where nothing that the law and all that it calls make is longer than what came in: it says more and counts as full. Else prove '..UptoSaid'. A law counts once. -/
mutual
def uptoBulk {H : Type} : DataW H → Nat
  | .lit (.string bytes) => bytes.length + 1
  | .lit _ => 1
  | .nil => 1
  | .ptr d => uptoBulk d + 1
  | .slice elems spare => uptoBulkAll elems + uptoBulkAll spare + 1
  | .agg parts => uptoBulkAll parts + 1
  | .iface _ d => uptoBulk d + 1
  | .map entries => uptoBulkEntries entries + 1
  | .held _ => 1
def uptoBulkAll {H : Type} : List (DataW H) → Nat
  | [] => 0
  | d :: r => uptoBulk d + uptoBulkAll r
def uptoBulkEntries {H : Type} : List (Lit × DataW H) → Nat
  | [] => 0
  | x :: r => uptoBulkEntry x + uptoBulkEntries r
def uptoBulkEntry {H : Type} : Lit × DataW H → Nat
  | (.string bytes, d) => bytes.length + uptoBulk d + 1
  | (_, d) => uptoBulk d + 1
 end
def uptoSmall : (H : Type) → List (DataW H) → Bool := fun _ ds => decide (uptoBulkAll ds ≤ 1048576)
def OpenSpec.upto (s : _root_.Go.ChangeSpec) : _root_.Go.OpenSpec := { _root_.Go.OpenSpec.ofChange s with cond := some uptoSmall }

/-- 'tollbarlaw27.ShaperDoes', WHERE WHAT IT READS IS OF BULK AT MOST 1048576: true; the input reads as it did. -/
def shaperDoesUptoRow : OpenClaim := { program := "ytojbpjcfdjakkaa", sum := "8313926f1c62f5ea9416f5bee4d579981c6f9380cbd8adb208898812fe22902d", func := "tollbar/tollbarlaw27.ShaperDoes", spec := "shaperDoes", unfollowed := true, recurses := true, apart := false, narrowed := true }
def ShaperDoesUptoSaid : Prop := shaperDoesUptoRow.holds Try.pinned (OpenSpec.upto shaperDoesSpec)

/-- 'tollbarlaw27.ShaperKeeps', WHERE WHAT IT READS IS OF BULK AT MOST 1048576: true; the input reads as it did. -/
def shaperKeepsUptoRow : OpenClaim := { program := "ytojbpjcfdjakkaa", sum := "8313926f1c62f5ea9416f5bee4d579981c6f9380cbd8adb208898812fe22902d", func := "tollbar/tollbarlaw27.ShaperKeeps", spec := "shaperKeeps", unfollowed := true, recurses := true, apart := false, narrowed := true }
def ShaperKeepsUptoSaid : Prop := shaperKeepsUptoRow.holds Try.pinned (OpenSpec.upto shaperKeepsSpec)

/-- 'tollbarlaw27.ShaperDrops', WHERE WHAT IT READS IS OF BULK AT MOST 1048576: true; the input reads as it did. -/
def shaperDropsUptoRow : OpenClaim := { program := "ytojbpjcfdjakkaa", sum := "8313926f1c62f5ea9416f5bee4d579981c6f9380cbd8adb208898812fe22902d", func := "tollbar/tollbarlaw27.ShaperDrops", spec := "shaperDrops", unfollowed := true, recurses := true, apart := false, narrowed := true }
def ShaperDropsUptoSaid : Prop := shaperDropsUptoRow.holds Try.pinned (OpenSpec.upto shaperDropsSpec)

/-- 'tollbarlaw27.ShaperRates', WHERE WHAT IT READS IS OF BULK AT MOST 1048576: true; the input reads as it did. -/
def shaperRatesUptoRow : OpenClaim := { program := "ytojbpjcfdjakkaa", sum := "8313926f1c62f5ea9416f5bee4d579981c6f9380cbd8adb208898812fe22902d", func := "tollbar/tollbarlaw27.ShaperRates", spec := "shaperRates", unfollowed := true, recurses := true, apart := false, narrowed := true }
def ShaperRatesUptoSaid : Prop := shaperRatesUptoRow.holds Try.pinned (OpenSpec.upto shaperRatesSpec)

/-- 'tollbarlaw27.ShaperApplies', WHERE WHAT IT READS IS OF BULK AT MOST 1048576: true; the input reads as it did. -/
def shaperAppliesUptoRow : OpenClaim := { program := "ytojbpjcfdjakkaa", sum := "8313926f1c62f5ea9416f5bee4d579981c6f9380cbd8adb208898812fe22902d", func := "tollbar/tollbarlaw27.ShaperApplies", spec := "shaperApplies", unfollowed := true, recurses := true, apart := false, narrowed := true }
def ShaperAppliesUptoSaid : Prop := shaperAppliesUptoRow.holds Try.pinned (OpenSpec.upto shaperAppliesSpec)

end Rows
end Go.Proofs.Ytojbpjcfdjakkaa
