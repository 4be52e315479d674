/-
  The row of the statement ShaperKeeps: for every input it answers true, and its arguments read as they did. Nothing narrows it.
-/
import Derived.Test.YtojbpjcfdjakkaaRows
import Derived.WalkKit
import Derived.ProofKit
import Derived.OpenShut
import Derived.ShutString
import Derived.ChangeOld
import Derived.Below
import Derived.SizedLaws
import Derived.Test.YtojbpjcfdjakkaaKShaperKeeps1
import Derived.Test.YtojbpjcfdjakkaaKShaperKeeps2
import Derived.Test.YtojbpjcfdjakkaaKShaperKeeps3
import Derived.Test.YtojbpjcfdjakkaaKShaperKeeps4
import Derived.Test.YtojbpjcfdjakkaaKShaperKeeps5
import Derived.Test.YtojbpjcfdjakkaaKShaperKeeps6
namespace Go.Proofs.Ytojbpjcfdjakkaa.shaperKeeps
open Go.ChangeShapes Go.WideShapes Go.ChangeAt Go.RowKit
open Go.ChangeMaps (open_string shut_string)
set_option linter.unusedVariables false
set_option linter.unusedSimpArgs false
theorem own : ownKnob Try.prog.godebug = none := by kernel_rfl
theorem laidOut : laidOutB Try.prog = true := by kernel_rfl
set_option maxRecDepth 100000 in
theorem lifted (os : Os) (started : os.Started) (H : Type) (enc : TypeId × Value → H) :
    ReturnsInHanded {} Try.checked os 4 .any (Rows.shaperKeepsSpec.pre6 enc Try.prog Try.f4 Rows.shaperKeepsRow.domain false) (Rows.shaperKeepsSpec.post enc Try.prog Try.f4 false true false false) := by
  refine returnsInHanded_of_change_sized (C := Try.checked) own started (by kernel_rfl) Try.func4
    (ChangeSpec.witness6 (enc := enc) (C := Try.checked) false ⟨#[], #[.slice none 0 0, .slice none 0 0], []⟩ 8 (by kernel_rfl) (by kernel_rfl) (by kernel_rfl) (by kernel_rfl)) ?_
  intro W base args ds gs before hval0 hW hcnd hsz0 _
  have hsz : (DataW.weightsEach Try.prog (Try.f4.params.toList ++ Rows.shaperKeepsSpec.plain.varTypes Try.prog) (ds ++ gs)).all (· ≤ reachBytes) = true := hsz0
  have hval : ∀ (j : Nat) t v, Try.f4.params[j]? = some t → args[j]? = some v → Value.okWide Try.prog W .any base t v := hval0
  have hW' := hW
  obtain ⟨p, q, hA0, hV, rfl, hfz, hnd⟩ := hW
  have hA : DataW.TrodAll enc Try.prog W 0 (fun _ => true) true Try.f4.params.toList args.toList ds p := hA0
  rw [Try.params4] at hA hval hsz
  obtain ⟨v0, vs0, d0, ds0, p0, q0, hargs, rfl, rfl, h0, r0⟩ := trodAll_cons hA
  obtain ⟨v1, vs1, d1, ds1, p1, q1, rfl, rfl, rfl, h1, r1⟩ := trodAll_cons r0
  obtain ⟨rfl, rfl, rfl⟩ := trodAll_nil r1
  obtain rfl : args = #[v0, v1] := by cases args; simp_all
  obtain ⟨rfl, rfl⟩ := trodVars_none hV
  have k0 := h0
  have lt0 : ∀ x ∈ p0, x.block < W.heap.size := by obtain ⟨m, hm⟩ := k0; exact DataW.trod_lt m _ _ _ hm
  obtain ⟨a0, len0, cap0, rfl⟩ := okWide_slice Try.underlying22 (hval 0 22 v0 rfl rfl)
  obtain ⟨D0, Z0, w0⟩ : ∃ d : D, Dens PN W AN (((Ty.row 33 (.st [.str, .bool, (.row 83 (.st [.str, (.int .u64), (.int .u64), (.int .u64), (.int .i64), .bool])), (.st [(.row 96 (.st [(.int .i64), (.int .i64), (.int .i64)])), (.int .i64)])]))).leaves d) [.slice a0 len0 cap0] ∧ ((Ty.row 33 (.st [.str, .bool, (.row 83 (.st [.str, (.int .u64), (.int .u64), (.int .u64), (.int .i64), .bool])), (.st [(.row 96 (.st [(.int .i64), (.int .i64), (.int .i64)])), (.int .i64)])]))).rng d := by obtain ⟨m, hm⟩ := k0; exact Zk6 (.row 33 (.st [.str, .bool, (.row 83 (.st [.str, (.int .u64), (.int .u64), (.int .u64), (.int .i64), .bool])), (.st [(.row 96 (.st [(.int .i64), (.int .i64), (.int .i64)])), (.int .i64)])])) 22 m _ _ (by kernel_rfl) hm
  have z0 : Den PN W AN (.rsl (.row 33 (.st [.str, .bool, (.row 83 (.st [.str, (.int .u64), (.int .u64), (.int .u64), (.int .i64), .bool])), (.st [(.row 96 (.st [(.int .i64), (.int .i64), (.int .i64)])), (.int .i64)])]) D0.toL)) (.slice a0 len0 cap0) := by have h := (Z0.2 0 (by simp [Ty.leaves]) (by simp)).1; simpa [Ty.leaves, lock_eq] using h
  have x0 : ((Ty.row 33 (.st [.str, .bool, (.row 83 (.st [.str, (.int .u64), (.int .u64), (.int .u64), (.int .i64), .bool])), (.st [(.row 96 (.st [(.int .i64), (.int .i64), (.int .i64)])), (.int .i64)])]))).rng (D.l D0.toL) := by simpa only [Ty.rng, D.toL, D.toS, D.toIs] using w0
  have k1 := h1
  have lt1 : ∀ x ∈ p1, x.block < W.heap.size := by obtain ⟨m, hm⟩ := k1; exact DataW.trod_lt m _ _ _ hm
  obtain ⟨a1, len1, cap1, rfl⟩ := okWide_slice Try.underlying23 (hval 1 23 v1 rfl rfl)
  obtain ⟨D1, Z1, w1⟩ : ∃ d : D, Dens PN W AN (((Ty.row 58 (.st [(.int .i64), (.int .i64), (.int .i64), (.int .u64), (.int .u8)]))).leaves d) [.slice a1 len1 cap1] ∧ ((Ty.row 58 (.st [(.int .i64), (.int .i64), (.int .i64), (.int .u64), (.int .u8)]))).rng d := by obtain ⟨m, hm⟩ := k1; exact Zk6 (.row 58 (.st [(.int .i64), (.int .i64), (.int .i64), (.int .u64), (.int .u8)])) 23 m _ _ (by kernel_rfl) hm
  have z1 : Den PN W AN (.rsl (.row 58 (.st [(.int .i64), (.int .i64), (.int .i64), (.int .u64), (.int .u8)]) D1.toL)) (.slice a1 len1 cap1) := by have h := (Z1.2 0 (by simp [Ty.leaves]) (by simp)).1; simpa [Ty.leaves, lock_eq] using h
  have x1 : ((Ty.row 58 (.st [(.int .i64), (.int .i64), (.int .i64), (.int .u64), (.int .u8)]))).rng (D.l D1.toL) := by simpa only [Ty.rng, D.toL, D.toS, D.toIs] using w1
  clear hA0 hval0 hsz0 hsz
  have hp := Ztk D0.toL D1.toL x0 x1
  have call := Zrw Ztc (cargs := [.rsl (.row 33 (.st [.str, .bool, (.row 83 (.st [.str, (.int .u64), (.int .u64), (.int .u64), (.int .i64), .bool])), (.st [(.row 96 (.st [(.int .i64), (.int .i64), (.int .i64)])), (.int .i64)])]) D0.toL), .rsl (.row 58 (.st [(.int .i64), (.int .i64), (.int .i64), (.int .u64), (.int .u8)]) D1.toL)]) (W := W) rfl (fun p hp1 => by rcases List.mem_singleton.1 hp1 with rfl; exact obl.2 ⟨_, by rw [lock_eq]; exact hp⟩) (fun x hx => by rw [lock_eq] at hx; have e := hx.symm.trans hp; cases e; exact ⟨rfl, rfl⟩) (Zgp z0 (Zgp z1 Zr4))
  refine call.mono fun e W' ⟨he, bel⟩ => ?_
  subst he
  exact ⟨_, rfl, _, _, _, [], _, [], hW', trodAll_mk1 (shut_bool Try.underlying4 _), (trodAll_cons_mk (Below.trod laidOut (by kernel_rfl) (of_decide_eq_true (by kernel_rfl)) k0 bel lt0) (trodAll_cons_mk (Below.trod laidOut (by kernel_rfl) (of_decide_eq_true (by kernel_rfl)) k1 bel lt1) trodAll_mk0)), rfl, bel.frame _, fun h => by cases h⟩
theorem over : Rows.shaperKeepsRow.holds Try.pinned (OpenSpec.ofChange Rows.shaperKeepsSpec) :=
  OpenClaim.holds_of_wide 4 Try.f4 rfl rfl rfl rfl rfl rfl rfl ⟨rfl, rfl, rfl, rfl, rfl⟩ rfl rfl rfl rfl rfl (by kernel_rfl) Try.func4 (by kernel_rfl)
    (of_decide_eq_true (by kernel_rfl)) (by unfold Func.isWrapper; first | (rw [if_pos (by decide +kernel)]; kernel_rfl) | (rw [if_neg (by decide +kernel)]; exact ⟨rfl, rfl⟩))
    (fun os started H enc _ => lifted os started H enc)
theorem proved : Rows.ShaperKeepsSaid := over
#print axioms proved
end Go.Proofs.Ytojbpjcfdjakkaa.shaperKeeps
namespace Go.Proofs.Ytojbpjcfdjakkaa
/-- The row, under a short name, for the claim. -/
theorem shaperKeeps_holds : Rows.ShaperKeepsSaid := shaperKeeps.proved
end Go.Proofs.Ytojbpjcfdjakkaa
