/-
  The row of the statement TlvOwn: for every input it answers true, and its arguments read as they did. Nothing narrows it.
-/
import Derived.Test.YtknaheioedkaeaaRows
import Derived.WalkKit
import Derived.ProofKit
import Derived.OpenShut
import Derived.ShutString
import Derived.ChangeOld
import Derived.Below
import Derived.SizedLaws
import Derived.Test.YtknaheioedkaeaaKTlvOwn1
import Derived.Test.YtknaheioedkaeaaKTlvOwn2
import Derived.Test.YtknaheioedkaeaaKTlvOwn3
import Derived.Test.YtknaheioedkaeaaKTlvOwn4
import Derived.Test.YtknaheioedkaeaaKTlvOwn5
import Derived.Test.YtknaheioedkaeaaKTlvOwn6
namespace Go.Proofs.Ytknaheioedkaeaa.tlvOwn
open Go.ChangeShapes Go.WideShapes Go.ChangeAt Go.RowKit
open Go.ChangeMaps (open_string shut_string)
set_option linter.unusedVariables false
set_option linter.unusedSimpArgs false
theorem own : ownKnob Try.prog.godebug = none := by kernel_rfl
theorem laidOut : laidOutB Try.prog = true := by kernel_rfl
set_option maxRecDepth 100000 in
theorem lifted (os : Os) (started : os.Started) (H : Type) (enc : TypeId × Value → H) :
    ReturnsInHanded {} Try.checked os 6 .any (Rows.tlvOwnSpec.pre6 enc Try.prog Try.f6 Rows.tlvOwnRow.domain false) (Rows.tlvOwnSpec.post enc Try.prog Try.f6 false true false false) := by
  refine returnsInHanded_of_change_sized (C := Try.checked) own started (by kernel_rfl) Try.func6
    (ChangeSpec.witness6 (enc := enc) (C := Try.checked) false ⟨#[], #[.slice none 0 0], []⟩ 8 (by kernel_rfl) (by kernel_rfl) (by kernel_rfl) (by kernel_rfl)) ?_
  intro W base args ds gs before hval0 hW hcnd hsz0 _
  have hsz : (DataW.weightsEach Try.prog (Try.f6.params.toList ++ Rows.tlvOwnSpec.plain.varTypes Try.prog) (ds ++ gs)).all (· ≤ reachBytes) = true := hsz0
  have hval : ∀ (j : Nat) t v, Try.f6.params[j]? = some t → args[j]? = some v → Value.okWide Try.prog W .any base t v := hval0
  have hW' := hW
  obtain ⟨p, q, hA0, hV, rfl, hfz, hnd⟩ := hW
  have hA : DataW.TrodAll enc Try.prog W 0 (fun _ => true) true Try.f6.params.toList args.toList ds p := hA0
  rw [Try.params6] at hA hval hsz
  obtain ⟨v0, vs0, d0, ds0, p0, q0, hargs, rfl, rfl, h0, r0⟩ := trodAll_cons hA
  obtain ⟨rfl, rfl, rfl⟩ := trodAll_nil r0
  obtain rfl : args = #[v0] := by cases args; simp_all
  obtain ⟨rfl, rfl⟩ := trodVars_none hV
  have k0 := h0
  have lt0 : ∀ x ∈ p0, x.block < W.heap.size := by obtain ⟨m, hm⟩ := k0; exact DataW.trod_lt m _ _ _ hm
  obtain ⟨a0, len0, cap0, rfl⟩ := okWide_slice Try.underlying27 (hval 0 27 v0 rfl rfl)
  obtain ⟨D0, Z0, w0⟩ : ∃ d : D, Dens PN W AN (((Ty.bytes 5)).leaves d) [.slice a0 len0 cap0] ∧ ((Ty.bytes 5)).rng d := by obtain ⟨m, hm⟩ := k0; exact open_ty (.bytes 5) 27 m _ _ (by kernel_rfl) hm
  have z0 : Den PN W AN (.rsl (.bs 5 D0.toS)) (.slice a0 len0 cap0) := by have h := (Z0.2 0 (by simp [Ty.leaves]) (by simp)).1; simpa [Ty.leaves, lock_eq] using h
  have x0 : ((Ty.bytes 5)).rng (D.s D0.toS) := by simpa only [Ty.rng, D.toL, D.toS, D.toIs] using w0
  clear hA0 hval0 hsz0 hsz
  have hp := p_TlvOwn D0.toS x0
  have call := law_many ok_tollbarlaw03_TlvOwn (cargs := [.rsl (.bs 5 D0.toS)]) (W := W) rfl (fun p hp1 => by rcases List.mem_singleton.1 hp1 with rfl; exact obl.2 ⟨_, by rw [lock_eq]; exact hp⟩) (fun x hx => by rw [lock_eq] at hx; have e := hx.symm.trans hp; cases e; exact ⟨rfl, rfl⟩) (densA_cons z0 densA_nil)
  refine call.mono fun e W' ⟨he, bel⟩ => ?_
  subst he
  exact ⟨_, rfl, _, _, _, [], _, [], hW', trodAll_mk1 (shut_bool Try.underlying4 _), (trodAll_cons_mk (Below.trod laidOut (by kernel_rfl) (of_decide_eq_true (by kernel_rfl)) k0 bel lt0) trodAll_mk0), rfl, bel.frame _, fun h => by cases h⟩
theorem over : Rows.tlvOwnRow.holds Try.pinned (OpenSpec.ofChange Rows.tlvOwnSpec) :=
  OpenClaim.holds_of_wide 6 Try.f6 rfl rfl rfl rfl rfl rfl rfl ⟨rfl, rfl, rfl, rfl, rfl⟩ rfl rfl rfl rfl rfl (by kernel_rfl) Try.func6 (by kernel_rfl)
    (of_decide_eq_true (by kernel_rfl)) (by unfold Func.isWrapper; first | (rw [if_pos (by decide +kernel)]; kernel_rfl) | (rw [if_neg (by decide +kernel)]; exact ⟨rfl, rfl⟩))
    (fun os started H enc _ => lifted os started H enc)
theorem proved : Rows.TlvOwnSaid := over
#print axioms proved
end Go.Proofs.Ytknaheioedkaeaa.tlvOwn
namespace Go.Proofs.Ytknaheioedkaeaa
/-- The row, under a short name, for the claim. -/
theorem tlvOwn_holds : Rows.TlvOwnSaid := tlvOwn.proved
end Go.Proofs.Ytknaheioedkaeaa
