/-
  The row of the statement TlvDeep: for every input it answers true, and its arguments read as they did. Nothing narrows it.
-/
import Derived.Test.YtknaheioedkaeaaRows
import Derived.WalkKit
import Derived.ProofKit
import Derived.OpenShut
import Derived.ShutString
import Derived.ChangeOld
import Derived.Below
import Derived.SizedLaws
import Derived.Test.YtknaheioedkaeaaKTlvDeep1
import Derived.Test.YtknaheioedkaeaaKTlvDeep2
import Derived.Test.YtknaheioedkaeaaKTlvDeep3
import Derived.Test.YtknaheioedkaeaaKTlvDeep4
import Derived.Test.YtknaheioedkaeaaKTlvDeep5
import Derived.Test.YtknaheioedkaeaaKTlvDeep6
namespace Go.Proofs.Ytknaheioedkaeaa.tlvDeep
open Go.ChangeShapes Go.WideShapes Go.ChangeAt Go.RowKit
open Go.ChangeMaps (open_string shut_string)
set_option linter.unusedVariables false
set_option linter.unusedSimpArgs false
theorem own : ownKnob Try.prog.godebug = none := by kernel_rfl
theorem laidOut : laidOutB Try.prog = true := by kernel_rfl
set_option maxRecDepth 100000 in
theorem lifted (os : Os) (started : os.Started) (H : Type) (enc : TypeId × Value → H) :
    ReturnsInHanded {} Try.checked os 7 .any (Rows.tlvDeepSpec.pre6 enc Try.prog Try.f7 Rows.tlvDeepRow.domain false) (Rows.tlvDeepSpec.post enc Try.prog Try.f7 false true false false) := by
  refine returnsInHanded_of_change_sized (C := Try.checked) own started (by kernel_rfl) Try.func7
    (ChangeSpec.witness6 (enc := enc) (C := Try.checked) false ⟨#[], #[.slice none 0 0, .slice none 0 0], []⟩ 8 (by kernel_rfl) (by kernel_rfl) (by kernel_rfl) (by kernel_rfl)) ?_
  intro W base args ds gs before hval0 hW hcnd hsz0 _
  have hsz : (DataW.weightsEach Try.prog (Try.f7.params.toList ++ Rows.tlvDeepSpec.plain.varTypes Try.prog) (ds ++ gs)).all (· ≤ reachBytes) = true := hsz0
  have hval : ∀ (j : Nat) t v, Try.f7.params[j]? = some t → args[j]? = some v → Value.okWide Try.prog W .any base t v := hval0
  have hW' := hW
  obtain ⟨p, q, hA0, hV, rfl, hfz, hnd⟩ := hW
  have hA : DataW.TrodAll enc Try.prog W 0 (fun _ => true) true Try.f7.params.toList args.toList ds p := hA0
  rw [Try.params7] at hA hval hsz
  obtain ⟨v0, vs0, d0, ds0, p0, q0, hargs, rfl, rfl, h0, r0⟩ := trodAll_cons hA
  obtain ⟨v1, vs1, d1, ds1, p1, q1, rfl, rfl, rfl, h1, r1⟩ := trodAll_cons r0
  obtain ⟨rfl, rfl, rfl⟩ := trodAll_nil r1
  obtain rfl : args = #[v0, v1] := by cases args; simp_all
  obtain ⟨rfl, rfl⟩ := trodVars_none hV
  have k0 := h0
  have lt0 : ∀ x ∈ p0, x.block < W.heap.size := by obtain ⟨m, hm⟩ := k0; exact DataW.trod_lt m _ _ _ hm
  obtain ⟨a0, len0, cap0, rfl⟩ := okWide_slice Try.underlying43 (hval 0 43 v0 rfl rfl)
  obtain ⟨D0, Z0, w0⟩ : ∃ d : D, Dens PN W AN (((Ty.ints 44 .u64)).leaves d) [.slice a0 len0 cap0] ∧ ((Ty.ints 44 .u64)).rng d := by obtain ⟨m, hm⟩ := k0; exact open_ty (.ints 44 .u64) 43 m _ _ (by kernel_rfl) hm
  have z0 : Den PN W AN (.rsl (.ints 44 .u64 D0.toIs)) (.slice a0 len0 cap0) := by have h := (Z0.2 0 (by simp [Ty.leaves]) (by simp)).1; simpa [Ty.leaves, lock_eq] using h
  have x0 : ((Ty.ints 44 .u64)).rng (D.is D0.toIs) := by simpa only [Ty.rng, D.toL, D.toS, D.toIs] using w0
  have k1 := h1
  have lt1 : ∀ x ∈ p1, x.block < W.heap.size := by obtain ⟨m, hm⟩ := k1; exact DataW.trod_lt m _ _ _ hm
  obtain ⟨a1, len1, cap1, rfl⟩ := okWide_slice Try.underlying27 (hval 1 27 v1 rfl rfl)
  obtain ⟨D1, Z1, w1⟩ : ∃ d : D, Dens PN W AN (((Ty.bytes 5)).leaves d) [.slice a1 len1 cap1] ∧ ((Ty.bytes 5)).rng d := by obtain ⟨m, hm⟩ := k1; exact open_ty (.bytes 5) 27 m _ _ (by kernel_rfl) hm
  have z1 : Den PN W AN (.rsl (.bs 5 D1.toS)) (.slice a1 len1 cap1) := by have h := (Z1.2 0 (by simp [Ty.leaves]) (by simp)).1; simpa [Ty.leaves, lock_eq] using h
  have x1 : ((Ty.bytes 5)).rng (D.s D1.toS) := by simpa only [Ty.rng, D.toL, D.toS, D.toIs] using w1
  clear hA0 hval0 hsz0 hsz
  have hp := p_TlvDeep D0.toIs D1.toS x0 x1
  have call := law_many ok_tollbarlaw03_TlvDeep (cargs := [.rsl (.ints 44 .u64 D0.toIs), .rsl (.bs 5 D1.toS)]) (W := W) rfl (fun p hp1 => by rcases List.mem_singleton.1 hp1 with rfl; exact obl.2 ⟨_, by rw [lock_eq]; exact hp⟩) (fun x hx => by rw [lock_eq] at hx; have e := hx.symm.trans hp; cases e; exact ⟨rfl, rfl⟩) (densA_cons z0 (densA_cons z1 densA_nil))
  refine call.mono fun e W' ⟨he, bel⟩ => ?_
  subst he
  exact ⟨_, rfl, _, _, _, [], _, [], hW', trodAll_mk1 (shut_bool Try.underlying4 _), (trodAll_cons_mk (Below.trod laidOut (by kernel_rfl) (of_decide_eq_true (by kernel_rfl)) k0 bel lt0) (trodAll_cons_mk (Below.trod laidOut (by kernel_rfl) (of_decide_eq_true (by kernel_rfl)) k1 bel lt1) trodAll_mk0)), rfl, bel.frame _, fun h => by cases h⟩
theorem over : Rows.tlvDeepRow.holds Try.pinned (OpenSpec.ofChange Rows.tlvDeepSpec) :=
  OpenClaim.holds_of_wide 7 Try.f7 rfl rfl rfl rfl rfl rfl rfl ⟨rfl, rfl, rfl, rfl, rfl⟩ rfl rfl rfl rfl rfl (by kernel_rfl) Try.func7 (by kernel_rfl)
    (of_decide_eq_true (by kernel_rfl)) (by unfold Func.isWrapper; first | (rw [if_pos (by decide +kernel)]; kernel_rfl) | (rw [if_neg (by decide +kernel)]; exact ⟨rfl, rfl⟩))
    (fun os started H enc _ => lifted os started H enc)
theorem proved : Rows.TlvDeepSaid := over
#print axioms proved
end Go.Proofs.Ytknaheioedkaeaa.tlvDeep
namespace Go.Proofs.Ytknaheioedkaeaa
/-- The row, under a short name, for the claim. -/
theorem tlvDeep_holds : Rows.TlvDeepSaid := tlvDeep.proved
end Go.Proofs.Ytknaheioedkaeaa
