/-
  The row of the statement TlvBackUpto: for every input of the bulk that it speaks of it answers true, and its arguments read as they did.
-/
import Derived.Test.YtknaheioedkaeaaRows
import Derived.WalkKit
import Derived.ProofKit
import Derived.OpenShut
import Derived.ShutString
import Derived.ChangeOld
import Derived.Below
import Derived.SizedLaws
import Derived.JoinedCond
import Derived.Deep.CondSized
import Derived.Test.YtknaheioedkaeaaKTlvBack1
import Derived.Test.YtknaheioedkaeaaKTlvBack2
import Derived.Test.YtknaheioedkaeaaKTlvBack3
import Derived.Test.YtknaheioedkaeaaKTlvBack4
import Derived.Test.YtknaheioedkaeaaKTlvBack5
import Derived.Test.YtknaheioedkaeaaKTlvBack6
namespace Go.Proofs.Ytknaheioedkaeaa.tlvBack
open Go.ChangeShapes Go.WideShapes Go.ChangeAt Go.RowKit
open Go.ChangeMaps (open_string shut_string)
set_option linter.unusedVariables false
set_option linter.unusedSimpArgs false
theorem own : ownKnob Try.prog.godebug = none := by kernel_rfl
theorem laidOut : laidOutB Try.prog = true := by kernel_rfl
set_option maxRecDepth 100000 in
theorem lifted (os : Os) (started : os.Started) (H : Type) (enc : TypeId × Value → H) (F : Stop.Interp) :
    ReturnsInHanded {} Try.checked os 5 .any ((Rows.OpenSpec.upto Rows.tlvBackSpec).pre6 enc Try.prog Try.f5 Rows.tlvBackUptoRow.domain false) (((Rows.OpenSpec.upto Rows.tlvBackSpec).at F).post enc Try.prog Try.f5 false true false false) := by
  refine returnsInHanded_of_cond_sized (C := Try.checked) (s := Rows.OpenSpec.upto Rows.tlvBackSpec) (k := Rows.uptoSmall) rfl own started (by kernel_rfl) Try.func5
    (OpenSpec.witness (enc := enc) (C := Try.checked) (s := Rows.OpenSpec.upto Rows.tlvBackSpec) (k := Rows.uptoSmall) rfl false ⟨#[], #[.slice none 0 0, .slice none 0 0], []⟩ 8 (by kernel_rfl) (by kernel_rfl) (by kernel_rfl)
      (x := ([.nil, .nil], [], [])) (by kernel_rfl) rfl (by kernel_rfl)) ?_
  intro W base args ds gs before hval0 hW hcnd hk0 hsz0 _
  have hval : ∀ (j : Nat) t v, Try.f5.params[j]? = some t → args[j]? = some v → Value.okWide Try.prog W .any base t v := hval0
  have hW' := hW
  obtain ⟨p, q, hA0, hV, rfl, hfz, hnd⟩ := hW
  have hA : DataW.TrodAll enc Try.prog W 0 (fun _ => true) true Try.f5.params.toList args.toList ds p := hA0
  rw [Try.params5] at hA hval
  obtain ⟨v0, vs0, d0, ds0, p0, q0, hargs, rfl, rfl, h0, r0⟩ := trodAll_cons hA
  obtain ⟨v1, vs1, d1, ds1, p1, q1, rfl, rfl, rfl, h1, r1⟩ := trodAll_cons r0
  obtain ⟨rfl, rfl, rfl⟩ := trodAll_nil r1
  obtain rfl : args = #[v0, v1] := by cases args; simp_all
  obtain ⟨rfl, rfl⟩ := trodVars_none hV
  have hbulk : Rows.uptoBulkAll [d0, d1] ≤ 1048576 := of_decide_eq_true hk0
  simp only [Rows.uptoBulkAll] at hbulk
  have k0 := h0
  have lt0 : ∀ x ∈ p0, x.block < W.heap.size := by obtain ⟨m, hm⟩ := k0; exact DataW.trod_lt m _ _ _ hm
  obtain ⟨a0, len0, cap0, rfl⟩ := okWide_slice Try.underlying22 (hval 0 22 v0 rfl rfl)
  obtain ⟨l0, Z0, w0, s0⟩ : ∃ l : List Itm, Dens PN W AN [.rsl (.row 46 (tyEnv 46) (dL l))] [.slice a0 len0 cap0] ∧ wfL l ∧ szL l ≤ 20 * Rows.uptoBulk d0 := by obtain ⟨m, hm⟩ := k0; exact open_items _ m _ _ (Nat.lt_succ_self _) hm
  have z0 : Den PN W AN (.rsl (.row 46 (.st [(.int .u64), (.bytes 5), (.self 46)]) (dL l0))) (.slice a0 len0 cap0) := (Z0.2 0 (by simp) (by simp)).1
  have k1 := h1
  have lt1 : ∀ x ∈ p1, x.block < W.heap.size := by obtain ⟨m, hm⟩ := k1; exact DataW.trod_lt m _ _ _ hm
  obtain ⟨a1, len1, cap1, rfl⟩ := okWide_slice Try.underlying22 (hval 1 22 v1 rfl rfl)
  obtain ⟨l1, Z1, w1, s1⟩ : ∃ l : List Itm, Dens PN W AN [.rsl (.row 46 (tyEnv 46) (dL l))] [.slice a1 len1 cap1] ∧ wfL l ∧ szL l ≤ 20 * Rows.uptoBulk d1 := by obtain ⟨m, hm⟩ := k1; exact open_items _ m _ _ (Nat.lt_succ_self _) hm
  have z1 : Den PN W AN (.rsl (.row 46 (.st [(.int .u64), (.bytes 5), (.self 46)]) (dL l1))) (.slice a1 len1 cap1) := (Z1.2 0 (by simp) (by simp)).1
  clear hA0 hval0 hsz0
  have hp := back_law (repL_dL l0) (repL_dL l1) w0 w1 (by omega) (by omega)
  have call := law_many ok_tollbarlaw03_TlvBack (cargs := [.rsl (.row 46 (.st [(.int .u64), (.bytes 5), (.self 46)]) (dL l0)), .rsl (.row 46 (.st [(.int .u64), (.bytes 5), (.self 46)]) (dL l1))]) (W := W) rfl (fun p hp1 => by rcases List.mem_singleton.1 hp1 with rfl; exact obl.2 ⟨_, by rw [lock_eq]; exact hp⟩) (fun x hx => by rw [lock_eq] at hx; have e := hx.symm.trans hp; cases e; exact ⟨rfl, rfl⟩) (densA_cons z0 (densA_cons z1 densA_nil))
  refine call.mono fun e W' ⟨he, bel⟩ => ?_
  subst he
  exact ⟨_, rfl, _, _, _, [], _, [], hW', trodAll_mk1 (shut_bool Try.underlying4 _), (trodAll_cons_mk (Below.trod laidOut (by kernel_rfl) (of_decide_eq_true (by kernel_rfl)) k0 bel lt0) (trodAll_cons_mk (Below.trod laidOut (by kernel_rfl) (of_decide_eq_true (by kernel_rfl)) k1 bel lt1) trodAll_mk0)), rfl, bel.frame _, fun h => by cases h⟩
theorem proved : Rows.TlvBackUptoSaid :=
  OpenClaim.holds_of_cond 5 Try.f5 rfl rfl rfl rfl rfl rfl rfl ⟨rfl, rfl, rfl, rfl, rfl⟩ rfl rfl rfl rfl rfl (by kernel_rfl) Try.func5 (by kernel_rfl)
    (of_decide_eq_true (by kernel_rfl)) (by unfold Func.isWrapper; first | (rw [if_pos (by decide +kernel)]; kernel_rfl) | (rw [if_neg (by decide +kernel)]; exact ⟨rfl, rfl⟩))
    (fun os started H enc _ F => lifted os started H enc F)
#print axioms proved
end Go.Proofs.Ytknaheioedkaeaa.tlvBack
namespace Go.Proofs.Ytknaheioedkaeaa
/-- The row, under a short name, for the claim. -/
theorem tlvBackUpto_holds : Rows.TlvBackUptoSaid := tlvBack.proved
end Go.Proofs.Ytknaheioedkaeaa
