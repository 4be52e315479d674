/-
  The row of the statement JournalCounts: for every input it answers true, and its arguments read as they did. Nothing narrows it.
-/
import Derived.Test.YtbkcmpggacbikaaDoorRows
import Derived.Test.YtbkcmpggacbikaaDoorTie
import Derived.Test.YtbkcmpggacbikaaDoorCards
import Derived.SevenTiedAt
import Derived.LaidMore
import Derived.Stop.Joined
import Derived.WalkKit
import Derived.ProofKit
import Derived.OpenShut
import Derived.ShutString
import Derived.ChangeOld
import Derived.Below
import Derived.SizedLaws
import Derived.Test.YtbkcmpggacbikaaDoorKJournalCounts1
import Derived.Test.YtbkcmpggacbikaaDoorKJournalCounts2
import Derived.Test.YtbkcmpggacbikaaDoorKJournalCounts3
import Derived.Test.YtbkcmpggacbikaaDoorKJournalCounts4
import Derived.Test.YtbkcmpggacbikaaDoorKJournalCounts5
namespace Go.Proofs.YtbkcmpggacbikaaDoor.journalCounts
open Go.ChangeShapes Go.WideShapes Go.ChangeAt Go.RowKit
open Go.ChangeMaps (open_string shut_string)
set_option linter.unusedVariables false
set_option linter.unusedSimpArgs false
open Go.WideMaps Go.WideElems
theorem own : ownKnob Tryd.prog.godebug = none := by kernel_rfl
theorem laidOut : laidOutB Tryd.prog = true := by kernel_rfl
set_option maxRecDepth 100000 in
theorem door_met (os : Os) (args : Array Value) : laidMetH Tryd.prog laidL ((World.doorLaid Tryd.prog 400 os).forCall (fun _ _ => 0) ⟨#[], args, []⟩).memory :=
  laidMetH_of_parts3 (fuel := 8) (laidMet_of_run' 8 (by kernel_rfl) (by kernel_rfl)) (by kernel_rfl) (by kernel_rfl)
set_option maxRecDepth 100000 in
theorem lifted (os : Os) (started : os.Started) (H : Type) (enc : TypeId × Value → H) :
    ReturnsInHanded {} Tryd.checked os 6 .any (fun w args => (Rows.journalCountsSpec.pre enc Tryd.prog Tryd.f6 [] false w args ∧ laidMetH Tryd.prog laidL w) ∧ sizedMet enc Tryd.prog Tryd.f6 (OpenSpec.ofChange Rows.journalCountsSpec) false w args) (Rows.journalCountsSpec.post enc Tryd.prog Tryd.f6 false true false false) := by
  refine returnsInHanded_of_change_and (C := Tryd.checked) (X := fun w _ => laidMetH Tryd.prog laidL w) (fun _ _ _ hh h => h.of_heap hh) own started (by kernel_rfl) Tryd.func6
    (ChangeSpec.witness_shaped (enc := enc) (C := Tryd.checked) (os := os) (X := fun w _ => laidMetH Tryd.prog laidL w) false (World.doorLaid Tryd.prog 400 os) #[.slice none 0 0] 8 rfl (World.shaped_of_RefB (by kernel_rfl) (by kernel_rfl)) (by kernel_rfl) (by kernel_rfl) (by kernel_rfl) (door_met os _)) ?_
  intro W base args ds gs before hval0 hW hcnd hsz0 hL _
  have hsz : (DataW.weightsEach Tryd.prog (Tryd.f6.params.toList ++ Rows.journalCountsSpec.plain.varTypes Tryd.prog) (ds ++ gs)).all (· ≤ reachBytes) = true := hsz0
  have hval : ∀ (j : Nat) t v, Tryd.f6.params[j]? = some t → args[j]? = some v → Value.okWide Tryd.prog W .any base t v := hval0
  have hW' := hW
  obtain ⟨p, q, hA0, hV, rfl, hfz, hnd⟩ := hW
  have hA : DataW.TrodAll enc Tryd.prog W 0 (fun _ => true) true Tryd.f6.params.toList args.toList ds p := hA0
  rw [Tryd.params6] at hA hval hsz
  obtain ⟨v0, vs0, d0, ds0, p0, q0, hargs, rfl, rfl, h0, r0⟩ := trodAll_cons hA
  obtain ⟨rfl, rfl, rfl⟩ := trodAll_nil r0
  obtain rfl : args = #[v0] := by cases args; simp_all
  obtain ⟨rfl, rfl⟩ := trodVars_none hV
  have k0 := h0
  have lt0 : ∀ x ∈ p0, x.block < W.heap.size := by obtain ⟨m, hm⟩ := k0; exact DataW.trod_lt m _ _ _ hm
  obtain ⟨a0, len0, cap0, rfl⟩ := okWide_slice Tryd.underlying35 (hval 0 35 v0 rfl rfl)
  obtain ⟨D0, Z0, w0⟩ : ∃ d : D, Dens PN W AN (((Ty.row 47 (.st [(.int .u16), (.int .u8), (.int .u8), (.int .u8)]))).leaves d) [.slice a0 len0 cap0] ∧ ((Ty.row 47 (.st [(.int .u16), (.int .u8), (.int .u8), (.int .u8)]))).rng d := by obtain ⟨m, hm⟩ := k0; exact open_ty (.row 47 (.st [(.int .u16), (.int .u8), (.int .u8), (.int .u8)])) 35 m _ _ (by kernel_rfl) hm
  have z0 : Den PN W AN (.rsl (.row 47 (.st [(.int .u16), (.int .u8), (.int .u8), (.int .u8)]) D0.toL)) (.slice a0 len0 cap0) := by have h := (Z0.2 0 (by simp [Ty.leaves]) (by simp)).1; simpa [Ty.leaves, lock_eq] using h
  have x0 : ((Ty.row 47 (.st [(.int .u16), (.int .u8), (.int .u8), (.int .u8)]))).rng (D.l D0.toL) := by simpa only [Ty.rng, D.toL, D.toS, D.toIs] using w0
  clear hA0 hval0 hsz0 hsz
  have hp := p_JournalCounts D0.toL x0
  have call := law_many ok_tollbarlaw32_JournalCounts (cargs := [.rsl (.row 47 (.st [(.int .u16), (.int .u8), (.int .u8), (.int .u8)]) D0.toL)]) (W := W) rfl (fun p hp1 => by rcases List.mem_singleton.1 hp1 with rfl; exact obl.2 ⟨_, by rw [lock_eq]; exact hp⟩) (fun x hx => by rw [lock_eq] at hx; have e := hx.symm.trans hp; cases e; exact ⟨rfl, rfl⟩) (densA_cons z0 densA_nil) (laid_den hL)
  refine call.mono fun e W' ⟨he, bel⟩ => ?_
  subst he
  exact ⟨_, rfl, _, _, _, [], _, [], hW', trodAll_mk1 (shut_bool Tryd.underlying4 _), (trodAll_cons_mk (Below.trod laidOut (by kernel_rfl) (of_decide_eq_true (by kernel_rfl)) k0 bel lt0) trodAll_mk0), rfl, bel.frame _, fun h => by cases h⟩
theorem over : Rows.journalCountsRow.holds Tryd.pinned (OpenSpec.ofChange Rows.journalCountsSpec) :=
  OpenClaim.holds_of_wide 6 Tryd.f6 rfl rfl rfl rfl rfl rfl rfl ⟨rfl, rfl, rfl, rfl, rfl⟩ rfl rfl rfl rfl rfl (by kernel_rfl) Tryd.func6 (by kernel_rfl)
    (of_decide_eq_true (by kernel_rfl)) (by unfold Func.isWrapper; first | (rw [if_pos (by decide +kernel)]; kernel_rfl) | (rw [if_neg (by decide +kernel)]; exact ⟨rfl, rfl⟩))
    (fun os started H enc _ => lifted os started H enc)
theorem proved : Rows.JournalCountsSaid := over
#print axioms proved
end Go.Proofs.YtbkcmpggacbikaaDoor.journalCounts
namespace Go.Proofs.YtbkcmpggacbikaaDoor
/-- The tied card. -/
theorem journalCounts_card : Rows.JournalCountsCardSaid :=
  Claim7.holds_tied_plain_at .later [] [.data] true (true, "303963f5de53601226c0fd9b9f158fb044489a9c87aedbf88408e3aa31b1f40e") false
    journalCounts.proved (fun _ h => by cases h) (by kernel_rfl) (fun _ h => by cases h) journalCounts_row_tie rfl ⟨rfl, rfl⟩ (by kernel_rfl) rfl
    (fun f fn hf hfn => by
      obtain rfl : f = 6 := Option.some.inj ((show Tryd.prog.funcNamed "tollbar/tollbarlaw32.JournalCounts" = some 6 by kernel_rfl).symm.trans hf) |>.symm
      obtain rfl : fn = Tryd.f6 := (Option.some.inj (Tryd.func6.symm.trans hfn)).symm
      exact ⟨by kernel_rfl, fun j t ht => by
        rw [Tryd.params6] at ht
        have hm : t ∈ [35] := by simpa using Array.mem_of_getElem? ht
        have hall : ([35].all fun u => !Tryd.prog.wantsStandIn u) = true := by kernel_rfl
        exact (show Tryd.prog.wantsStandIn t = false by simpa using List.all_eq_true.1 hall t hm)⟩)
    (by kernel_rfl)
#print axioms journalCounts_card
end Go.Proofs.YtbkcmpggacbikaaDoor
