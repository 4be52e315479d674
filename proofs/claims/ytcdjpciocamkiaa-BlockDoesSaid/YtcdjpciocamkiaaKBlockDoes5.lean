/-
  Texts that the row of this claim stands on, one behind the other.
-/
import Derived.Below
import Derived.Deep.Slices
import Derived.ChangeArms
import Derived.Test.YtcdjpciocamkiaaKBlockDoes1
import Derived.Test.YtcdjpciocamkiaaKBlockDoes2
import Derived.Test.YtcdjpciocamkiaaKBlockDoes3
import Derived.Test.YtcdjpciocamkiaaKBlockDoes4
section
/-
  The walk of tollbar/tollbarlaw31.BlockDoes (printed by a program of ours).
-/
set_option linter.unusedVariables false
set_option linter.unusedSimpArgs false
namespace Go.Proofs.Ytcdjpciocamkiaa
open Go.RowKit

noncomputable def tab_tollbarlaw31_BlockDoes : Nat → Option Con := look [(6, con_tollbarlaw31_awake), (7, con_block_New), (8, con_block_Device_Write), (9, con_block_Device_Arm), (10, con_block_Device_Down), (11, con_block_Device_Writes), (12, con_block_Device_Blocks), (13, con_tollbarref31_New), (14, con_tollbarref31_Write), (15, con_block_Device_Read), (16, con_tollbarref31_Read), (17, con_tollbarref31_Arm), (18, con_block_Device_Up), (19, con_tollbarref31_Up)]
set_option maxHeartbeats 4000000 in
set_option maxRecDepth 100000 in
theorem vc_tollbarlaw31_BlockDoes (P : Program) (T : Tab P tab_tollbarlaw31_BlockDoes) (hm : P.follows .mixedOrders = true) : FnVC P tab_tollbarlaw31_BlockDoes ic_3 [.t 4] 190 con_tollbarlaw31_BlockDoes := by
  intro cargs ccks ce hce hob C hk
  apply Hidden.out
  replace hce : con_tollbarlaw31_BlockDoes_1 cargs ccks = some ce := hce
  · unfold con_tollbarlaw31_BlockDoes_1 at hce
    split at hce
    rotate_left
    · cases hce
    obtain rfl := Option.some.inj hce
    rename_i x1 r1
    have hb1 := hob _ (List.mem_singleton.2 rfl)
    have hb2 := obl.1 hb1
    clear hb1 hob hce
    refine hb2.elim fun r hF => ?_
    clear hb2
    simp only [List.length_cons, List.length_nil, Nat.zero_add, Nat.reduceAdd] at hk
    have hr : F_tollbarlaw31_BlockDoes x1 r1 = some r := by rw [lock_eq] at hF; exact hF
    unfold F_tollbarlaw31_BlockDoes at hr
    constructor
    (try cbv)
    have hqe : ∃ qq, F_tollbarlaw31_awake = some qq := by
      cases hq : F_tollbarlaw31_awake with
      | none => rw [hq] at hr; cases hr
      | some qq => exact ⟨qq, rfl⟩
    refine ⟨obl.2 (by simp only [choice_lk, lock_eq]; exact hqe), (by rintro (_) _ <;> cbv), ?_⟩
    clear hqe
    intro c1 hx1
    simp only [choice_lk, lock_eq] at hx1
    all_goals (rw [hx1] at hr; dsimp only at hr; constructor; (try cbv))
    refine sel_intro (fun h => ?_) (fun h => ?_)
    · have h1 : c1 = false := by first | exact (bnot_t.1 h) | (have h2 := (bnot_t.1 h); simp only [choice_lk, lock_eq] at h2; exact h2) | (simp only [choice_lk, lock_eq] at h; exact (bnot_t.1 h))
      rw [if_neg (by rw [h1]; exact Bool.false_ne_true)] at hr
      (try cbv)
      apply Hidden.out
      have e := Option.some.inj hr
      constructor
      refine ⟨_, hF, ?_⟩
      (try cbv); (try simp only [choice_lk, lock_eq, and_self, and_true, true_and]); (try first | exact e | exact e.symm | (and_intros <;> first | assumption | rfl | exact Eq.symm (by assumption)))
    · as_aux_lemma =>
      have h1 : c1 = true := by first | exact (bnot_f.1 h) | (have h2 := (bnot_f.1 h); simp only [choice_lk, lock_eq] at h2; exact h2) | (simp only [choice_lk, lock_eq] at h; exact (bnot_f.1 h))
      rw [if_pos h1] at hr
      (try cbv)
      refine sel_intro (fun h => ?_) (fun h => ?_)
      · have h1 : (ilt (100 : Int) (ofN (xlen r1))) = true := by first | exact h | (have h2 := h; simp only [choice_lk, lock_eq] at h2; exact h2) | (simp only [choice_lk, lock_eq] at h; exact h)
        rw [if_pos h1] at hr
        (try cbv)
        apply Hidden.out
        have e := Option.some.inj hr
        constructor
        refine ⟨_, hF, ?_⟩
        (try cbv); (try simp only [choice_lk, lock_eq, and_self, and_true, true_and]); (try first | exact e | exact e.symm | (and_intros <;> first | assumption | rfl | exact Eq.symm (by assumption)))
      · as_aux_lemma =>
        have h1 : (ilt (100 : Int) (ofN (xlen r1))) = false := by first | exact h | (have h2 := h; simp only [choice_lk, lock_eq] at h2; exact h2) | (simp only [choice_lk, lock_eq] at h; exact h)
        rw [if_neg (by rw [h1]; exact Bool.false_ne_true)] at hr
        (try cbv)
        have hqe : ∃ qq, F_block_New (iconv .i64 x1) = some qq := by
          cases hq : F_block_New (iconv .i64 x1) with
          | none => rw [hq] at hr; cases hr
          | some qq => exact ⟨qq, rfl⟩
        refine ⟨obl.2 (by simp only [choice_lk, lock_eq]; exact hqe), (by rintro (_ | _) _ <;> cbv), ?_⟩
        clear hqe
        intro qq hx2
        simp only [choice_lk, lock_eq] at hx2
        rcases qq with _ | q1
        all_goals (rw [hx2] at hr; dsimp only at hr; constructor; (try cbv))
        · refine sel_intro (fun h => ?_) (fun h => ?_)
          · as_aux_lemma =>
            have h1 : (ieq (iconv .i64 x1) (0 : Int)) = true := by first | exact h | (have h2 := h; simp only [choice_lk, lock_eq] at h2; exact h2) | (simp only [choice_lk, lock_eq] at h; exact h)
            rw [if_pos h1] at hr
            (try cbv)
            have hqe : ∃ qq, F_block_Device_Write_3 (0 : Int) ([] : List UInt8) = some qq := by
              cases hq : F_block_Device_Write_3 (0 : Int) ([] : List UInt8) with
              | none => rw [hq] at hr; cases hr
              | some qq => exact ⟨qq, rfl⟩
            refine ⟨obl.2 (by simp only [choice_lk, lock_eq]; exact hqe), (by rintro (_) _ <;> cbv), ?_⟩
            clear hqe
            intro qq hx3
            simp only [choice_lk, lock_eq] at hx3
            rcases qq with _
            all_goals (rw [hx3] at hr; dsimp only at hr; constructor; (try cbv))
            refine sel_intro (fun h => ?_) (fun h => ?_)
            · as_aux_lemma =>
              have h1 : (ieq (1 : Int) (1 : Int)) = true := by first | exact h | (have h2 := h; simp only [choice_lk, lock_eq] at h2; exact h2) | (simp only [choice_lk, lock_eq] at h; exact h)
              rw [if_pos h1] at hr
              (try cbv)
              have hqe : ∃ qq, F_block_Device_Arm_2 (0 : Int) (0 : Int) = some qq := by
                cases hq : F_block_Device_Arm_2 (0 : Int) (0 : Int) with
                | none => rw [hq] at hr; cases hr
                | some qq => exact ⟨qq, rfl⟩
              refine ⟨obl.2 (by simp only [choice_lk, lock_eq]; exact hqe), (by rintro (_) _ <;> cbv), ?_⟩
              clear hqe
              intro qq hx4
              simp only [choice_lk, lock_eq] at hx4
              rcases qq with _
              all_goals (rw [hx4] at hr; dsimp only at hr; constructor; (try cbv))
              refine sel_intro (fun h => ?_) (fun h => ?_)
              · as_aux_lemma =>
                have h1 : (ieq (1 : Int) (1 : Int)) = true := by first | exact h | (have h2 := h; simp only [choice_lk, lock_eq] at h2; exact h2) | (simp only [choice_lk, lock_eq] at h; exact h)
                rw [if_pos h1] at hr
                (try cbv)
                have hqe : ∃ qq, F_block_Device_Down_3 = some qq := by
                  cases hq : F_block_Device_Down_3 with
                  | none => rw [hq] at hr; cases hr
                  | some qq => exact ⟨qq, rfl⟩
                refine ⟨obl.2 (by simp only [choice_lk, lock_eq]; exact hqe), (by rintro (_) _ <;> cbv), ?_⟩
                clear hqe
                intro qq hx5
                simp only [choice_lk, lock_eq] at hx5
                rcases qq with _
                all_goals (rw [hx5] at hr; dsimp only at hr; constructor; (try cbv))
                have hqe : ∃ qq, F_block_Device_Writes_2 = some qq := by
                  cases hq : F_block_Device_Writes_2 with
                  | none => rw [hq] at hr; cases hr
                  | some qq => exact ⟨qq, rfl⟩
                refine ⟨obl.2 (by simp only [choice_lk, lock_eq]; exact hqe), (by rintro (_) _ <;> cbv), ?_⟩
                clear hqe
                intro qq hx6
                simp only [choice_lk, lock_eq] at hx6
                rcases qq with _
                all_goals (rw [hx6] at hr; dsimp only at hr; constructor; (try cbv))
                have hqe : ∃ qq, F_block_Device_Blocks_2 = some qq := by
                  cases hq : F_block_Device_Blocks_2 with
                  | none => rw [hq] at hr; cases hr
                  | some qq => exact ⟨qq, rfl⟩
                refine ⟨obl.2 (by simp only [choice_lk, lock_eq]; exact hqe), (by rintro (_) _ <;> cbv), ?_⟩
                clear hqe
                intro qq hx7
                simp only [choice_lk, lock_eq] at hx7
                rcases qq with _
                all_goals (rw [hx7] at hr; dsimp only at hr; constructor; (try cbv))
                refine sel_intro (fun h => ?_) (fun h => ?_)
                · have h1 : (ieq (iadd .i64 (0 : Int) (0 : Int)) (0 : Int)) = true := by first | exact h | (have h2 := h; simp only [choice_lk, lock_eq] at h2; exact h2) | (simp only [choice_lk, lock_eq] at h; exact h)
                  rw [if_pos h1] at hr
                  (try cbv)
                  have hqe : ∃ qq, F_block_New (1025 : Int) = some qq := by
                    cases hq : F_block_New (1025 : Int) with
                    | none => rw [hq] at hr; cases hr
                    | some qq => exact ⟨qq, rfl⟩
                  refine ⟨obl.2 (by simp only [choice_lk, lock_eq]; exact hqe), (by rintro (_ | _) _ <;> cbv), ?_⟩
                  clear hqe
                  intro qq hx8
                  simp only [choice_lk, lock_eq] at hx8
                  rcases qq with _ | q2
                  all_goals (rw [hx8] at hr; dsimp only at hr; constructor; (try cbv))
                  · apply Hidden.out
                    have e := Option.some.inj hr
                    constructor
                    refine ⟨_, hF, ?_⟩
                    (try cbv); (try simp only [choice_lk, lock_eq, and_self, and_true, true_and]); (try first | exact e | exact e.symm | (and_intros <;> first | assumption | rfl | exact Eq.symm (by assumption)))
                  · apply Hidden.out
                    have e := Option.some.inj hr
                    constructor
                    refine ⟨_, hF, ?_⟩
                    (try cbv); (try simp only [choice_lk, lock_eq, and_self, and_true, true_and]); (try first | exact e | exact e.symm | (and_intros <;> first | assumption | rfl | exact Eq.symm (by assumption)))
                · have h1 : (ieq (iadd .i64 (0 : Int) (0 : Int)) (0 : Int)) = false := by first | exact h | (have h2 := h; simp only [choice_lk, lock_eq] at h2; exact h2) | (simp only [choice_lk, lock_eq] at h; exact h)
                  rw [if_neg (by rw [h1]; exact Bool.false_ne_true)] at hr
                  (try cbv)
                  apply Hidden.out
                  have e := Option.some.inj hr
                  constructor
                  refine ⟨_, hF, ?_⟩
                  (try cbv); (try simp only [choice_lk, lock_eq, and_self, and_true, true_and]); (try first | exact e | exact e.symm | (and_intros <;> first | assumption | rfl | exact Eq.symm (by assumption)))
              · have h1 : (ieq (1 : Int) (1 : Int)) = false := by first | exact h | (have h2 := h; simp only [choice_lk, lock_eq] at h2; exact h2) | (simp only [choice_lk, lock_eq] at h; exact h)
                rw [if_neg (by rw [h1]; exact Bool.false_ne_true)] at hr
                (try cbv)
                apply Hidden.out
                have e := Option.some.inj hr
                constructor
                refine ⟨_, hF, ?_⟩
                (try cbv); (try simp only [choice_lk, lock_eq, and_self, and_true, true_and]); (try first | exact e | exact e.symm | (and_intros <;> first | assumption | rfl | exact Eq.symm (by assumption)))
            · have h1 : (ieq (1 : Int) (1 : Int)) = false := by first | exact h | (have h2 := h; simp only [choice_lk, lock_eq] at h2; exact h2) | (simp only [choice_lk, lock_eq] at h; exact h)
              rw [if_neg (by rw [h1]; exact Bool.false_ne_true)] at hr
              (try cbv)
              apply Hidden.out
              have e := Option.some.inj hr
              constructor
              refine ⟨_, hF, ?_⟩
              (try cbv); (try simp only [choice_lk, lock_eq, and_self, and_true, true_and]); (try first | exact e | exact e.symm | (and_intros <;> first | assumption | rfl | exact Eq.symm (by assumption)))
          · as_aux_lemma =>
            have h1 : (ieq (iconv .i64 x1) (0 : Int)) = false := by first | exact h | (have h2 := h; simp only [choice_lk, lock_eq] at h2; exact h2) | (simp only [choice_lk, lock_eq] at h; exact h)
            rw [if_neg (by rw [h1]; exact Bool.false_ne_true)] at hr
            (try cbv)
            have hqe : ∃ qq, F_tollbarref31_New (iconv .i64 x1) = some qq := by
              cases hq : F_tollbarref31_New (iconv .i64 x1) with
              | none => rw [hq] at hr; cases hr
              | some qq => exact ⟨qq, rfl⟩
            refine ⟨obl.2 (by simp only [choice_lk, lock_eq]; exact hqe), (by rintro (_) _ <;> cbv), ?_⟩
            clear hqe
            intro q3 hx9
            simp only [choice_lk, lock_eq] at hx9
            all_goals (rw [hx9] at hr; dsimp only at hr; constructor; (try cbv))
            refine LoopOK.iter T (drawOK T hm) (B := (F_tollbarlaw31_BlockDoes_L1 r1 x1)) hr (fun | (i1, b1, i2, i3, i4, r2) => ⟨mkFr [(1, (.rsl (.row 35 (.st [(.int .i64), (.int .i64), (.int .i64), .str]) r1))), (6, (.v (.int .i64 (lock iconv .i64 x1)))), (7, (.v (.pointer none))), (8, (.ptr 0 0)), (9, (.v (.int .i64 i1)))] 190 0, [(0, .blk 32 [(.wsl 1), (.v (.bool b1)), (.v (.int .i64 i2)), (.v (.int .i64 i3)), (.v (.int .i64 i4))]), (1, .row (.row 9 .str r2))], 2⟩) ?_ ?_
            · rintro ⟨u0, u1, u2, u3, u4, u5⟩ e
              simp only [Prod.mk.injEq] at e
              obtain ⟨e0, e1, e2, e3, e4, e5⟩ := e
              refine le_auto hk ?_
              (try cbv); (try simp only [choice_lk, lock_eq, and_self, and_true, true_and]); (try first | exact e | exact e.symm | (and_intros <;> first | assumption | rfl | exact Eq.symm (by assumption)))
            · clear hr
              intro x bb1 hr ht1
              obtain ⟨i1, b1, i2, i3, i4, r2⟩ := x
              as_aux_lemma =>
              constructor
              unfold F_tollbarlaw31_BlockDoes_L1 at hr
              (try dsimp only at hr)
              (try cbv)
              refine sel_intro (fun h => ?_) (fun h => ?_)
              · as_aux_lemma =>
                have h1 : (ilt i1 (ofN (xlen r1))) = true := by first | exact h | (have h2 := h; simp only [choice_lk, lock_eq] at h2; exact h2) | (simp only [choice_lk, lock_eq] at h; exact h)
                rw [if_pos h1] at hr
                (try cbv)
                have gg := guard_inv hr
                have g := gg.1
                replace hr := gg.2
                clear gg
                refine ⟨obl.2 (by first | (simp only [choice_lk, lock_eq, R.len, R.sub]; exact g) | exact g), ?_⟩
                refine sel_intro (fun h => ?_) (fun h => ?_)
                · have h1 : (ilt (100 : Int) (ofN (xlen (D.toS (D.fld (getD r1 (toN i1)) 3))))) = true := by first | exact h | (have h2 := h; simp only [choice_lk, lock_eq] at h2; exact h2) | (simp only [choice_lk, lock_eq] at h; exact h)
                  rw [if_pos h1] at hr
                  (try cbv)
                  apply Hidden.out
                  obtain rfl := Option.some.inj hr
                  have e := ht1 _ rfl
                  constructor
                  refine ⟨_, hF, ?_⟩
                  (try cbv); (try simp only [choice_lk, lock_eq, and_self, and_true, true_and]); (try first | exact e | exact e.symm | (and_intros <;> first | assumption | rfl | exact Eq.symm (by assumption)))
                · as_aux_lemma =>
                  have h1 : (ilt (100 : Int) (ofN (xlen (D.toS (D.fld (getD r1 (toN i1)) 3))))) = false := by first | exact h | (have h2 := h; simp only [choice_lk, lock_eq] at h2; exact h2) | (simp only [choice_lk, lock_eq] at h; exact h)
                  rw [if_neg (by rw [h1]; exact Bool.false_ne_true)] at hr
                  (try cbv)
                  refine sel_intro (fun h => ?_) (fun h => ?_)
                  · as_aux_lemma =>
                    have h1 : (ieq (D.toI (D.fld (getD r1 (toN i1)) 0)) (0 : Int)) = true := by first | exact h | (have h2 := h; simp only [choice_lk, lock_eq] at h2; exact h2) | (simp only [choice_lk, lock_eq] at h; exact h)
                    rw [if_pos h1] at hr
                    (try cbv)
                    have hqe : ∃ qq, F_tollbarref31_Write b1 i2 i3 i4 (D.toI (D.fld (getD r1 (toN i1)) 1)) (D.toS (D.fld (getD r1 (toN i1)) 3)) r2 = some qq := by
                      cases hq : F_tollbarref31_Write b1 i2 i3 i4 (D.toI (D.fld (getD r1 (toN i1)) 1)) (D.toS (D.fld (getD r1 (toN i1)) 3)) r2 with
                      | none => rw [hq] at hr; cases hr
                      | some qq => exact ⟨qq, rfl⟩
                    refine ⟨obl.2 (by simp only [choice_lk, lock_eq]; exact hqe), (by rintro (⟨_, _, _, _, _, _⟩) _ <;> cbv), ?_⟩
                    clear hqe
                    intro qq hx46
                    simp only [choice_lk, lock_eq] at hx46
                    rcases qq with ⟨c4, y17, y18, y19, y20, q6⟩
                    all_goals (rw [hx46] at hr; dsimp only at hr; constructor; (try cbv))
                    have hqe : ∃ qq, F_block_Device_Write_3 (D.toI (D.fld (getD r1 (toN i1)) 1)) (D.toS (D.fld (getD r1 (toN i1)) 3)) = some qq := by
                      cases hq : F_block_Device_Write_3 (D.toI (D.fld (getD r1 (toN i1)) 1)) (D.toS (D.fld (getD r1 (toN i1)) 3)) with
                      | none => rw [hq] at hr; cases hr
                      | some qq => exact ⟨qq, rfl⟩
                    refine ⟨obl.2 (by simp only [choice_lk, lock_eq]; exact hqe), (by rintro (_) _ <;> cbv), ?_⟩
                    clear hqe
                    intro qq hx47
                    simp only [choice_lk, lock_eq] at hx47
                    rcases qq with _
                    all_goals (rw [hx47] at hr; dsimp only at hr; constructor; (try cbv))
                    refine sel_intro (fun h => ?_) (fun h => ?_)
                    · have h1 : (ieq (1 : Int) y20) = false := by first | exact (bnot_t.1 h) | (have h2 := (bnot_t.1 h); simp only [choice_lk, lock_eq] at h2; exact h2) | (simp only [choice_lk, lock_eq] at h; exact (bnot_t.1 h))
                      rw [if_neg (by rw [h1]; exact Bool.false_ne_true)] at hr
                      (try cbv)
                      apply Hidden.out
                      obtain rfl := Option.some.inj hr
                      have e := ht1 _ rfl
                      constructor
                      refine ⟨_, hF, ?_⟩
                      (try cbv); (try simp only [choice_lk, lock_eq, and_self, and_true, true_and]); (try first | exact e | exact e.symm | (and_intros <;> first | assumption | rfl | exact Eq.symm (by assumption)))
                    · have h1 : (ieq (1 : Int) y20) = true := by first | exact (bnot_f.1 h) | (have h2 := (bnot_f.1 h); simp only [choice_lk, lock_eq] at h2; exact h2) | (simp only [choice_lk, lock_eq] at h; exact (bnot_f.1 h))
                      rw [if_pos h1] at hr
                      (try cbv)
                      have hqe : ∃ qq, F_block_Device_Down_3 = some qq := by
                        cases hq : F_block_Device_Down_3 with
                        | none => rw [hq] at hr; cases hr
                        | some qq => exact ⟨qq, rfl⟩
                      refine ⟨(by simp only [choice_lk, lock_eq]; exact hqe), obl.2 (by simp only [choice_lk, lock_eq]; exact hqe), (by rintro (_) _ <;> cbv), ?_⟩
                      clear hqe
                      intro qq hx48
                      simp only [choice_lk, lock_eq] at hx48
                      rcases qq with _
                      all_goals (rw [hx48] at hr; dsimp only at hr; constructor; (try cbv))
                      rcases Bool.eq_false_or_eq_true (beq2 false c4) with h1 | h1
                      · rw [if_pos h1] at hr
                        have h2 : (lock beq2 false c4) = true := by simp only [lock_eq]; exact h1
                        simp only [relock, h2]
                        (try cbv)
                        have hqe : ∃ qq, F_block_Device_Writes_2 = some qq := by
                          cases hq : F_block_Device_Writes_2 with
                          | none => rw [hq] at hr; cases hr
                          | some qq => exact ⟨qq, rfl⟩
                        refine ⟨(by simp only [choice_lk, lock_eq]; exact hqe), obl.2 (by simp only [choice_lk, lock_eq]; exact hqe), (by rintro (_) _ <;> cbv), ?_⟩
                        clear hqe
                        intro qq hx49
                        simp only [choice_lk, lock_eq] at hx49
                        rcases qq with _
                        all_goals (rw [hx49] at hr; dsimp only at hr; constructor; (try cbv))
                        refine sel_intro (fun h => ?_) (fun h => ?_)
                        · have h1 : (ieq (0 : Int) y19) = false := by first | exact (bnot_t.1 h) | (have h2 := (bnot_t.1 h); simp only [choice_lk, lock_eq] at h2; exact h2) | (simp only [choice_lk, lock_eq] at h; exact (bnot_t.1 h))
                          rw [if_neg (by rw [h1]; exact Bool.false_ne_true)] at hr
                          (try cbv)
                          apply Hidden.out
                          obtain rfl := Option.some.inj hr
                          have e := ht1 _ rfl
                          constructor
                          refine ⟨_, hF, ?_⟩
                          (try cbv); (try simp only [choice_lk, lock_eq, and_self, and_true, true_and]); (try first | exact e | exact e.symm | (and_intros <;> first | assumption | rfl | exact Eq.symm (by assumption)))
                        · have h1 : (ieq (0 : Int) y19) = true := by first | exact (bnot_f.1 h) | (have h2 := (bnot_f.1 h); simp only [choice_lk, lock_eq] at h2; exact h2) | (simp only [choice_lk, lock_eq] at h; exact (bnot_f.1 h))
                          rw [if_pos h1] at hr
                          (try cbv)
                          apply Hidden.out
                          obtain rfl := Option.some.inj hr
                          constructor
                          refine ⟨⟨_, rfl⟩, ?_⟩
                          rintro ⟨u0, u1, u2, u3, u4, u5⟩ e
                          replace e := Sum.inl.inj e
                          simp only [Prod.mk.injEq] at e
                          obtain ⟨e0, e1, e2, e3, e4, e5⟩ := e
                          refine le_auto hk ?_
                          (try cbv); (try simp only [choice_lk, lock_eq, and_self, and_true, true_and]); (try first | exact e | exact e.symm | (and_intros <;> first | assumption | rfl | exact Eq.symm (by assumption)))
                      · rw [if_neg (by rw [h1]; exact Bool.false_ne_true)] at hr
                        have h2 : (lock beq2 false c4) = false := by simp only [lock_eq]; exact h1
                        simp only [relock, h2]
                        (try cbv)
                        apply Hidden.out
                        obtain rfl := Option.some.inj hr
                        have e := ht1 _ rfl
                        constructor
                        refine ⟨_, hF, ?_⟩
                        (try cbv); (try simp only [choice_lk, lock_eq, and_self, and_true, true_and]); (try first | exact e | exact e.symm | (and_intros <;> first | assumption | rfl | exact Eq.symm (by assumption)))
                  · as_aux_lemma =>
                    have h1 : (ieq (D.toI (D.fld (getD r1 (toN i1)) 0)) (0 : Int)) = false := by first | exact h | (have h2 := h; simp only [choice_lk, lock_eq] at h2; exact h2) | (simp only [choice_lk, lock_eq] at h; exact h)
                    rw [if_neg (by rw [h1]; exact Bool.false_ne_true)] at hr
                    (try cbv)
                    refine sel_intro (fun h => ?_) (fun h => ?_)
                    · as_aux_lemma =>
                      have h1 : (ieq (D.toI (D.fld (getD r1 (toN i1)) 0)) (1 : Int)) = true := by first | exact h | (have h2 := h; simp only [choice_lk, lock_eq] at h2; exact h2) | (simp only [choice_lk, lock_eq] at h; exact h)
                      rw [if_pos h1] at hr
                      (try cbv)
                      have hqe : ∃ qq, F_block_Device_Read_2 (D.toI (D.fld (getD r1 (toN i1)) 1)) = some qq := by
                        cases hq : F_block_Device_Read_2 (D.toI (D.fld (getD r1 (toN i1)) 1)) with
                        | none => rw [hq] at hr; cases hr
                        | some qq => exact ⟨qq, rfl⟩
                      refine ⟨obl.2 (by simp only [choice_lk, lock_eq]; exact hqe), (by rintro (_) _ <;> cbv), ?_⟩
                      clear hqe
                      intro qq hx50
                      simp only [choice_lk, lock_eq] at hx50
                      rcases qq with _
                      all_goals (rw [hx50] at hr; dsimp only at hr; constructor; (try cbv))
                      have hqe : ∃ qq, F_tollbarref31_Read b1 i2 i3 i4 (D.toI (D.fld (getD r1 (toN i1)) 1)) r2 = some qq := by
                        cases hq : F_tollbarref31_Read b1 i2 i3 i4 (D.toI (D.fld (getD r1 (toN i1)) 1)) r2 with
                        | none => rw [hq] at hr; cases hr
                        | some qq => exact ⟨qq, rfl⟩
                      refine ⟨obl.2 (by simp only [choice_lk, lock_eq]; exact hqe), (by rintro (⟨_, _⟩) _ <;> cbv), ?_⟩
                      clear hqe
                      intro qq hx51
                      simp only [choice_lk, lock_eq] at hx51
                      rcases qq with ⟨t3, y21⟩
                      all_goals (rw [hx51] at hr; dsimp only at hr; constructor; (try cbv))
                      refine sel_intro (fun h => ?_) (fun h => ?_)
                      · have h1 : (seq ([] : List UInt8) t3) = false := by first | exact (bnot_t.1 h) | (have h2 := (bnot_t.1 h); simp only [choice_lk, lock_eq] at h2; exact h2) | (simp only [choice_lk, lock_eq] at h; exact (bnot_t.1 h))
                        rw [if_neg (by rw [h1]; exact Bool.false_ne_true)] at hr
                        (try cbv)
                        apply Hidden.out
                        obtain rfl := Option.some.inj hr
                        have e := ht1 _ rfl
                        constructor
                        refine ⟨_, hF, ?_⟩
                        (try cbv); (try simp only [choice_lk, lock_eq, and_self, and_true, true_and]); (try first | exact e | exact e.symm | (and_intros <;> first | assumption | rfl | exact Eq.symm (by assumption)))
                      · as_aux_lemma =>
                        have h1 : (seq ([] : List UInt8) t3) = true := by first | exact (bnot_f.1 h) | (have h2 := (bnot_f.1 h); simp only [choice_lk, lock_eq] at h2; exact h2) | (simp only [choice_lk, lock_eq] at h; exact (bnot_f.1 h))
                        rw [if_pos h1] at hr
                        (try cbv)
                        refine sel_intro (fun h => ?_) (fun h => ?_)
                        · have h1 : (ieq (1 : Int) y21) = false := by first | exact (bnot_t.1 h) | (have h2 := (bnot_t.1 h); simp only [choice_lk, lock_eq] at h2; exact h2) | (simp only [choice_lk, lock_eq] at h; exact (bnot_t.1 h))
                          rw [if_neg (by rw [h1]; exact Bool.false_ne_true)] at hr
                          (try cbv)
                          apply Hidden.out
                          obtain rfl := Option.some.inj hr
                          have e := ht1 _ rfl
                          constructor
                          refine ⟨_, hF, ?_⟩
                          (try cbv); (try simp only [choice_lk, lock_eq, and_self, and_true, true_and]); (try first | exact e | exact e.symm | (and_intros <;> first | assumption | rfl | exact Eq.symm (by assumption)))
                        · have h1 : (ieq (1 : Int) y21) = true := by first | exact (bnot_f.1 h) | (have h2 := (bnot_f.1 h); simp only [choice_lk, lock_eq] at h2; exact h2) | (simp only [choice_lk, lock_eq] at h; exact (bnot_f.1 h))
                          rw [if_pos h1] at hr
                          (try cbv)
                          have hqe : ∃ qq, F_block_Device_Down_3 = some qq := by
                            cases hq : F_block_Device_Down_3 with
                            | none => rw [hq] at hr; cases hr
                            | some qq => exact ⟨qq, rfl⟩
                          refine ⟨(by simp only [choice_lk, lock_eq]; exact hqe), obl.2 (by simp only [choice_lk, lock_eq]; exact hqe), (by rintro (_) _ <;> cbv), ?_⟩
                          clear hqe
                          intro qq hx52
                          simp only [choice_lk, lock_eq] at hx52
                          rcases qq with _
                          all_goals (rw [hx52] at hr; dsimp only at hr; constructor; (try cbv))
                          rcases Bool.eq_false_or_eq_true (beq2 false b1) with h1 | h1
                          · rw [if_pos h1] at hr
                            have h2 : (lock beq2 false b1) = true := by simp only [lock_eq]; exact h1
                            simp only [relock, h2]
                            (try cbv)
                            have hqe : ∃ qq, F_block_Device_Writes_2 = some qq := by
                              cases hq : F_block_Device_Writes_2 with
                              | none => rw [hq] at hr; cases hr
                              | some qq => exact ⟨qq, rfl⟩
                            refine ⟨(by simp only [choice_lk, lock_eq]; exact hqe), obl.2 (by simp only [choice_lk, lock_eq]; exact hqe), (by rintro (_) _ <;> cbv), ?_⟩
                            clear hqe
                            intro qq hx53
                            simp only [choice_lk, lock_eq] at hx53
                            rcases qq with _
                            all_goals (rw [hx53] at hr; dsimp only at hr; constructor; (try cbv))
                            refine sel_intro (fun h => ?_) (fun h => ?_)
                            · have h1 : (ieq (0 : Int) i4) = false := by first | exact (bnot_t.1 h) | (have h2 := (bnot_t.1 h); simp only [choice_lk, lock_eq] at h2; exact h2) | (simp only [choice_lk, lock_eq] at h; exact (bnot_t.1 h))
                              rw [if_neg (by rw [h1]; exact Bool.false_ne_true)] at hr
                              (try cbv)
                              apply Hidden.out
                              obtain rfl := Option.some.inj hr
                              have e := ht1 _ rfl
                              constructor
                              refine ⟨_, hF, ?_⟩
                              (try cbv); (try simp only [choice_lk, lock_eq, and_self, and_true, true_and]); (try first | exact e | exact e.symm | (and_intros <;> first | assumption | rfl | exact Eq.symm (by assumption)))
                            · have h1 : (ieq (0 : Int) i4) = true := by first | exact (bnot_f.1 h) | (have h2 := (bnot_f.1 h); simp only [choice_lk, lock_eq] at h2; exact h2) | (simp only [choice_lk, lock_eq] at h; exact (bnot_f.1 h))
                              rw [if_pos h1] at hr
                              (try cbv)
                              apply Hidden.out
                              obtain rfl := Option.some.inj hr
                              constructor
                              refine ⟨⟨_, rfl⟩, ?_⟩
                              rintro ⟨u0, u1, u2, u3, u4, u5⟩ e
                              replace e := Sum.inl.inj e
                              simp only [Prod.mk.injEq] at e
                              obtain ⟨e0, e1, e2, e3, e4, e5⟩ := e
                              refine le_auto hk ?_
                              (try cbv); (try simp only [choice_lk, lock_eq, and_self, and_true, true_and]); (try first | exact e | exact e.symm | (and_intros <;> first | assumption | rfl | exact Eq.symm (by assumption)))
                          · rw [if_neg (by rw [h1]; exact Bool.false_ne_true)] at hr
                            have h2 : (lock beq2 false b1) = false := by simp only [lock_eq]; exact h1
                            simp only [relock, h2]
                            (try cbv)
                            apply Hidden.out
                            obtain rfl := Option.some.inj hr
                            have e := ht1 _ rfl
                            constructor
                            refine ⟨_, hF, ?_⟩
                            (try cbv); (try simp only [choice_lk, lock_eq, and_self, and_true, true_and]); (try first | exact e | exact e.symm | (and_intros <;> first | assumption | rfl | exact Eq.symm (by assumption)))
                    · as_aux_lemma =>
                      have h1 : (ieq (D.toI (D.fld (getD r1 (toN i1)) 0)) (1 : Int)) = false := by first | exact h | (have h2 := h; simp only [choice_lk, lock_eq] at h2; exact h2) | (simp only [choice_lk, lock_eq] at h; exact h)
                      rw [if_neg (by rw [h1]; exact Bool.false_ne_true)] at hr
                      (try cbv)
                      refine sel_intro (fun h => ?_) (fun h => ?_)
                      · as_aux_lemma =>
                        have h1 : (ieq (D.toI (D.fld (getD r1 (toN i1)) 0)) (2 : Int)) = true := by first | exact h | (have h2 := h; simp only [choice_lk, lock_eq] at h2; exact h2) | (simp only [choice_lk, lock_eq] at h; exact h)
                        rw [if_pos h1] at hr
                        (try cbv)
                        have hqe : ∃ qq, F_tollbarref31_Arm b1 i2 i3 i4 (D.toI (D.fld (getD r1 (toN i1)) 1)) (D.toI (D.fld (getD r1 (toN i1)) 2)) r2 = some qq := by
                          cases hq : F_tollbarref31_Arm b1 i2 i3 i4 (D.toI (D.fld (getD r1 (toN i1)) 1)) (D.toI (D.fld (getD r1 (toN i1)) 2)) r2 with
                          | none => rw [hq] at hr; cases hr
                          | some qq => exact ⟨qq, rfl⟩
                        refine ⟨obl.2 (by simp only [choice_lk, lock_eq]; exact hqe), (by rintro (⟨_, _, _⟩) _ <;> cbv), ?_⟩
                        clear hqe
                        intro qq hx54
                        simp only [choice_lk, lock_eq] at hx54
                        rcases qq with ⟨y22, y23, y24⟩
                        all_goals (rw [hx54] at hr; dsimp only at hr; constructor; (try cbv))
                        have hqe : ∃ qq, F_block_Device_Arm_2 (D.toI (D.fld (getD r1 (toN i1)) 1)) (D.toI (D.fld (getD r1 (toN i1)) 2)) = some qq := by
                          cases hq : F_block_Device_Arm_2 (D.toI (D.fld (getD r1 (toN i1)) 1)) (D.toI (D.fld (getD r1 (toN i1)) 2)) with
                          | none => rw [hq] at hr; cases hr
                          | some qq => exact ⟨qq, rfl⟩
                        refine ⟨obl.2 (by simp only [choice_lk, lock_eq]; exact hqe), (by rintro (_) _ <;> cbv), ?_⟩
                        clear hqe
                        intro qq hx55
                        simp only [choice_lk, lock_eq] at hx55
                        rcases qq with _
                        all_goals (rw [hx55] at hr; dsimp only at hr; constructor; (try cbv))
                        refine sel_intro (fun h => ?_) (fun h => ?_)
                        · have h1 : (ieq (1 : Int) y24) = false := by first | exact (bnot_t.1 h) | (have h2 := (bnot_t.1 h); simp only [choice_lk, lock_eq] at h2; exact h2) | (simp only [choice_lk, lock_eq] at h; exact (bnot_t.1 h))
                          rw [if_neg (by rw [h1]; exact Bool.false_ne_true)] at hr
                          (try cbv)
                          apply Hidden.out
                          obtain rfl := Option.some.inj hr
                          have e := ht1 _ rfl
                          constructor
                          refine ⟨_, hF, ?_⟩
                          (try cbv); (try simp only [choice_lk, lock_eq, and_self, and_true, true_and]); (try first | exact e | exact e.symm | (and_intros <;> first | assumption | rfl | exact Eq.symm (by assumption)))
                        · have h1 : (ieq (1 : Int) y24) = true := by first | exact (bnot_f.1 h) | (have h2 := (bnot_f.1 h); simp only [choice_lk, lock_eq] at h2; exact h2) | (simp only [choice_lk, lock_eq] at h; exact (bnot_f.1 h))
                          rw [if_pos h1] at hr
                          (try cbv)
                          have hqe : ∃ qq, F_block_Device_Down_3 = some qq := by
                            cases hq : F_block_Device_Down_3 with
                            | none => rw [hq] at hr; cases hr
                            | some qq => exact ⟨qq, rfl⟩
                          refine ⟨(by simp only [choice_lk, lock_eq]; exact hqe), obl.2 (by simp only [choice_lk, lock_eq]; exact hqe), (by rintro (_) _ <;> cbv), ?_⟩
                          clear hqe
                          intro qq hx56
                          simp only [choice_lk, lock_eq] at hx56
                          rcases qq with _
                          all_goals (rw [hx56] at hr; dsimp only at hr; constructor; (try cbv))
                          rcases Bool.eq_false_or_eq_true (beq2 false b1) with h1 | h1
                          · rw [if_pos h1] at hr
                            have h2 : (lock beq2 false b1) = true := by simp only [lock_eq]; exact h1
                            simp only [relock, h2]
                            (try cbv)
                            have hqe : ∃ qq, F_block_Device_Writes_2 = some qq := by
                              cases hq : F_block_Device_Writes_2 with
                              | none => rw [hq] at hr; cases hr
                              | some qq => exact ⟨qq, rfl⟩
                            refine ⟨(by simp only [choice_lk, lock_eq]; exact hqe), obl.2 (by simp only [choice_lk, lock_eq]; exact hqe), (by rintro (_) _ <;> cbv), ?_⟩
                            clear hqe
                            intro qq hx57
                            simp only [choice_lk, lock_eq] at hx57
                            rcases qq with _
                            all_goals (rw [hx57] at hr; dsimp only at hr; constructor; (try cbv))
                            refine sel_intro (fun h => ?_) (fun h => ?_)
                            · have h1 : (ieq (0 : Int) i4) = false := by first | exact (bnot_t.1 h) | (have h2 := (bnot_t.1 h); simp only [choice_lk, lock_eq] at h2; exact h2) | (simp only [choice_lk, lock_eq] at h; exact (bnot_t.1 h))
                              rw [if_neg (by rw [h1]; exact Bool.false_ne_true)] at hr
                              (try cbv)
                              apply Hidden.out
                              obtain rfl := Option.some.inj hr
                              have e := ht1 _ rfl
                              constructor
                              refine ⟨_, hF, ?_⟩
                              (try cbv); (try simp only [choice_lk, lock_eq, and_self, and_true, true_and]); (try first | exact e | exact e.symm | (and_intros <;> first | assumption | rfl | exact Eq.symm (by assumption)))
                            · have h1 : (ieq (0 : Int) i4) = true := by first | exact (bnot_f.1 h) | (have h2 := (bnot_f.1 h); simp only [choice_lk, lock_eq] at h2; exact h2) | (simp only [choice_lk, lock_eq] at h; exact (bnot_f.1 h))
                              rw [if_pos h1] at hr
                              (try cbv)
                              apply Hidden.out
                              obtain rfl := Option.some.inj hr
                              constructor
                              refine ⟨⟨_, rfl⟩, ?_⟩
                              rintro ⟨u0, u1, u2, u3, u4, u5⟩ e
                              replace e := Sum.inl.inj e
                              simp only [Prod.mk.injEq] at e
                              obtain ⟨e0, e1, e2, e3, e4, e5⟩ := e
                              refine le_auto hk ?_
                              (try cbv); (try simp only [choice_lk, lock_eq, and_self, and_true, true_and]); (try first | exact e | exact e.symm | (and_intros <;> first | assumption | rfl | exact Eq.symm (by assumption)))
                          · rw [if_neg (by rw [h1]; exact Bool.false_ne_true)] at hr
                            have h2 : (lock beq2 false b1) = false := by simp only [lock_eq]; exact h1
                            simp only [relock, h2]
                            (try cbv)
                            apply Hidden.out
                            obtain rfl := Option.some.inj hr
                            have e := ht1 _ rfl
                            constructor
                            refine ⟨_, hF, ?_⟩
                            (try cbv); (try simp only [choice_lk, lock_eq, and_self, and_true, true_and]); (try first | exact e | exact e.symm | (and_intros <;> first | assumption | rfl | exact Eq.symm (by assumption)))
                      · as_aux_lemma =>
                        have h1 : (ieq (D.toI (D.fld (getD r1 (toN i1)) 0)) (2 : Int)) = false := by first | exact h | (have h2 := h; simp only [choice_lk, lock_eq] at h2; exact h2) | (simp only [choice_lk, lock_eq] at h; exact h)
                        rw [if_neg (by rw [h1]; exact Bool.false_ne_true)] at hr
                        (try cbv)
                        refine sel_intro (fun h => ?_) (fun h => ?_)
                        · as_aux_lemma =>
                          have h1 : (ieq (D.toI (D.fld (getD r1 (toN i1)) 0)) (3 : Int)) = true := by first | exact h | (have h2 := h; simp only [choice_lk, lock_eq] at h2; exact h2) | (simp only [choice_lk, lock_eq] at h; exact h)
                          rw [if_pos h1] at hr
                          (try cbv)
                          have hqe : ∃ qq, F_block_Device_Up_3 = some qq := by
                            cases hq : F_block_Device_Up_3 with
                            | none => rw [hq] at hr; cases hr
                            | some qq => exact ⟨qq, rfl⟩
                          refine ⟨obl.2 (by simp only [choice_lk, lock_eq]; exact hqe), (by rintro (_) _ <;> cbv), ?_⟩
                          clear hqe
                          intro qq hx58
                          simp only [choice_lk, lock_eq] at hx58
                          rcases qq with _
                          all_goals (rw [hx58] at hr; dsimp only at hr; constructor; (try cbv))
                          have hqe : ∃ qq, F_tollbarref31_Up b1 i2 i3 i4 r2 = some qq := by
                            cases hq : F_tollbarref31_Up b1 i2 i3 i4 r2 with
                            | none => rw [hq] at hr; cases hr
                            | some qq => exact ⟨qq, rfl⟩
                          refine ⟨obl.2 (by simp only [choice_lk, lock_eq]; exact hqe), (by rintro (_) _ <;> cbv), ?_⟩
                          clear hqe
                          intro qq hx59
                          simp only [choice_lk, lock_eq] at hx59
                          rcases qq with _
                          all_goals (rw [hx59] at hr; dsimp only at hr; constructor; (try cbv))
                          have hqe : ∃ qq, F_block_Device_Down_3 = some qq := by
                            cases hq : F_block_Device_Down_3 with
                            | none => rw [hq] at hr; cases hr
                            | some qq => exact ⟨qq, rfl⟩
                          refine ⟨(by simp only [choice_lk, lock_eq]; exact hqe), obl.2 (by simp only [choice_lk, lock_eq]; exact hqe), (by rintro (_) _ <;> cbv), ?_⟩
                          clear hqe
                          intro qq hx60
                          simp only [choice_lk, lock_eq] at hx60
                          rcases qq with _
                          all_goals (rw [hx60] at hr; dsimp only at hr; constructor; (try cbv))
                          rcases Bool.eq_false_or_eq_true (beq2 false false) with h1 | h1
                          · rw [if_pos h1] at hr
                            have h2 : (lock beq2 false false) = true := by simp only [lock_eq]; exact h1
                            simp only [relock, h2]
                            (try cbv)
                            have hqe : ∃ qq, F_block_Device_Writes_2 = some qq := by
                              cases hq : F_block_Device_Writes_2 with
                              | none => rw [hq] at hr; cases hr
                              | some qq => exact ⟨qq, rfl⟩
                            refine ⟨(by simp only [choice_lk, lock_eq]; exact hqe), obl.2 (by simp only [choice_lk, lock_eq]; exact hqe), (by rintro (_) _ <;> cbv), ?_⟩
                            clear hqe
                            intro qq hx61
                            simp only [choice_lk, lock_eq] at hx61
                            rcases qq with _
                            all_goals (rw [hx61] at hr; dsimp only at hr; constructor; (try cbv))
                            refine sel_intro (fun h => ?_) (fun h => ?_)
                            · have h1 : (ieq (0 : Int) i4) = false := by first | exact (bnot_t.1 h) | (have h2 := (bnot_t.1 h); simp only [choice_lk, lock_eq] at h2; exact h2) | (simp only [choice_lk, lock_eq] at h; exact (bnot_t.1 h))
                              rw [if_neg (by rw [h1]; exact Bool.false_ne_true)] at hr
                              (try cbv)
                              apply Hidden.out
                              obtain rfl := Option.some.inj hr
                              have e := ht1 _ rfl
                              constructor
                              refine ⟨_, hF, ?_⟩
                              (try cbv); (try simp only [choice_lk, lock_eq, and_self, and_true, true_and]); (try first | exact e | exact e.symm | (and_intros <;> first | assumption | rfl | exact Eq.symm (by assumption)))
                            · have h1 : (ieq (0 : Int) i4) = true := by first | exact (bnot_f.1 h) | (have h2 := (bnot_f.1 h); simp only [choice_lk, lock_eq] at h2; exact h2) | (simp only [choice_lk, lock_eq] at h; exact (bnot_f.1 h))
                              rw [if_pos h1] at hr
                              (try cbv)
                              apply Hidden.out
                              obtain rfl := Option.some.inj hr
                              constructor
                              refine ⟨⟨_, rfl⟩, ?_⟩
                              rintro ⟨u0, u1, u2, u3, u4, u5⟩ e
                              replace e := Sum.inl.inj e
                              simp only [Prod.mk.injEq] at e
                              obtain ⟨e0, e1, e2, e3, e4, e5⟩ := e
                              refine le_auto hk ?_
                              (try cbv); (try simp only [choice_lk, lock_eq, and_self, and_true, true_and]); (try first | exact e | exact e.symm | (and_intros <;> first | assumption | rfl | exact Eq.symm (by assumption)))
                          · rw [if_neg (by rw [h1]; exact Bool.false_ne_true)] at hr
                            have h2 : (lock beq2 false false) = false := by simp only [lock_eq]; exact h1
                            simp only [relock, h2]
                            (try cbv)
                            apply Hidden.out
                            obtain rfl := Option.some.inj hr
                            have e := ht1 _ rfl
                            constructor
                            refine ⟨_, hF, ?_⟩
                            (try cbv); (try simp only [choice_lk, lock_eq, and_self, and_true, true_and]); (try first | exact e | exact e.symm | (and_intros <;> first | assumption | rfl | exact Eq.symm (by assumption)))
                        · have h1 : (ieq (D.toI (D.fld (getD r1 (toN i1)) 0)) (3 : Int)) = false := by first | exact h | (have h2 := h; simp only [choice_lk, lock_eq] at h2; exact h2) | (simp only [choice_lk, lock_eq] at h; exact h)
                          rw [if_neg (by rw [h1]; exact Bool.false_ne_true)] at hr
                          (try cbv)
                          have hqe : ∃ qq, F_block_Device_Down_3 = some qq := by
                            cases hq : F_block_Device_Down_3 with
                            | none => rw [hq] at hr; cases hr
                            | some qq => exact ⟨qq, rfl⟩
                          refine ⟨(by simp only [choice_lk, lock_eq]; exact hqe), obl.2 (by simp only [choice_lk, lock_eq]; exact hqe), (by rintro (_) _ <;> cbv), ?_⟩
                          clear hqe
                          intro qq hx62
                          simp only [choice_lk, lock_eq] at hx62
                          rcases qq with _
                          all_goals (rw [hx62] at hr; dsimp only at hr; constructor; (try cbv))
                          rcases Bool.eq_false_or_eq_true (beq2 false b1) with h1 | h1
                          · rw [if_pos h1] at hr
                            have h2 : (lock beq2 false b1) = true := by simp only [lock_eq]; exact h1
                            simp only [relock, h2]
                            (try cbv)
                            have hqe : ∃ qq, F_block_Device_Writes_2 = some qq := by
                              cases hq : F_block_Device_Writes_2 with
                              | none => rw [hq] at hr; cases hr
                              | some qq => exact ⟨qq, rfl⟩
                            refine ⟨(by simp only [choice_lk, lock_eq]; exact hqe), obl.2 (by simp only [choice_lk, lock_eq]; exact hqe), (by rintro (_) _ <;> cbv), ?_⟩
                            clear hqe
                            intro qq hx63
                            simp only [choice_lk, lock_eq] at hx63
                            rcases qq with _
                            all_goals (rw [hx63] at hr; dsimp only at hr; constructor; (try cbv))
                            refine sel_intro (fun h => ?_) (fun h => ?_)
                            · have h1 : (ieq (0 : Int) i4) = false := by first | exact (bnot_t.1 h) | (have h2 := (bnot_t.1 h); simp only [choice_lk, lock_eq] at h2; exact h2) | (simp only [choice_lk, lock_eq] at h; exact (bnot_t.1 h))
                              rw [if_neg (by rw [h1]; exact Bool.false_ne_true)] at hr
                              (try cbv)
                              apply Hidden.out
                              obtain rfl := Option.some.inj hr
                              have e := ht1 _ rfl
                              constructor
                              refine ⟨_, hF, ?_⟩
                              (try cbv); (try simp only [choice_lk, lock_eq, and_self, and_true, true_and]); (try first | exact e | exact e.symm | (and_intros <;> first | assumption | rfl | exact Eq.symm (by assumption)))
                            · have h1 : (ieq (0 : Int) i4) = true := by first | exact (bnot_f.1 h) | (have h2 := (bnot_f.1 h); simp only [choice_lk, lock_eq] at h2; exact h2) | (simp only [choice_lk, lock_eq] at h; exact (bnot_f.1 h))
                              rw [if_pos h1] at hr
                              (try cbv)
                              apply Hidden.out
                              obtain rfl := Option.some.inj hr
                              constructor
                              refine ⟨⟨_, rfl⟩, ?_⟩
                              rintro ⟨u0, u1, u2, u3, u4, u5⟩ e
                              replace e := Sum.inl.inj e
                              simp only [Prod.mk.injEq] at e
                              obtain ⟨e0, e1, e2, e3, e4, e5⟩ := e
                              refine le_auto hk ?_
                              (try cbv); (try simp only [choice_lk, lock_eq, and_self, and_true, true_and]); (try first | exact e | exact e.symm | (and_intros <;> first | assumption | rfl | exact Eq.symm (by assumption)))
                          · rw [if_neg (by rw [h1]; exact Bool.false_ne_true)] at hr
                            have h2 : (lock beq2 false b1) = false := by simp only [lock_eq]; exact h1
                            simp only [relock, h2]
                            (try cbv)
                            apply Hidden.out
                            obtain rfl := Option.some.inj hr
                            have e := ht1 _ rfl
                            constructor
                            refine ⟨_, hF, ?_⟩
                            (try cbv); (try simp only [choice_lk, lock_eq, and_self, and_true, true_and]); (try first | exact e | exact e.symm | (and_intros <;> first | assumption | rfl | exact Eq.symm (by assumption)))
              · as_aux_lemma =>
                have h1 : (ilt i1 (ofN (xlen r1))) = false := by first | exact h | (have h2 := h; simp only [choice_lk, lock_eq] at h2; exact h2) | (simp only [choice_lk, lock_eq] at h; exact h)
                rw [if_neg (by rw [h1]; exact Bool.false_ne_true)] at hr
                (try cbv)
                have hqe : ∃ qq, F_block_Device_Up_3 = some qq := by
                  cases hq : F_block_Device_Up_3 with
                  | none => rw [hq] at hr; cases hr
                  | some qq => exact ⟨qq, rfl⟩
                refine ⟨obl.2 (by simp only [choice_lk, lock_eq]; exact hqe), (by rintro (_) _ <;> cbv), ?_⟩
                clear hqe
                intro qq hx64
                simp only [choice_lk, lock_eq] at hx64
                rcases qq with _
                all_goals (rw [hx64] at hr; dsimp only at hr; constructor; (try cbv))
                apply Hidden.out
                obtain ⟨t, hr2, hw⟩ := map_inv hr
                clear hr
                subst hw
                have e := (ht1 _ rfl).symm
                subst e
                have hr := hr2
                clear hr2
                constructor
                refine LoopOK.iter T (drawOK T hm) (B := (F_tollbarlaw31_BlockDoes_L2 x1 r2)) hr (fun | i5 => ⟨mkFr [(6, (.v (.int .i64 (lock iconv .i64 x1)))), (7, (.v (.pointer none))), (8, (.ptr 0 0)), (19, (.v (.int .i64 i5)))] 190 0, [(0, .blk 32 [(.wsl 1), (.v (.bool b1)), (.v (.int .i64 i2)), (.v (.int .i64 i3)), (.v (.int .i64 i4))]), (1, .row (.row 9 .str r2))], 2⟩) ?_ ?_
                · rintro u0 e
                  refine le_auto hk ?_
                  (try cbv); (try simp only [choice_lk, lock_eq, and_self, and_true, true_and]); (try first | exact e | exact e.symm | (and_intros <;> first | assumption | rfl | exact Eq.symm (by assumption)))
                · clear hr
                  intro x bb1 hr ht1
                  obtain ⟨i5, hz⟩ : ∃ z, z = x := ⟨x, rfl⟩
                  subst hz
                  as_aux_lemma =>
                  constructor
                  unfold F_tollbarlaw31_BlockDoes_L2 at hr
                  (try dsimp only at hr)
                  (try cbv)
                  refine sel_intro (fun h => ?_) (fun h => ?_)
                  · have h1 : (ilt i5 (iconv .i64 x1)) = true := by first | exact h | (have h2 := h; simp only [choice_lk, lock_eq] at h2; exact h2) | (simp only [choice_lk, lock_eq] at h; exact h)
                    rw [if_pos h1] at hr
                    (try cbv)
                    have hqe : ∃ qq, F_block_Device_Read_2 i5 = some qq := by
                      cases hq : F_block_Device_Read_2 i5 with
                      | none => rw [hq] at hr; cases hr
                      | some qq => exact ⟨qq, rfl⟩
                    refine ⟨obl.2 (by simp only [choice_lk, lock_eq]; exact hqe), (by rintro (_) _ <;> cbv), ?_⟩
                    clear hqe
                    intro qq hx67
                    simp only [choice_lk, lock_eq] at hx67
                    rcases qq with _
                    all_goals (rw [hx67] at hr; dsimp only at hr; constructor; (try cbv))
                    rcases Bool.eq_false_or_eq_true (ieq (1 : Int) (0 : Int)) with h1 | h1
                    · rw [if_pos h1] at hr
                      have h2 : (lock ieq (1 : Int) (0 : Int)) = true := by simp only [lock_eq]; exact h1
                      simp only [relock, h2]
                      (try cbv)
                      have gg := guard_inv hr
                      have g := gg.1
                      replace hr := gg.2
                      clear gg
                      refine ⟨obl.2 (by first | (simp only [choice_lk, lock_eq, R.len, R.sub]; exact g) | exact g), ?_⟩
                      refine sel_intro (fun h => ?_) (fun h => ?_)
                      · have h1 : (seq ([] : List UInt8) (D.toS (getD r2 (toN i5)))) = false := by first | exact (bnot_t.1 h) | (have h2 := (bnot_t.1 h); simp only [choice_lk, lock_eq] at h2; exact h2) | (simp only [choice_lk, lock_eq] at h; exact (bnot_t.1 h))
                        rw [if_neg (by rw [h1]; exact Bool.false_ne_true)] at hr
                        (try cbv)
                        apply Hidden.out
                        obtain rfl := Option.some.inj hr
                        have e := ht1 _ rfl
                        constructor
                        refine ⟨_, hF, ?_⟩
                        (try cbv); (try simp only [choice_lk, lock_eq, and_self, and_true, true_and]); (try first | exact e | exact e.symm | (and_intros <;> first | assumption | rfl | exact Eq.symm (by assumption)))
                      · have h1 : (seq ([] : List UInt8) (D.toS (getD r2 (toN i5)))) = true := by first | exact (bnot_f.1 h) | (have h2 := (bnot_f.1 h); simp only [choice_lk, lock_eq] at h2; exact h2) | (simp only [choice_lk, lock_eq] at h; exact (bnot_f.1 h))
                        rw [if_pos h1] at hr
                        (try cbv)
                        apply Hidden.out
                        obtain rfl := Option.some.inj hr
                        constructor
                        refine ⟨⟨_, rfl⟩, ?_⟩
                        rintro u0 e
                        replace e := Sum.inl.inj e
                        refine le_auto hk ?_
                        (try cbv); (try simp only [choice_lk, lock_eq, and_self, and_true, true_and]); (try first | exact e | exact e.symm | (and_intros <;> first | assumption | rfl | exact Eq.symm (by assumption)))
                    · rw [if_neg (by rw [h1]; exact Bool.false_ne_true)] at hr
                      have h2 : (lock ieq (1 : Int) (0 : Int)) = false := by simp only [lock_eq]; exact h1
                      simp only [relock, h2]
                      (try cbv)
                      apply Hidden.out
                      obtain rfl := Option.some.inj hr
                      have e := ht1 _ rfl
                      constructor
                      refine ⟨_, hF, ?_⟩
                      (try cbv); (try simp only [choice_lk, lock_eq, and_self, and_true, true_and]); (try first | exact e | exact e.symm | (and_intros <;> first | assumption | rfl | exact Eq.symm (by assumption)))
                  · have h1 : (ilt i5 (iconv .i64 x1)) = false := by first | exact h | (have h2 := h; simp only [choice_lk, lock_eq] at h2; exact h2) | (simp only [choice_lk, lock_eq] at h; exact h)
                    rw [if_neg (by rw [h1]; exact Bool.false_ne_true)] at hr
                    (try cbv)
                    apply Hidden.out
                    obtain rfl := Option.some.inj hr
                    have e := ht1 _ rfl
                    constructor
                    refine ⟨_, hF, ?_⟩
                    (try cbv); (try simp only [choice_lk, lock_eq, and_self, and_true, true_and]); (try first | exact e | exact e.symm | (and_intros <;> first | assumption | rfl | exact Eq.symm (by assumption)))
        · refine sel_intro (fun h => ?_) (fun h => ?_)
          · have h1 : (ieq (iconv .i64 x1) (0 : Int)) = true := by first | exact h | (have h2 := h; simp only [choice_lk, lock_eq] at h2; exact h2) | (simp only [choice_lk, lock_eq] at h; exact h)
            rw [if_pos h1] at hr
            (try cbv)
            apply Hidden.out
            have e := Option.some.inj hr
            constructor
            refine ⟨_, hF, ?_⟩
            (try cbv); (try simp only [choice_lk, lock_eq, and_self, and_true, true_and]); (try first | exact e | exact e.symm | (and_intros <;> first | assumption | rfl | exact Eq.symm (by assumption)))
          · as_aux_lemma =>
            have h1 : (ieq (iconv .i64 x1) (0 : Int)) = false := by first | exact h | (have h2 := h; simp only [choice_lk, lock_eq] at h2; exact h2) | (simp only [choice_lk, lock_eq] at h; exact h)
            rw [if_neg (by rw [h1]; exact Bool.false_ne_true)] at hr
            (try cbv)
            have hqe : ∃ qq, F_tollbarref31_New (iconv .i64 x1) = some qq := by
              cases hq : F_tollbarref31_New (iconv .i64 x1) with
              | none => rw [hq] at hr; cases hr
              | some qq => exact ⟨qq, rfl⟩
            refine ⟨obl.2 (by simp only [choice_lk, lock_eq]; exact hqe), (by rintro (_) _ <;> cbv), ?_⟩
            clear hqe
            intro q7 hx68
            simp only [choice_lk, lock_eq] at hx68
            all_goals (rw [hx68] at hr; dsimp only at hr; constructor; (try cbv))
            refine LoopOK.iter T (drawOK T hm) (B := (F_tollbarlaw31_BlockDoes_L3 r1)) hr (fun | (.inl (i19, i6, b4, i7, b2, i8, i9, i10, r3, r4)) => ⟨mkFr [(1, (.rsl (.row 35 (.st [(.int .i64), (.int .i64), (.int .i64), .str]) r1))), (6, (.v (.int .i64 i19))), (7, (.ptr 0 0)), (8, (.ptr 1 0)), (9, (.v (.int .i64 i6)))] 190 0, [(0, .blk 53 [(.wsl 2), (.v (.bool b4)), (.v (.pointer none)), (.v (.int .i64 i7))]), (1, .blk 32 [(.wsl 3), (.v (.bool b2)), (.v (.int .i64 i8)), (.v (.int .i64 i9)), (.v (.int .i64 i10))]), (2, .row (.row 57 (.u8s 64) r3)), (3, .row (.row 9 .str r4))], 4⟩ | (.inr (i11, i12, b5, i17, b3, i13, i14, i18, r5, i15, i16, r6)) => ⟨mkFr [(1, (.rsl (.row 35 (.st [(.int .i64), (.int .i64), (.int .i64), .str]) r1))), (6, (.v (.int .i64 i11))), (7, (.ptr 0 0)), (8, (.ptr 1 0)), (9, (.v (.int .i64 i12)))] 190 0, [(0, .blk 53 [(.wsl 2), (.v (.bool b5)), (.ptr 3 0), (.v (.int .i64 i17))]), (1, .blk 32 [(.wsl 4), (.v (.bool b3)), (.v (.int .i64 i13)), (.v (.int .i64 i14)), (.v (.int .i64 i18))]), (2, .row (.row 57 (.u8s 64) r5)), (3, .blk 56 [(.v (.int .i64 i15)), (.v (.int .i64 i16))]), (4, .row (.row 9 .str r6))], 5⟩) ?_ ?_
            · rintro x1 e
              apply Hidden.out
              revert e
              rcases x1 with ⟨u0, u1, u2, u3, u4, u5, u6, u7, u8, u9⟩ | _ <;> intro e
              · replace e := Sum.inl.inj e
                simp only [Prod.mk.injEq] at e
                obtain ⟨e0, e1, e2, e3, e4, e5, e6, e7, e8, e9⟩ := e
                constructor
                refine le_auto hk ?_
                (try cbv); (try simp only [choice_lk, lock_eq, and_self, and_true, true_and]); (try first | exact e | exact e.symm | (and_intros <;> first | assumption | rfl | exact Eq.symm (by assumption)))
              · cases e
            · clear hr
              intro x bb1 hr ht1
              rcases x with ⟨i19, i6, b4, i7, b2, i8, i9, i10, r3, r4⟩ | ⟨i11, i12, b5, i17, b3, i13, i14, i18, r5, i15, i16, r6⟩
              · as_aux_lemma =>
                constructor
                unfold F_tollbarlaw31_BlockDoes_L3 at hr
                (try dsimp only at hr)
                (try cbv)
                refine sel_intro (fun h => ?_) (fun h => ?_)
                · as_aux_lemma =>
                  have h1 : (ilt i6 (ofN (xlen r1))) = true := by first | exact h | (have h2 := h; simp only [choice_lk, lock_eq] at h2; exact h2) | (simp only [choice_lk, lock_eq] at h; exact h)
                  rw [if_pos h1] at hr
                  (try cbv)
                  have gg := guard_inv hr
                  have g := gg.1
                  replace hr := gg.2
                  clear gg
                  refine ⟨obl.2 (by first | (simp only [choice_lk, lock_eq, R.len, R.sub]; exact g) | exact g), ?_⟩
                  refine sel_intro (fun h => ?_) (fun h => ?_)
                  · have h1 : (ilt (100 : Int) (ofN (xlen (D.toS (D.fld (getD r1 (toN i6)) 3))))) = true := by first | exact h | (have h2 := h; simp only [choice_lk, lock_eq] at h2; exact h2) | (simp only [choice_lk, lock_eq] at h; exact h)
                    rw [if_pos h1] at hr
                    (try cbv)
                    apply Hidden.out
                    obtain rfl := Option.some.inj hr
                    have e := ht1 _ rfl
                    constructor
                    refine ⟨_, hF, ?_⟩
                    (try cbv); (try simp only [choice_lk, lock_eq, and_self, and_true, true_and]); (try first | exact e | exact e.symm | (and_intros <;> first | assumption | rfl | exact Eq.symm (by assumption)))
                  · as_aux_lemma =>
                    have h1 : (ilt (100 : Int) (ofN (xlen (D.toS (D.fld (getD r1 (toN i6)) 3))))) = false := by first | exact h | (have h2 := h; simp only [choice_lk, lock_eq] at h2; exact h2) | (simp only [choice_lk, lock_eq] at h; exact h)
                    rw [if_neg (by rw [h1]; exact Bool.false_ne_true)] at hr
                    (try cbv)
                    refine sel_intro (fun h => ?_) (fun h => ?_)
                    · as_aux_lemma =>
                      have h1 : (ieq (D.toI (D.fld (getD r1 (toN i6)) 0)) (0 : Int)) = true := by first | exact h | (have h2 := h; simp only [choice_lk, lock_eq] at h2; exact h2) | (simp only [choice_lk, lock_eq] at h; exact h)
                      rw [if_pos h1] at hr
                      (try cbv)
                      have hqe : ∃ qq, F_tollbarref31_Write b2 i8 i9 i10 (D.toI (D.fld (getD r1 (toN i6)) 1)) (D.toS (D.fld (getD r1 (toN i6)) 3)) r4 = some qq := by
                        cases hq : F_tollbarref31_Write b2 i8 i9 i10 (D.toI (D.fld (getD r1 (toN i6)) 1)) (D.toS (D.fld (getD r1 (toN i6)) 3)) r4 with
                        | none => rw [hq] at hr; cases hr
                        | some qq => exact ⟨qq, rfl⟩
                      refine ⟨obl.2 (by simp only [choice_lk, lock_eq]; exact hqe), (by rintro (⟨_, _, _, _, _, _⟩) _ <;> cbv), ?_⟩
                      clear hqe
                      intro qq hx209
                      simp only [choice_lk, lock_eq] at hx209
                      rcases qq with ⟨c12, y110, y111, y112, y113, q24⟩
                      all_goals (rw [hx209] at hr; dsimp only at hr; constructor; (try cbv))
                      have hqe : ∃ qq, F_block_Device_Write (D.toI (D.fld (getD r1 (toN i6)) 1)) (D.toS (D.fld (getD r1 (toN i6)) 3)) b4 i7 r3 = some qq := by
                        cases hq : F_block_Device_Write (D.toI (D.fld (getD r1 (toN i6)) 1)) (D.toS (D.fld (getD r1 (toN i6)) 3)) b4 i7 r3 with
                        | none => rw [hq] at hr; cases hr
                        | some qq => exact ⟨qq, rfl⟩
                      refine ⟨obl.2 (by simp only [choice_lk, lock_eq]; exact hqe), (by rintro (⟨_, _, _⟩) _ <;> cbv), ?_⟩
                      clear hqe
                      intro qq hx210
                      simp only [choice_lk, lock_eq] at hx210
                      rcases qq with ⟨y114, y115, q25⟩
                      all_goals (rw [hx210] at hr; dsimp only at hr; constructor; (try cbv))
                      refine sel_intro (fun h => ?_) (fun h => ?_)
                      · have h1 : (ieq y114 y113) = false := by first | exact (bnot_t.1 h) | (have h2 := (bnot_t.1 h); simp only [choice_lk, lock_eq] at h2; exact h2) | (simp only [choice_lk, lock_eq] at h; exact (bnot_t.1 h))
                        rw [if_neg (by rw [h1]; exact Bool.false_ne_true)] at hr
                        (try cbv)
                        apply Hidden.out
                        obtain rfl := Option.some.inj hr
                        have e := ht1 _ rfl
                        constructor
                        refine ⟨_, hF, ?_⟩
                        (try cbv); (try simp only [choice_lk, lock_eq, and_self, and_true, true_and]); (try first | exact e | exact e.symm | (and_intros <;> first | assumption | rfl | exact Eq.symm (by assumption)))
                      · as_aux_lemma =>
                        have h1 : (ieq y114 y113) = true := by first | exact (bnot_f.1 h) | (have h2 := (bnot_f.1 h); simp only [choice_lk, lock_eq] at h2; exact h2) | (simp only [choice_lk, lock_eq] at h; exact (bnot_f.1 h))
                        rw [if_pos h1] at hr
                        (try cbv)
                        have hqe : ∃ qq, F_block_Device_Down b4 y115 q25 = some qq := by
                          cases hq : F_block_Device_Down b4 y115 q25 with
                          | none => rw [hq] at hr; cases hr
                          | some qq => exact ⟨qq, rfl⟩
                        refine ⟨(by simp only [choice_lk, lock_eq]; exact hqe), obl.2 (by simp only [choice_lk, lock_eq]; exact hqe), (by rintro (_) _ <;> cbv), ?_⟩
                        clear hqe
                        intro qq hx211
                        simp only [choice_lk, lock_eq] at hx211
                        rcases qq with _
                        all_goals (rw [hx211] at hr; dsimp only at hr; constructor; (try cbv))
                        rcases Bool.eq_false_or_eq_true (beq2 b4 c12) with h1 | h1
                        · rw [if_pos h1] at hr
                          have h2 : (lock beq2 b4 c12) = true := by simp only [lock_eq]; exact h1
                          simp only [relock, h2]
                          (try cbv)
                          have hqe : ∃ qq, F_block_Device_Writes b4 y115 q25 = some qq := by
                            cases hq : F_block_Device_Writes b4 y115 q25 with
                            | none => rw [hq] at hr; cases hr
                            | some qq => exact ⟨qq, rfl⟩
                          refine ⟨(by simp only [choice_lk, lock_eq]; exact hqe), obl.2 (by simp only [choice_lk, lock_eq]; exact hqe), (by rintro (_) _ <;> cbv), ?_⟩
                          clear hqe
                          intro qq hx212
                          simp only [choice_lk, lock_eq] at hx212
                          rcases qq with _
                          all_goals (rw [hx212] at hr; dsimp only at hr; constructor; (try cbv))
                          refine sel_intro (fun h => ?_) (fun h => ?_)
                          · have h1 : (ieq y115 y112) = false := by first | exact (bnot_t.1 h) | (have h2 := (bnot_t.1 h); simp only [choice_lk, lock_eq] at h2; exact h2) | (simp only [choice_lk, lock_eq] at h; exact (bnot_t.1 h))
                            rw [if_neg (by rw [h1]; exact Bool.false_ne_true)] at hr
                            (try cbv)
                            apply Hidden.out
                            obtain rfl := Option.some.inj hr
                            have e := ht1 _ rfl
                            constructor
                            refine ⟨_, hF, ?_⟩
                            (try cbv); (try simp only [choice_lk, lock_eq, and_self, and_true, true_and]); (try first | exact e | exact e.symm | (and_intros <;> first | assumption | rfl | exact Eq.symm (by assumption)))
                          · have h1 : (ieq y115 y112) = true := by first | exact (bnot_f.1 h) | (have h2 := (bnot_f.1 h); simp only [choice_lk, lock_eq] at h2; exact h2) | (simp only [choice_lk, lock_eq] at h; exact (bnot_f.1 h))
                            rw [if_pos h1] at hr
                            (try cbv)
                            apply Hidden.out
                            obtain rfl := Option.some.inj hr
                            constructor
                            refine ⟨⟨_, rfl⟩, ?_⟩
                            rintro x1 e
                            replace e := Sum.inl.inj e
                            apply Hidden.out
                            revert e
                            rcases x1 with ⟨u0, u1, u2, u3, u4, u5, u6, u7, u8, u9⟩ | _ <;> intro e
                            · replace e := Sum.inl.inj e
                              simp only [Prod.mk.injEq] at e
                              obtain ⟨e0, e1, e2, e3, e4, e5, e6, e7, e8, e9⟩ := e
                              constructor
                              refine le_auto hk ?_
                              (try cbv); (try simp only [choice_lk, lock_eq, and_self, and_true, true_and]); (try first | exact e | exact e.symm | (and_intros <;> first | assumption | rfl | exact Eq.symm (by assumption)))
                            · cases e
                        · rw [if_neg (by rw [h1]; exact Bool.false_ne_true)] at hr
                          have h2 : (lock beq2 b4 c12) = false := by simp only [lock_eq]; exact h1
                          simp only [relock, h2]
                          (try cbv)
                          apply Hidden.out
                          obtain rfl := Option.some.inj hr
                          have e := ht1 _ rfl
                          constructor
                          refine ⟨_, hF, ?_⟩
                          (try cbv); (try simp only [choice_lk, lock_eq, and_self, and_true, true_and]); (try first | exact e | exact e.symm | (and_intros <;> first | assumption | rfl | exact Eq.symm (by assumption)))
                    · as_aux_lemma =>
                      have h1 : (ieq (D.toI (D.fld (getD r1 (toN i6)) 0)) (0 : Int)) = false := by first | exact h | (have h2 := h; simp only [choice_lk, lock_eq] at h2; exact h2) | (simp only [choice_lk, lock_eq] at h; exact h)
                      rw [if_neg (by rw [h1]; exact Bool.false_ne_true)] at hr
                      (try cbv)
                      refine sel_intro (fun h => ?_) (fun h => ?_)
                      · as_aux_lemma =>
                        have h1 : (ieq (D.toI (D.fld (getD r1 (toN i6)) 0)) (1 : Int)) = true := by first | exact h | (have h2 := h; simp only [choice_lk, lock_eq] at h2; exact h2) | (simp only [choice_lk, lock_eq] at h; exact h)
                        rw [if_pos h1] at hr
                        (try cbv)
                        have hqe : ∃ qq, F_block_Device_Read (D.toI (D.fld (getD r1 (toN i6)) 1)) b4 i7 r3 = some qq := by
                          cases hq : F_block_Device_Read (D.toI (D.fld (getD r1 (toN i6)) 1)) b4 i7 r3 with
                          | none => rw [hq] at hr; cases hr
                          | some qq => exact ⟨qq, rfl⟩
                        refine ⟨obl.2 (by simp only [choice_lk, lock_eq]; exact hqe), (by rintro (⟨_, _⟩) _ <;> cbv), ?_⟩
                        clear hqe
                        intro qq hx213
                        simp only [choice_lk, lock_eq] at hx213
                        rcases qq with ⟨y116, t18⟩
                        all_goals (rw [hx213] at hr; dsimp only at hr; constructor; (try cbv))
                        have hqe : ∃ qq, F_tollbarref31_Read b2 i8 i9 i10 (D.toI (D.fld (getD r1 (toN i6)) 1)) r4 = some qq := by
                          cases hq : F_tollbarref31_Read b2 i8 i9 i10 (D.toI (D.fld (getD r1 (toN i6)) 1)) r4 with
                          | none => rw [hq] at hr; cases hr
                          | some qq => exact ⟨qq, rfl⟩
                        refine ⟨obl.2 (by simp only [choice_lk, lock_eq]; exact hqe), (by rintro (⟨_, _⟩) _ <;> cbv), ?_⟩
                        clear hqe
                        intro qq hx214
                        simp only [choice_lk, lock_eq] at hx214
                        rcases qq with ⟨t19, y117⟩
                        all_goals (rw [hx214] at hr; dsimp only at hr; constructor; (try cbv))
                        refine sel_intro (fun h => ?_) (fun h => ?_)
                        · have h1 : (seq t18 t19) = false := by first | exact (bnot_t.1 h) | (have h2 := (bnot_t.1 h); simp only [choice_lk, lock_eq] at h2; exact h2) | (simp only [choice_lk, lock_eq] at h; exact (bnot_t.1 h))
                          rw [if_neg (by rw [h1]; exact Bool.false_ne_true)] at hr
                          (try cbv)
                          apply Hidden.out
                          obtain rfl := Option.some.inj hr
                          have e := ht1 _ rfl
                          constructor
                          refine ⟨_, hF, ?_⟩
                          (try cbv); (try simp only [choice_lk, lock_eq, and_self, and_true, true_and]); (try first | exact e | exact e.symm | (and_intros <;> first | assumption | rfl | exact Eq.symm (by assumption)))
                        · as_aux_lemma =>
                          have h1 : (seq t18 t19) = true := by first | exact (bnot_f.1 h) | (have h2 := (bnot_f.1 h); simp only [choice_lk, lock_eq] at h2; exact h2) | (simp only [choice_lk, lock_eq] at h; exact (bnot_f.1 h))
                          rw [if_pos h1] at hr
                          (try cbv)
                          refine sel_intro (fun h => ?_) (fun h => ?_)
                          · have h1 : (ieq y116 y117) = false := by first | exact (bnot_t.1 h) | (have h2 := (bnot_t.1 h); simp only [choice_lk, lock_eq] at h2; exact h2) | (simp only [choice_lk, lock_eq] at h; exact (bnot_t.1 h))
                            rw [if_neg (by rw [h1]; exact Bool.false_ne_true)] at hr
                            (try cbv)
                            apply Hidden.out
                            obtain rfl := Option.some.inj hr
                            have e := ht1 _ rfl
                            constructor
                            refine ⟨_, hF, ?_⟩
                            (try cbv); (try simp only [choice_lk, lock_eq, and_self, and_true, true_and]); (try first | exact e | exact e.symm | (and_intros <;> first | assumption | rfl | exact Eq.symm (by assumption)))
                          · as_aux_lemma =>
                            have h1 : (ieq y116 y117) = true := by first | exact (bnot_f.1 h) | (have h2 := (bnot_f.1 h); simp only [choice_lk, lock_eq] at h2; exact h2) | (simp only [choice_lk, lock_eq] at h; exact (bnot_f.1 h))
                            rw [if_pos h1] at hr
                            (try cbv)
                            have hqe : ∃ qq, F_block_Device_Down b4 i7 r3 = some qq := by
                              cases hq : F_block_Device_Down b4 i7 r3 with
                              | none => rw [hq] at hr; cases hr
                              | some qq => exact ⟨qq, rfl⟩
                            refine ⟨(by simp only [choice_lk, lock_eq]; exact hqe), obl.2 (by simp only [choice_lk, lock_eq]; exact hqe), (by rintro (_) _ <;> cbv), ?_⟩
                            clear hqe
                            intro qq hx215
                            simp only [choice_lk, lock_eq] at hx215
                            rcases qq with _
                            all_goals (rw [hx215] at hr; dsimp only at hr; constructor; (try cbv))
                            rcases Bool.eq_false_or_eq_true (beq2 b4 b2) with h1 | h1
                            · rw [if_pos h1] at hr
                              have h2 : (lock beq2 b4 b2) = true := by simp only [lock_eq]; exact h1
                              simp only [relock, h2]
                              (try cbv)
                              have hqe : ∃ qq, F_block_Device_Writes b4 i7 r3 = some qq := by
                                cases hq : F_block_Device_Writes b4 i7 r3 with
                                | none => rw [hq] at hr; cases hr
                                | some qq => exact ⟨qq, rfl⟩
                              refine ⟨(by simp only [choice_lk, lock_eq]; exact hqe), obl.2 (by simp only [choice_lk, lock_eq]; exact hqe), (by rintro (_) _ <;> cbv), ?_⟩
                              clear hqe
                              intro qq hx216
                              simp only [choice_lk, lock_eq] at hx216
                              rcases qq with _
                              all_goals (rw [hx216] at hr; dsimp only at hr; constructor; (try cbv))
                              refine sel_intro (fun h => ?_) (fun h => ?_)
                              · have h1 : (ieq i7 i10) = false := by first | exact (bnot_t.1 h) | (have h2 := (bnot_t.1 h); simp only [choice_lk, lock_eq] at h2; exact h2) | (simp only [choice_lk, lock_eq] at h; exact (bnot_t.1 h))
                                rw [if_neg (by rw [h1]; exact Bool.false_ne_true)] at hr
                                (try cbv)
                                apply Hidden.out
                                obtain rfl := Option.some.inj hr
                                have e := ht1 _ rfl
                                constructor
                                refine ⟨_, hF, ?_⟩
                                (try cbv); (try simp only [choice_lk, lock_eq, and_self, and_true, true_and]); (try first | exact e | exact e.symm | (and_intros <;> first | assumption | rfl | exact Eq.symm (by assumption)))
                              · have h1 : (ieq i7 i10) = true := by first | exact (bnot_f.1 h) | (have h2 := (bnot_f.1 h); simp only [choice_lk, lock_eq] at h2; exact h2) | (simp only [choice_lk, lock_eq] at h; exact (bnot_f.1 h))
                                rw [if_pos h1] at hr
                                (try cbv)
                                apply Hidden.out
                                obtain rfl := Option.some.inj hr
                                constructor
                                refine ⟨⟨_, rfl⟩, ?_⟩
                                rintro x1 e
                                replace e := Sum.inl.inj e
                                apply Hidden.out
                                revert e
                                rcases x1 with ⟨u0, u1, u2, u3, u4, u5, u6, u7, u8, u9⟩ | _ <;> intro e
                                · replace e := Sum.inl.inj e
                                  simp only [Prod.mk.injEq] at e
                                  obtain ⟨e0, e1, e2, e3, e4, e5, e6, e7, e8, e9⟩ := e
                                  constructor
                                  refine le_auto hk ?_
                                  (try cbv); (try simp only [choice_lk, lock_eq, and_self, and_true, true_and]); (try first | exact e | exact e.symm | (and_intros <;> first | assumption | rfl | exact Eq.symm (by assumption)))
                                · cases e
                            · rw [if_neg (by rw [h1]; exact Bool.false_ne_true)] at hr
                              have h2 : (lock beq2 b4 b2) = false := by simp only [lock_eq]; exact h1
                              simp only [relock, h2]
                              (try cbv)
                              apply Hidden.out
                              obtain rfl := Option.some.inj hr
                              have e := ht1 _ rfl
                              constructor
                              refine ⟨_, hF, ?_⟩
                              (try cbv); (try simp only [choice_lk, lock_eq, and_self, and_true, true_and]); (try first | exact e | exact e.symm | (and_intros <;> first | assumption | rfl | exact Eq.symm (by assumption)))
                      · as_aux_lemma =>
                        have h1 : (ieq (D.toI (D.fld (getD r1 (toN i6)) 0)) (1 : Int)) = false := by first | exact h | (have h2 := h; simp only [choice_lk, lock_eq] at h2; exact h2) | (simp only [choice_lk, lock_eq] at h; exact h)
                        rw [if_neg (by rw [h1]; exact Bool.false_ne_true)] at hr
                        (try cbv)
                        refine sel_intro (fun h => ?_) (fun h => ?_)
                        · as_aux_lemma =>
                          have h1 : (ieq (D.toI (D.fld (getD r1 (toN i6)) 0)) (2 : Int)) = true := by first | exact h | (have h2 := h; simp only [choice_lk, lock_eq] at h2; exact h2) | (simp only [choice_lk, lock_eq] at h; exact h)
                          rw [if_pos h1] at hr
                          (try cbv)
                          have hqe : ∃ qq, F_tollbarref31_Arm b2 i8 i9 i10 (D.toI (D.fld (getD r1 (toN i6)) 1)) (D.toI (D.fld (getD r1 (toN i6)) 2)) r4 = some qq := by
                            cases hq : F_tollbarref31_Arm b2 i8 i9 i10 (D.toI (D.fld (getD r1 (toN i6)) 1)) (D.toI (D.fld (getD r1 (toN i6)) 2)) r4 with
                            | none => rw [hq] at hr; cases hr
                            | some qq => exact ⟨qq, rfl⟩
                          refine ⟨obl.2 (by simp only [choice_lk, lock_eq]; exact hqe), (by rintro (⟨_, _, _⟩) _ <;> cbv), ?_⟩
                          clear hqe
                          intro qq hx217
                          simp only [choice_lk, lock_eq] at hx217
                          rcases qq with ⟨y118, y119, y120⟩
                          all_goals (rw [hx217] at hr; dsimp only at hr; constructor; (try cbv))
                          have hqe : ∃ qq, F_block_Device_Arm (D.toI (D.fld (getD r1 (toN i6)) 1)) (D.toI (D.fld (getD r1 (toN i6)) 2)) b4 i7 r3 = some qq := by
                            cases hq : F_block_Device_Arm (D.toI (D.fld (getD r1 (toN i6)) 1)) (D.toI (D.fld (getD r1 (toN i6)) 2)) b4 i7 r3 with
                            | none => rw [hq] at hr; cases hr
                            | some qq => exact ⟨qq, rfl⟩
                          refine ⟨obl.2 (by simp only [choice_lk, lock_eq]; exact hqe), (by rintro (_ | _) _ <;> cbv), ?_⟩
                          clear hqe
                          intro qq hx218
                          simp only [choice_lk, lock_eq] at hx218
                          rcases qq with _ | _
                          all_goals (rw [hx218] at hr; dsimp only at hr; constructor; (try cbv))
                          · refine sel_intro (fun h => ?_) (fun h => ?_)
                            · have h1 : (ieq (1 : Int) y120) = false := by first | exact (bnot_t.1 h) | (have h2 := (bnot_t.1 h); simp only [choice_lk, lock_eq] at h2; exact h2) | (simp only [choice_lk, lock_eq] at h; exact (bnot_t.1 h))
                              rw [if_neg (by rw [h1]; exact Bool.false_ne_true)] at hr
                              (try cbv)
                              apply Hidden.out
                              obtain rfl := Option.some.inj hr
                              have e := ht1 _ rfl
                              constructor
                              refine ⟨_, hF, ?_⟩
                              (try cbv); (try simp only [choice_lk, lock_eq, and_self, and_true, true_and]); (try first | exact e | exact e.symm | (and_intros <;> first | assumption | rfl | exact Eq.symm (by assumption)))
                            · as_aux_lemma =>
                              have h1 : (ieq (1 : Int) y120) = true := by first | exact (bnot_f.1 h) | (have h2 := (bnot_f.1 h); simp only [choice_lk, lock_eq] at h2; exact h2) | (simp only [choice_lk, lock_eq] at h; exact (bnot_f.1 h))
                              rw [if_pos h1] at hr
                              (try cbv)
                              have hqe : ∃ qq, F_block_Device_Down b4 i7 r3 = some qq := by
                                cases hq : F_block_Device_Down b4 i7 r3 with
                                | none => rw [hq] at hr; cases hr
                                | some qq => exact ⟨qq, rfl⟩
                              refine ⟨(by simp only [choice_lk, lock_eq]; exact hqe), obl.2 (by simp only [choice_lk, lock_eq]; exact hqe), (by rintro (_) _ <;> cbv), ?_⟩
                              clear hqe
                              intro qq hx219
                              simp only [choice_lk, lock_eq] at hx219
                              rcases qq with _
                              all_goals (rw [hx219] at hr; dsimp only at hr; constructor; (try cbv))
                              rcases Bool.eq_false_or_eq_true (beq2 b4 b2) with h1 | h1
                              · rw [if_pos h1] at hr
                                have h2 : (lock beq2 b4 b2) = true := by simp only [lock_eq]; exact h1
                                simp only [relock, h2]
                                (try cbv)
                                have hqe : ∃ qq, F_block_Device_Writes b4 i7 r3 = some qq := by
                                  cases hq : F_block_Device_Writes b4 i7 r3 with
                                  | none => rw [hq] at hr; cases hr
                                  | some qq => exact ⟨qq, rfl⟩
                                refine ⟨(by simp only [choice_lk, lock_eq]; exact hqe), obl.2 (by simp only [choice_lk, lock_eq]; exact hqe), (by rintro (_) _ <;> cbv), ?_⟩
                                clear hqe
                                intro qq hx220
                                simp only [choice_lk, lock_eq] at hx220
                                rcases qq with _
                                all_goals (rw [hx220] at hr; dsimp only at hr; constructor; (try cbv))
                                refine sel_intro (fun h => ?_) (fun h => ?_)
                                · have h1 : (ieq i7 i10) = false := by first | exact (bnot_t.1 h) | (have h2 := (bnot_t.1 h); simp only [choice_lk, lock_eq] at h2; exact h2) | (simp only [choice_lk, lock_eq] at h; exact (bnot_t.1 h))
                                  rw [if_neg (by rw [h1]; exact Bool.false_ne_true)] at hr
                                  (try cbv)
                                  apply Hidden.out
                                  obtain rfl := Option.some.inj hr
                                  have e := ht1 _ rfl
                                  constructor
                                  refine ⟨_, hF, ?_⟩
                                  (try cbv); (try simp only [choice_lk, lock_eq, and_self, and_true, true_and]); (try first | exact e | exact e.symm | (and_intros <;> first | assumption | rfl | exact Eq.symm (by assumption)))
                                · have h1 : (ieq i7 i10) = true := by first | exact (bnot_f.1 h) | (have h2 := (bnot_f.1 h); simp only [choice_lk, lock_eq] at h2; exact h2) | (simp only [choice_lk, lock_eq] at h; exact (bnot_f.1 h))
                                  rw [if_pos h1] at hr
                                  (try cbv)
                                  apply Hidden.out
                                  obtain rfl := Option.some.inj hr
                                  constructor
                                  refine ⟨⟨_, rfl⟩, ?_⟩
                                  rintro x1 e
                                  replace e := Sum.inl.inj e
                                  apply Hidden.out
                                  revert e
                                  rcases x1 with ⟨u0, u1, u2, u3, u4, u5, u6, u7, u8, u9⟩ | _ <;> intro e
                                  · replace e := Sum.inl.inj e
                                    simp only [Prod.mk.injEq] at e
                                    obtain ⟨e0, e1, e2, e3, e4, e5, e6, e7, e8, e9⟩ := e
                                    constructor
                                    refine le_auto hk ?_
                                    (try cbv); (try simp only [choice_lk, lock_eq, and_self, and_true, true_and]); (try first | exact e | exact e.symm | (and_intros <;> first | assumption | rfl | exact Eq.symm (by assumption)))
                                  · cases e
                              · rw [if_neg (by rw [h1]; exact Bool.false_ne_true)] at hr
                                have h2 : (lock beq2 b4 b2) = false := by simp only [lock_eq]; exact h1
                                simp only [relock, h2]
                                (try cbv)
                                apply Hidden.out
                                obtain rfl := Option.some.inj hr
                                have e := ht1 _ rfl
                                constructor
                                refine ⟨_, hF, ?_⟩
                                (try cbv); (try simp only [choice_lk, lock_eq, and_self, and_true, true_and]); (try first | exact e | exact e.symm | (and_intros <;> first | assumption | rfl | exact Eq.symm (by assumption)))
                          · refine sel_intro (fun h => ?_) (fun h => ?_)
                            · have h1 : (ieq (0 : Int) y120) = false := by first | exact (bnot_t.1 h) | (have h2 := (bnot_t.1 h); simp only [choice_lk, lock_eq] at h2; exact h2) | (simp only [choice_lk, lock_eq] at h; exact (bnot_t.1 h))
                              rw [if_neg (by rw [h1]; exact Bool.false_ne_true)] at hr
                              (try cbv)
                              apply Hidden.out
                              obtain rfl := Option.some.inj hr
                              have e := ht1 _ rfl
                              constructor
                              refine ⟨_, hF, ?_⟩
                              (try cbv); (try simp only [choice_lk, lock_eq, and_self, and_true, true_and]); (try first | exact e | exact e.symm | (and_intros <;> first | assumption | rfl | exact Eq.symm (by assumption)))
                            · as_aux_lemma =>
                              have h1 : (ieq (0 : Int) y120) = true := by first | exact (bnot_f.1 h) | (have h2 := (bnot_f.1 h); simp only [choice_lk, lock_eq] at h2; exact h2) | (simp only [choice_lk, lock_eq] at h; exact (bnot_f.1 h))
                              rw [if_pos h1] at hr
                              (try cbv)
                              have hqe : ∃ qq, F_block_Device_Down_2 b4 i7 r3 (D.toI (D.fld (getD r1 (toN i6)) 1)) (D.toI (D.fld (getD r1 (toN i6)) 2)) = some qq := by
                                cases hq : F_block_Device_Down_2 b4 i7 r3 (D.toI (D.fld (getD r1 (toN i6)) 1)) (D.toI (D.fld (getD r1 (toN i6)) 2)) with
                                | none => rw [hq] at hr; cases hr
                                | some qq => exact ⟨qq, rfl⟩
                              refine ⟨(by simp only [choice_lk, lock_eq]; exact hqe), obl.2 (by simp only [choice_lk, lock_eq]; exact hqe), (by rintro (_) _ <;> cbv), ?_⟩
                              clear hqe
                              intro qq hx221
                              simp only [choice_lk, lock_eq] at hx221
                              rcases qq with _
                              all_goals (rw [hx221] at hr; dsimp only at hr; constructor; (try cbv))
                              rcases Bool.eq_false_or_eq_true (beq2 b4 b2) with h1 | h1
                              · rw [if_pos h1] at hr
                                have h2 : (lock beq2 b4 b2) = true := by simp only [lock_eq]; exact h1
                                simp only [relock, h2]
                                (try cbv)
                                have hqe : ∃ qq, F_block_Device_Writes_3 b4 i7 r3 (D.toI (D.fld (getD r1 (toN i6)) 1)) (D.toI (D.fld (getD r1 (toN i6)) 2)) = some qq := by
                                  cases hq : F_block_Device_Writes_3 b4 i7 r3 (D.toI (D.fld (getD r1 (toN i6)) 1)) (D.toI (D.fld (getD r1 (toN i6)) 2)) with
                                  | none => rw [hq] at hr; cases hr
                                  | some qq => exact ⟨qq, rfl⟩
                                refine ⟨(by simp only [choice_lk, lock_eq]; exact hqe), obl.2 (by simp only [choice_lk, lock_eq]; exact hqe), (by rintro (_) _ <;> cbv), ?_⟩
                                clear hqe
                                intro qq hx222
                                simp only [choice_lk, lock_eq] at hx222
                                rcases qq with _
                                all_goals (rw [hx222] at hr; dsimp only at hr; constructor; (try cbv))
                                refine sel_intro (fun h => ?_) (fun h => ?_)
                                · have h1 : (ieq i7 i10) = false := by first | exact (bnot_t.1 h) | (have h2 := (bnot_t.1 h); simp only [choice_lk, lock_eq] at h2; exact h2) | (simp only [choice_lk, lock_eq] at h; exact (bnot_t.1 h))
                                  rw [if_neg (by rw [h1]; exact Bool.false_ne_true)] at hr
                                  (try cbv)
                                  apply Hidden.out
                                  obtain rfl := Option.some.inj hr
                                  have e := ht1 _ rfl
                                  constructor
                                  refine ⟨_, hF, ?_⟩
                                  (try cbv); (try simp only [choice_lk, lock_eq, and_self, and_true, true_and]); (try first | exact e | exact e.symm | (and_intros <;> first | assumption | rfl | exact Eq.symm (by assumption)))
                                · have h1 : (ieq i7 i10) = true := by first | exact (bnot_f.1 h) | (have h2 := (bnot_f.1 h); simp only [choice_lk, lock_eq] at h2; exact h2) | (simp only [choice_lk, lock_eq] at h; exact (bnot_f.1 h))
                                  rw [if_pos h1] at hr
                                  (try cbv)
                                  apply Hidden.out
                                  obtain rfl := Option.some.inj hr
                                  constructor
                                  refine ⟨⟨_, rfl⟩, ?_⟩
                                  rintro x1 e
                                  replace e := Sum.inl.inj e
                                  apply Hidden.out
                                  revert e
                                  rcases x1 with _ | ⟨u0, u1, u2, u3, u4, u5, u6, u7, u8, u9, u10, u11⟩ <;> intro e
                                  · cases e
                                  · replace e := Sum.inr.inj e
                                    simp only [Prod.mk.injEq] at e
                                    obtain ⟨e0, e1, e2, e3, e4, e5, e6, e7, e8, e9, e10, e11⟩ := e
                                    constructor
                                    refine le_auto hk ?_
                                    (try cbv); (try simp only [choice_lk, lock_eq, and_self, and_true, true_and]); (try first | exact e | exact e.symm | (and_intros <;> first | assumption | rfl | exact Eq.symm (by assumption)))
                              · rw [if_neg (by rw [h1]; exact Bool.false_ne_true)] at hr
                                have h2 : (lock beq2 b4 b2) = false := by simp only [lock_eq]; exact h1
                                simp only [relock, h2]
                                (try cbv)
                                apply Hidden.out
                                obtain rfl := Option.some.inj hr
                                have e := ht1 _ rfl
                                constructor
                                refine ⟨_, hF, ?_⟩
                                (try cbv); (try simp only [choice_lk, lock_eq, and_self, and_true, true_and]); (try first | exact e | exact e.symm | (and_intros <;> first | assumption | rfl | exact Eq.symm (by assumption)))
                        · as_aux_lemma =>
                          have h1 : (ieq (D.toI (D.fld (getD r1 (toN i6)) 0)) (2 : Int)) = false := by first | exact h | (have h2 := h; simp only [choice_lk, lock_eq] at h2; exact h2) | (simp only [choice_lk, lock_eq] at h; exact h)
                          rw [if_neg (by rw [h1]; exact Bool.false_ne_true)] at hr
                          (try cbv)
                          refine sel_intro (fun h => ?_) (fun h => ?_)
                          · as_aux_lemma =>
                            have h1 : (ieq (D.toI (D.fld (getD r1 (toN i6)) 0)) (3 : Int)) = true := by first | exact h | (have h2 := h; simp only [choice_lk, lock_eq] at h2; exact h2) | (simp only [choice_lk, lock_eq] at h; exact h)
                            rw [if_pos h1] at hr
                            (try cbv)
                            have hqe : ∃ qq, F_block_Device_Up b4 i7 r3 = some qq := by
                              cases hq : F_block_Device_Up b4 i7 r3 with
                              | none => rw [hq] at hr; cases hr
                              | some qq => exact ⟨qq, rfl⟩
                            refine ⟨obl.2 (by simp only [choice_lk, lock_eq]; exact hqe), (by rintro (_) _ <;> cbv), ?_⟩
                            clear hqe
                            intro qq hx223
                            simp only [choice_lk, lock_eq] at hx223
                            rcases qq with _
                            all_goals (rw [hx223] at hr; dsimp only at hr; constructor; (try cbv))
                            have hqe : ∃ qq, F_tollbarref31_Up b2 i8 i9 i10 r4 = some qq := by
                              cases hq : F_tollbarref31_Up b2 i8 i9 i10 r4 with
                              | none => rw [hq] at hr; cases hr
                              | some qq => exact ⟨qq, rfl⟩
                            refine ⟨obl.2 (by simp only [choice_lk, lock_eq]; exact hqe), (by rintro (_) _ <;> cbv), ?_⟩
                            clear hqe
                            intro qq hx224
                            simp only [choice_lk, lock_eq] at hx224
                            rcases qq with _
                            all_goals (rw [hx224] at hr; dsimp only at hr; constructor; (try cbv))
                            have hqe : ∃ qq, F_block_Device_Down false i7 r3 = some qq := by
                              cases hq : F_block_Device_Down false i7 r3 with
                              | none => rw [hq] at hr; cases hr
                              | some qq => exact ⟨qq, rfl⟩
                            refine ⟨(by simp only [choice_lk, lock_eq]; exact hqe), obl.2 (by simp only [choice_lk, lock_eq]; exact hqe), (by rintro (_) _ <;> cbv), ?_⟩
                            clear hqe
                            intro qq hx225
                            simp only [choice_lk, lock_eq] at hx225
                            rcases qq with _
                            all_goals (rw [hx225] at hr; dsimp only at hr; constructor; (try cbv))
                            rcases Bool.eq_false_or_eq_true (beq2 false false) with h1 | h1
                            · rw [if_pos h1] at hr
                              have h2 : (lock beq2 false false) = true := by simp only [lock_eq]; exact h1
                              simp only [relock, h2]
                              (try cbv)
                              have hqe : ∃ qq, F_block_Device_Writes false i7 r3 = some qq := by
                                cases hq : F_block_Device_Writes false i7 r3 with
                                | none => rw [hq] at hr; cases hr
                                | some qq => exact ⟨qq, rfl⟩
                              refine ⟨(by simp only [choice_lk, lock_eq]; exact hqe), obl.2 (by simp only [choice_lk, lock_eq]; exact hqe), (by rintro (_) _ <;> cbv), ?_⟩
                              clear hqe
                              intro qq hx226
                              simp only [choice_lk, lock_eq] at hx226
                              rcases qq with _
                              all_goals (rw [hx226] at hr; dsimp only at hr; constructor; (try cbv))
                              refine sel_intro (fun h => ?_) (fun h => ?_)
                              · have h1 : (ieq i7 i10) = false := by first | exact (bnot_t.1 h) | (have h2 := (bnot_t.1 h); simp only [choice_lk, lock_eq] at h2; exact h2) | (simp only [choice_lk, lock_eq] at h; exact (bnot_t.1 h))
                                rw [if_neg (by rw [h1]; exact Bool.false_ne_true)] at hr
                                (try cbv)
                                apply Hidden.out
                                obtain rfl := Option.some.inj hr
                                have e := ht1 _ rfl
                                constructor
                                refine ⟨_, hF, ?_⟩
                                (try cbv); (try simp only [choice_lk, lock_eq, and_self, and_true, true_and]); (try first | exact e | exact e.symm | (and_intros <;> first | assumption | rfl | exact Eq.symm (by assumption)))
                              · have h1 : (ieq i7 i10) = true := by first | exact (bnot_f.1 h) | (have h2 := (bnot_f.1 h); simp only [choice_lk, lock_eq] at h2; exact h2) | (simp only [choice_lk, lock_eq] at h; exact (bnot_f.1 h))
                                rw [if_pos h1] at hr
                                (try cbv)
                                apply Hidden.out
                                obtain rfl := Option.some.inj hr
                                constructor
                                refine ⟨⟨_, rfl⟩, ?_⟩
                                rintro x1 e
                                replace e := Sum.inl.inj e
                                apply Hidden.out
                                revert e
                                rcases x1 with ⟨u0, u1, u2, u3, u4, u5, u6, u7, u8, u9⟩ | _ <;> intro e
                                · replace e := Sum.inl.inj e
                                  simp only [Prod.mk.injEq] at e
                                  obtain ⟨e0, e1, e2, e3, e4, e5, e6, e7, e8, e9⟩ := e
                                  constructor
                                  refine le_auto hk ?_
                                  (try cbv); (try simp only [choice_lk, lock_eq, and_self, and_true, true_and]); (try first | exact e | exact e.symm | (and_intros <;> first | assumption | rfl | exact Eq.symm (by assumption)))
                                · cases e
                            · rw [if_neg (by rw [h1]; exact Bool.false_ne_true)] at hr
                              have h2 : (lock beq2 false false) = false := by simp only [lock_eq]; exact h1
                              simp only [relock, h2]
                              (try cbv)
                              apply Hidden.out
                              obtain rfl := Option.some.inj hr
                              have e := ht1 _ rfl
                              constructor
                              refine ⟨_, hF, ?_⟩
                              (try cbv); (try simp only [choice_lk, lock_eq, and_self, and_true, true_and]); (try first | exact e | exact e.symm | (and_intros <;> first | assumption | rfl | exact Eq.symm (by assumption)))
                          · as_aux_lemma =>
                            have h1 : (ieq (D.toI (D.fld (getD r1 (toN i6)) 0)) (3 : Int)) = false := by first | exact h | (have h2 := h; simp only [choice_lk, lock_eq] at h2; exact h2) | (simp only [choice_lk, lock_eq] at h; exact h)
                            rw [if_neg (by rw [h1]; exact Bool.false_ne_true)] at hr
                            (try cbv)
                            have hqe : ∃ qq, F_block_Device_Down b4 i7 r3 = some qq := by
                              cases hq : F_block_Device_Down b4 i7 r3 with
                              | none => rw [hq] at hr; cases hr
                              | some qq => exact ⟨qq, rfl⟩
                            refine ⟨(by simp only [choice_lk, lock_eq]; exact hqe), obl.2 (by simp only [choice_lk, lock_eq]; exact hqe), (by rintro (_) _ <;> cbv), ?_⟩
                            clear hqe
                            intro qq hx227
                            simp only [choice_lk, lock_eq] at hx227
                            rcases qq with _
                            all_goals (rw [hx227] at hr; dsimp only at hr; constructor; (try cbv))
                            rcases Bool.eq_false_or_eq_true (beq2 b4 b2) with h1 | h1
                            · rw [if_pos h1] at hr
                              have h2 : (lock beq2 b4 b2) = true := by simp only [lock_eq]; exact h1
                              simp only [relock, h2]
                              (try cbv)
                              have hqe : ∃ qq, F_block_Device_Writes b4 i7 r3 = some qq := by
                                cases hq : F_block_Device_Writes b4 i7 r3 with
                                | none => rw [hq] at hr; cases hr
                                | some qq => exact ⟨qq, rfl⟩
                              refine ⟨(by simp only [choice_lk, lock_eq]; exact hqe), obl.2 (by simp only [choice_lk, lock_eq]; exact hqe), (by rintro (_) _ <;> cbv), ?_⟩
                              clear hqe
                              intro qq hx228
                              simp only [choice_lk, lock_eq] at hx228
                              rcases qq with _
                              all_goals (rw [hx228] at hr; dsimp only at hr; constructor; (try cbv))
                              refine sel_intro (fun h => ?_) (fun h => ?_)
                              · have h1 : (ieq i7 i10) = false := by first | exact (bnot_t.1 h) | (have h2 := (bnot_t.1 h); simp only [choice_lk, lock_eq] at h2; exact h2) | (simp only [choice_lk, lock_eq] at h; exact (bnot_t.1 h))
                                rw [if_neg (by rw [h1]; exact Bool.false_ne_true)] at hr
                                (try cbv)
                                apply Hidden.out
                                obtain rfl := Option.some.inj hr
                                have e := ht1 _ rfl
                                constructor
                                refine ⟨_, hF, ?_⟩
                                (try cbv); (try simp only [choice_lk, lock_eq, and_self, and_true, true_and]); (try first | exact e | exact e.symm | (and_intros <;> first | assumption | rfl | exact Eq.symm (by assumption)))
                              · have h1 : (ieq i7 i10) = true := by first | exact (bnot_f.1 h) | (have h2 := (bnot_f.1 h); simp only [choice_lk, lock_eq] at h2; exact h2) | (simp only [choice_lk, lock_eq] at h; exact (bnot_f.1 h))
                                rw [if_pos h1] at hr
                                (try cbv)
                                apply Hidden.out
                                obtain rfl := Option.some.inj hr
                                constructor
                                refine ⟨⟨_, rfl⟩, ?_⟩
                                rintro x1 e
                                replace e := Sum.inl.inj e
                                apply Hidden.out
                                revert e
                                rcases x1 with ⟨u0, u1, u2, u3, u4, u5, u6, u7, u8, u9⟩ | _ <;> intro e
                                · replace e := Sum.inl.inj e
                                  simp only [Prod.mk.injEq] at e
                                  obtain ⟨e0, e1, e2, e3, e4, e5, e6, e7, e8, e9⟩ := e
                                  constructor
                                  refine le_auto hk ?_
                                  (try cbv); (try simp only [choice_lk, lock_eq, and_self, and_true, true_and]); (try first | exact e | exact e.symm | (and_intros <;> first | assumption | rfl | exact Eq.symm (by assumption)))
                                · cases e
                            · rw [if_neg (by rw [h1]; exact Bool.false_ne_true)] at hr
                              have h2 : (lock beq2 b4 b2) = false := by simp only [lock_eq]; exact h1
                              simp only [relock, h2]
                              (try cbv)
                              apply Hidden.out
                              obtain rfl := Option.some.inj hr
                              have e := ht1 _ rfl
                              constructor
                              refine ⟨_, hF, ?_⟩
                              (try cbv); (try simp only [choice_lk, lock_eq, and_self, and_true, true_and]); (try first | exact e | exact e.symm | (and_intros <;> first | assumption | rfl | exact Eq.symm (by assumption)))
                · as_aux_lemma =>
                  have h1 : (ilt i6 (ofN (xlen r1))) = false := by first | exact h | (have h2 := h; simp only [choice_lk, lock_eq] at h2; exact h2) | (simp only [choice_lk, lock_eq] at h; exact h)
                  rw [if_neg (by rw [h1]; exact Bool.false_ne_true)] at hr
                  (try cbv)
                  have hqe : ∃ qq, F_block_Device_Up b4 i7 r3 = some qq := by
                    cases hq : F_block_Device_Up b4 i7 r3 with
                    | none => rw [hq] at hr; cases hr
                    | some qq => exact ⟨qq, rfl⟩
                  refine ⟨obl.2 (by simp only [choice_lk, lock_eq]; exact hqe), (by rintro (_) _ <;> cbv), ?_⟩
                  clear hqe
                  intro qq hx229
                  simp only [choice_lk, lock_eq] at hx229
                  rcases qq with _
                  all_goals (rw [hx229] at hr; dsimp only at hr; constructor; (try cbv))
                  apply Hidden.out
                  obtain ⟨t, hr2, hw⟩ := map_inv hr
                  clear hr
                  subst hw
                  have e := (ht1 _ rfl).symm
                  subst e
                  have hr := hr2
                  clear hr2
                  constructor
                  refine LoopOK.iter T (drawOK T hm) (B := (F_tollbarlaw31_BlockDoes_L4 i19 i7 r3 r4)) hr (fun | i20 => ⟨mkFr [(6, (.v (.int .i64 i19))), (7, (.ptr 0 0)), (8, (.ptr 1 0)), (19, (.v (.int .i64 i20)))] 190 0, [(0, .blk 53 [(.wsl 2), (.v (.bool false)), (.v (.pointer none)), (.v (.int .i64 i7))]), (1, .blk 32 [(.wsl 3), (.v (.bool b2)), (.v (.int .i64 i8)), (.v (.int .i64 i9)), (.v (.int .i64 i10))]), (2, .row (.row 57 (.u8s 64) r3)), (3, .row (.row 9 .str r4))], 4⟩) ?_ ?_
                  · rintro u0 e
                    refine le_auto hk ?_
                    (try cbv); (try simp only [choice_lk, lock_eq, and_self, and_true, true_and]); (try first | exact e | exact e.symm | (and_intros <;> first | assumption | rfl | exact Eq.symm (by assumption)))
                  · clear hr
                    intro x bb1 hr ht1
                    obtain ⟨i20, hz⟩ : ∃ z, z = x := ⟨x, rfl⟩
                    subst hz
                    as_aux_lemma =>
                    constructor
                    unfold F_tollbarlaw31_BlockDoes_L4 at hr
                    (try dsimp only at hr)
                    (try cbv)
                    refine sel_intro (fun h => ?_) (fun h => ?_)
                    · have h1 : (ilt i20 i19) = true := by first | exact h | (have h2 := h; simp only [choice_lk, lock_eq] at h2; exact h2) | (simp only [choice_lk, lock_eq] at h; exact h)
                      rw [if_pos h1] at hr
                      (try cbv)
                      have hqe : ∃ qq, F_block_Device_Read i20 false i7 r3 = some qq := by
                        cases hq : F_block_Device_Read i20 false i7 r3 with
                        | none => rw [hq] at hr; cases hr
                        | some qq => exact ⟨qq, rfl⟩
                      refine ⟨obl.2 (by simp only [choice_lk, lock_eq]; exact hqe), (by rintro (⟨_, _⟩) _ <;> cbv), ?_⟩
                      clear hqe
                      intro qq hx232
                      simp only [choice_lk, lock_eq] at hx232
                      rcases qq with ⟨y123, t22⟩
                      all_goals (rw [hx232] at hr; dsimp only at hr; constructor; (try cbv))
                      rcases Bool.eq_false_or_eq_true (ieq y123 (0 : Int)) with h1 | h1
                      · rw [if_pos h1] at hr
                        have h2 : (lock ieq y123 (0 : Int)) = true := by simp only [lock_eq]; exact h1
                        simp only [relock, h2]
                        (try cbv)
                        have gg := guard_inv hr
                        have g := gg.1
                        replace hr := gg.2
                        clear gg
                        refine ⟨obl.2 (by first | (simp only [choice_lk, lock_eq, R.len, R.sub]; exact g) | exact g), ?_⟩
                        refine sel_intro (fun h => ?_) (fun h => ?_)
                        · have h1 : (seq t22 (D.toS (getD r4 (toN i20)))) = false := by first | exact (bnot_t.1 h) | (have h2 := (bnot_t.1 h); simp only [choice_lk, lock_eq] at h2; exact h2) | (simp only [choice_lk, lock_eq] at h; exact (bnot_t.1 h))
                          rw [if_neg (by rw [h1]; exact Bool.false_ne_true)] at hr
                          (try cbv)
                          apply Hidden.out
                          obtain rfl := Option.some.inj hr
                          have e := ht1 _ rfl
                          constructor
                          refine ⟨_, hF, ?_⟩
                          (try cbv); (try simp only [choice_lk, lock_eq, and_self, and_true, true_and]); (try first | exact e | exact e.symm | (and_intros <;> first | assumption | rfl | exact Eq.symm (by assumption)))
                        · have h1 : (seq t22 (D.toS (getD r4 (toN i20)))) = true := by first | exact (bnot_f.1 h) | (have h2 := (bnot_f.1 h); simp only [choice_lk, lock_eq] at h2; exact h2) | (simp only [choice_lk, lock_eq] at h; exact (bnot_f.1 h))
                          rw [if_pos h1] at hr
                          (try cbv)
                          apply Hidden.out
                          obtain rfl := Option.some.inj hr
                          constructor
                          refine ⟨⟨_, rfl⟩, ?_⟩
                          rintro u0 e
                          replace e := Sum.inl.inj e
                          refine le_auto hk ?_
                          (try cbv); (try simp only [choice_lk, lock_eq, and_self, and_true, true_and]); (try first | exact e | exact e.symm | (and_intros <;> first | assumption | rfl | exact Eq.symm (by assumption)))
                      · rw [if_neg (by rw [h1]; exact Bool.false_ne_true)] at hr
                        have h2 : (lock ieq y123 (0 : Int)) = false := by simp only [lock_eq]; exact h1
                        simp only [relock, h2]
                        (try cbv)
                        apply Hidden.out
                        obtain rfl := Option.some.inj hr
                        have e := ht1 _ rfl
                        constructor
                        refine ⟨_, hF, ?_⟩
                        (try cbv); (try simp only [choice_lk, lock_eq, and_self, and_true, true_and]); (try first | exact e | exact e.symm | (and_intros <;> first | assumption | rfl | exact Eq.symm (by assumption)))
                    · have h1 : (ilt i20 i19) = false := by first | exact h | (have h2 := h; simp only [choice_lk, lock_eq] at h2; exact h2) | (simp only [choice_lk, lock_eq] at h; exact h)
                      rw [if_neg (by rw [h1]; exact Bool.false_ne_true)] at hr
                      (try cbv)
                      apply Hidden.out
                      obtain rfl := Option.some.inj hr
                      have e := ht1 _ rfl
                      constructor
                      refine ⟨_, hF, ?_⟩
                      (try cbv); (try simp only [choice_lk, lock_eq, and_self, and_true, true_and]); (try first | exact e | exact e.symm | (and_intros <;> first | assumption | rfl | exact Eq.symm (by assumption)))
              · as_aux_lemma =>
                constructor
                unfold F_tollbarlaw31_BlockDoes_L3 at hr
                (try dsimp only at hr)
                (try cbv)
                refine sel_intro (fun h => ?_) (fun h => ?_)
                · as_aux_lemma =>
                  have h1 : (ilt i12 (ofN (xlen r1))) = true := by first | exact h | (have h2 := h; simp only [choice_lk, lock_eq] at h2; exact h2) | (simp only [choice_lk, lock_eq] at h; exact h)
                  rw [if_pos h1] at hr
                  (try cbv)
                  have gg := guard_inv hr
                  have g := gg.1
                  replace hr := gg.2
                  clear gg
                  refine ⟨obl.2 (by first | (simp only [choice_lk, lock_eq, R.len, R.sub]; exact g) | exact g), ?_⟩
                  refine sel_intro (fun h => ?_) (fun h => ?_)
                  · have h1 : (ilt (100 : Int) (ofN (xlen (D.toS (D.fld (getD r1 (toN i12)) 3))))) = true := by first | exact h | (have h2 := h; simp only [choice_lk, lock_eq] at h2; exact h2) | (simp only [choice_lk, lock_eq] at h; exact h)
                    rw [if_pos h1] at hr
                    (try cbv)
                    apply Hidden.out
                    obtain rfl := Option.some.inj hr
                    have e := ht1 _ rfl
                    constructor
                    refine ⟨_, hF, ?_⟩
                    (try cbv); (try simp only [choice_lk, lock_eq, and_self, and_true, true_and]); (try first | exact e | exact e.symm | (and_intros <;> first | assumption | rfl | exact Eq.symm (by assumption)))
                  · as_aux_lemma =>
                    have h1 : (ilt (100 : Int) (ofN (xlen (D.toS (D.fld (getD r1 (toN i12)) 3))))) = false := by first | exact h | (have h2 := h; simp only [choice_lk, lock_eq] at h2; exact h2) | (simp only [choice_lk, lock_eq] at h; exact h)
                    rw [if_neg (by rw [h1]; exact Bool.false_ne_true)] at hr
                    (try cbv)
                    refine sel_intro (fun h => ?_) (fun h => ?_)
                    · as_aux_lemma =>
                      have h1 : (ieq (D.toI (D.fld (getD r1 (toN i12)) 0)) (0 : Int)) = true := by first | exact h | (have h2 := h; simp only [choice_lk, lock_eq] at h2; exact h2) | (simp only [choice_lk, lock_eq] at h; exact h)
                      rw [if_pos h1] at hr
                      (try cbv)
                      have hqe : ∃ qq, F_tollbarref31_Write b3 i13 i14 i18 (D.toI (D.fld (getD r1 (toN i12)) 1)) (D.toS (D.fld (getD r1 (toN i12)) 3)) r6 = some qq := by
                        cases hq : F_tollbarref31_Write b3 i13 i14 i18 (D.toI (D.fld (getD r1 (toN i12)) 1)) (D.toS (D.fld (getD r1 (toN i12)) 3)) r6 with
                        | none => rw [hq] at hr; cases hr
                        | some qq => exact ⟨qq, rfl⟩
                      refine ⟨obl.2 (by simp only [choice_lk, lock_eq]; exact hqe), (by rintro (⟨_, _, _, _, _, _⟩) _ <;> cbv), ?_⟩
                      clear hqe
                      intro qq hx233
                      simp only [choice_lk, lock_eq] at hx233
                      rcases qq with ⟨c13, y124, y125, y126, y127, q26⟩
                      all_goals (rw [hx233] at hr; dsimp only at hr; constructor; (try cbv))
                      have hqe : ∃ qq, F_block_Device_Write_2 (D.toI (D.fld (getD r1 (toN i12)) 1)) (D.toS (D.fld (getD r1 (toN i12)) 3)) b5 i17 r5 i15 i16 = some qq := by
                        cases hq : F_block_Device_Write_2 (D.toI (D.fld (getD r1 (toN i12)) 1)) (D.toS (D.fld (getD r1 (toN i12)) 3)) b5 i17 r5 i15 i16 with
                        | none => rw [hq] at hr; cases hr
                        | some qq => exact ⟨qq, rfl⟩
                      refine ⟨obl.2 (by simp only [choice_lk, lock_eq]; exact hqe), (by rintro (⟨_, _, _, _⟩ | _) _ <;> cbv), ?_⟩
                      clear hqe
                      intro qq hx234
                      simp only [choice_lk, lock_eq] at hx234
                      rcases qq with ⟨y128, y129, q27, y130⟩ | q28
                      all_goals (rw [hx234] at hr; dsimp only at hr; constructor; (try cbv))
                      · refine sel_intro (fun h => ?_) (fun h => ?_)
                        · have h1 : (ieq y128 y127) = false := by first | exact (bnot_t.1 h) | (have h2 := (bnot_t.1 h); simp only [choice_lk, lock_eq] at h2; exact h2) | (simp only [choice_lk, lock_eq] at h; exact (bnot_t.1 h))
                          rw [if_neg (by rw [h1]; exact Bool.false_ne_true)] at hr
                          (try cbv)
                          apply Hidden.out
                          obtain rfl := Option.some.inj hr
                          have e := ht1 _ rfl
                          constructor
                          refine ⟨_, hF, ?_⟩
                          (try cbv); (try simp only [choice_lk, lock_eq, and_self, and_true, true_and]); (try first | exact e | exact e.symm | (and_intros <;> first | assumption | rfl | exact Eq.symm (by assumption)))
                        · as_aux_lemma =>
                          have h1 : (ieq y128 y127) = true := by first | exact (bnot_f.1 h) | (have h2 := (bnot_f.1 h); simp only [choice_lk, lock_eq] at h2; exact h2) | (simp only [choice_lk, lock_eq] at h; exact (bnot_f.1 h))
                          rw [if_pos h1] at hr
                          (try cbv)
                          have hqe : ∃ qq, F_block_Device_Down_2 b5 y129 q27 y130 i16 = some qq := by
                            cases hq : F_block_Device_Down_2 b5 y129 q27 y130 i16 with
                            | none => rw [hq] at hr; cases hr
                            | some qq => exact ⟨qq, rfl⟩
                          refine ⟨(by simp only [choice_lk, lock_eq]; exact hqe), obl.2 (by simp only [choice_lk, lock_eq]; exact hqe), (by rintro (_) _ <;> cbv), ?_⟩
                          clear hqe
                          intro qq hx235
                          simp only [choice_lk, lock_eq] at hx235
                          rcases qq with _
                          all_goals (rw [hx235] at hr; dsimp only at hr; constructor; (try cbv))
                          rcases Bool.eq_false_or_eq_true (beq2 b5 c13) with h1 | h1
                          · rw [if_pos h1] at hr
                            have h2 : (lock beq2 b5 c13) = true := by simp only [lock_eq]; exact h1
                            simp only [relock, h2]
                            (try cbv)
                            have hqe : ∃ qq, F_block_Device_Writes_3 b5 y129 q27 y130 i16 = some qq := by
                              cases hq : F_block_Device_Writes_3 b5 y129 q27 y130 i16 with
                              | none => rw [hq] at hr; cases hr
                              | some qq => exact ⟨qq, rfl⟩
                            refine ⟨(by simp only [choice_lk, lock_eq]; exact hqe), obl.2 (by simp only [choice_lk, lock_eq]; exact hqe), (by rintro (_) _ <;> cbv), ?_⟩
                            clear hqe
                            intro qq hx236
                            simp only [choice_lk, lock_eq] at hx236
                            rcases qq with _
                            all_goals (rw [hx236] at hr; dsimp only at hr; constructor; (try cbv))
                            refine sel_intro (fun h => ?_) (fun h => ?_)
                            · have h1 : (ieq y129 y126) = false := by first | exact (bnot_t.1 h) | (have h2 := (bnot_t.1 h); simp only [choice_lk, lock_eq] at h2; exact h2) | (simp only [choice_lk, lock_eq] at h; exact (bnot_t.1 h))
                              rw [if_neg (by rw [h1]; exact Bool.false_ne_true)] at hr
                              (try cbv)
                              apply Hidden.out
                              obtain rfl := Option.some.inj hr
                              have e := ht1 _ rfl
                              constructor
                              refine ⟨_, hF, ?_⟩
                              (try cbv); (try simp only [choice_lk, lock_eq, and_self, and_true, true_and]); (try first | exact e | exact e.symm | (and_intros <;> first | assumption | rfl | exact Eq.symm (by assumption)))
                            · have h1 : (ieq y129 y126) = true := by first | exact (bnot_f.1 h) | (have h2 := (bnot_f.1 h); simp only [choice_lk, lock_eq] at h2; exact h2) | (simp only [choice_lk, lock_eq] at h; exact (bnot_f.1 h))
                              rw [if_pos h1] at hr
                              (try cbv)
                              apply Hidden.out
                              obtain rfl := Option.some.inj hr
                              constructor
                              refine ⟨⟨_, rfl⟩, ?_⟩
                              rintro x1 e
                              replace e := Sum.inl.inj e
                              apply Hidden.out
                              revert e
                              rcases x1 with _ | ⟨u0, u1, u2, u3, u4, u5, u6, u7, u8, u9, u10, u11⟩ <;> intro e
                              · cases e
                              · replace e := Sum.inr.inj e
                                simp only [Prod.mk.injEq] at e
                                obtain ⟨e0, e1, e2, e3, e4, e5, e6, e7, e8, e9, e10, e11⟩ := e
                                constructor
                                refine le_auto hk ?_
                                (try cbv); (try simp only [choice_lk, lock_eq, and_self, and_true, true_and]); (try first | exact e | exact e.symm | (and_intros <;> first | assumption | rfl | exact Eq.symm (by assumption)))
                          · rw [if_neg (by rw [h1]; exact Bool.false_ne_true)] at hr
                            have h2 : (lock beq2 b5 c13) = false := by simp only [lock_eq]; exact h1
                            simp only [relock, h2]
                            (try cbv)
                            apply Hidden.out
                            obtain rfl := Option.some.inj hr
                            have e := ht1 _ rfl
                            constructor
                            refine ⟨_, hF, ?_⟩
                            (try cbv); (try simp only [choice_lk, lock_eq, and_self, and_true, true_and]); (try first | exact e | exact e.symm | (and_intros <;> first | assumption | rfl | exact Eq.symm (by assumption)))
                      · refine sel_intro (fun h => ?_) (fun h => ?_)
                        · have h1 : (ieq (3 : Int) y127) = false := by first | exact (bnot_t.1 h) | (have h2 := (bnot_t.1 h); simp only [choice_lk, lock_eq] at h2; exact h2) | (simp only [choice_lk, lock_eq] at h; exact (bnot_t.1 h))
                          rw [if_neg (by rw [h1]; exact Bool.false_ne_true)] at hr
                          (try cbv)
                          apply Hidden.out
                          obtain rfl := Option.some.inj hr
                          have e := ht1 _ rfl
                          constructor
                          refine ⟨_, hF, ?_⟩
                          (try cbv); (try simp only [choice_lk, lock_eq, and_self, and_true, true_and]); (try first | exact e | exact e.symm | (and_intros <;> first | assumption | rfl | exact Eq.symm (by assumption)))
                        · as_aux_lemma =>
                          have h1 : (ieq (3 : Int) y127) = true := by first | exact (bnot_f.1 h) | (have h2 := (bnot_f.1 h); simp only [choice_lk, lock_eq] at h2; exact h2) | (simp only [choice_lk, lock_eq] at h; exact (bnot_f.1 h))
                          rw [if_pos h1] at hr
                          (try cbv)
                          have hqe : ∃ qq, F_block_Device_Down true i17 q28 = some qq := by
                            cases hq : F_block_Device_Down true i17 q28 with
                            | none => rw [hq] at hr; cases hr
                            | some qq => exact ⟨qq, rfl⟩
                          refine ⟨(by simp only [choice_lk, lock_eq]; exact hqe), obl.2 (by simp only [choice_lk, lock_eq]; exact hqe), (by rintro (_) _ <;> cbv), ?_⟩
                          clear hqe
                          intro qq hx237
                          simp only [choice_lk, lock_eq] at hx237
                          rcases qq with _
                          all_goals (rw [hx237] at hr; dsimp only at hr; constructor; (try cbv))
                          rcases Bool.eq_false_or_eq_true (beq2 true c13) with h1 | h1
                          · rw [if_pos h1] at hr
                            have h2 : (lock beq2 true c13) = true := by simp only [lock_eq]; exact h1
                            simp only [relock, h2]
                            (try cbv)
                            have hqe : ∃ qq, F_block_Device_Writes true i17 q28 = some qq := by
                              cases hq : F_block_Device_Writes true i17 q28 with
                              | none => rw [hq] at hr; cases hr
                              | some qq => exact ⟨qq, rfl⟩
                            refine ⟨(by simp only [choice_lk, lock_eq]; exact hqe), obl.2 (by simp only [choice_lk, lock_eq]; exact hqe), (by rintro (_) _ <;> cbv), ?_⟩
                            clear hqe
                            intro qq hx238
                            simp only [choice_lk, lock_eq] at hx238
                            rcases qq with _
                            all_goals (rw [hx238] at hr; dsimp only at hr; constructor; (try cbv))
                            refine sel_intro (fun h => ?_) (fun h => ?_)
                            · have h1 : (ieq i17 y126) = false := by first | exact (bnot_t.1 h) | (have h2 := (bnot_t.1 h); simp only [choice_lk, lock_eq] at h2; exact h2) | (simp only [choice_lk, lock_eq] at h; exact (bnot_t.1 h))
                              rw [if_neg (by rw [h1]; exact Bool.false_ne_true)] at hr
                              (try cbv)
                              apply Hidden.out
                              obtain rfl := Option.some.inj hr
                              have e := ht1 _ rfl
                              constructor
                              refine ⟨_, hF, ?_⟩
                              (try cbv); (try simp only [choice_lk, lock_eq, and_self, and_true, true_and]); (try first | exact e | exact e.symm | (and_intros <;> first | assumption | rfl | exact Eq.symm (by assumption)))
                            · have h1 : (ieq i17 y126) = true := by first | exact (bnot_f.1 h) | (have h2 := (bnot_f.1 h); simp only [choice_lk, lock_eq] at h2; exact h2) | (simp only [choice_lk, lock_eq] at h; exact (bnot_f.1 h))
                              rw [if_pos h1] at hr
                              (try cbv)
                              apply Hidden.out
                              obtain rfl := Option.some.inj hr
                              constructor
                              refine ⟨⟨_, rfl⟩, ?_⟩
                              rintro x1 e
                              replace e := Sum.inl.inj e
                              apply Hidden.out
                              revert e
                              rcases x1 with ⟨u0, u1, u2, u3, u4, u5, u6, u7, u8, u9⟩ | _ <;> intro e
                              · replace e := Sum.inl.inj e
                                simp only [Prod.mk.injEq] at e
                                obtain ⟨e0, e1, e2, e3, e4, e5, e6, e7, e8, e9⟩ := e
                                constructor
                                refine le_auto hk ?_
                                (try cbv); (try simp only [choice_lk, lock_eq, and_self, and_true, true_and]); (try first | exact e | exact e.symm | (and_intros <;> first | assumption | rfl | exact Eq.symm (by assumption)))
                              · cases e
                          · rw [if_neg (by rw [h1]; exact Bool.false_ne_true)] at hr
                            have h2 : (lock beq2 true c13) = false := by simp only [lock_eq]; exact h1
                            simp only [relock, h2]
                            (try cbv)
                            apply Hidden.out
                            obtain rfl := Option.some.inj hr
                            have e := ht1 _ rfl
                            constructor
                            refine ⟨_, hF, ?_⟩
                            (try cbv); (try simp only [choice_lk, lock_eq, and_self, and_true, true_and]); (try first | exact e | exact e.symm | (and_intros <;> first | assumption | rfl | exact Eq.symm (by assumption)))
                    · as_aux_lemma =>
                      have h1 : (ieq (D.toI (D.fld (getD r1 (toN i12)) 0)) (0 : Int)) = false := by first | exact h | (have h2 := h; simp only [choice_lk, lock_eq] at h2; exact h2) | (simp only [choice_lk, lock_eq] at h; exact h)
                      rw [if_neg (by rw [h1]; exact Bool.false_ne_true)] at hr
                      (try cbv)
                      refine sel_intro (fun h => ?_) (fun h => ?_)
                      · as_aux_lemma =>
                        have h1 : (ieq (D.toI (D.fld (getD r1 (toN i12)) 0)) (1 : Int)) = true := by first | exact h | (have h2 := h; simp only [choice_lk, lock_eq] at h2; exact h2) | (simp only [choice_lk, lock_eq] at h; exact h)
                        rw [if_pos h1] at hr
                        (try cbv)
                        have hqe : ∃ qq, F_block_Device_Read_3 (D.toI (D.fld (getD r1 (toN i12)) 1)) b5 i17 r5 i15 i16 = some qq := by
                          cases hq : F_block_Device_Read_3 (D.toI (D.fld (getD r1 (toN i12)) 1)) b5 i17 r5 i15 i16 with
                          | none => rw [hq] at hr; cases hr
                          | some qq => exact ⟨qq, rfl⟩
                        refine ⟨obl.2 (by simp only [choice_lk, lock_eq]; exact hqe), (by rintro (⟨_, _⟩) _ <;> cbv), ?_⟩
                        clear hqe
                        intro qq hx239
                        simp only [choice_lk, lock_eq] at hx239
                        rcases qq with ⟨y131, t23⟩
                        all_goals (rw [hx239] at hr; dsimp only at hr; constructor; (try cbv))
                        have hqe : ∃ qq, F_tollbarref31_Read b3 i13 i14 i18 (D.toI (D.fld (getD r1 (toN i12)) 1)) r6 = some qq := by
                          cases hq : F_tollbarref31_Read b3 i13 i14 i18 (D.toI (D.fld (getD r1 (toN i12)) 1)) r6 with
                          | none => rw [hq] at hr; cases hr
                          | some qq => exact ⟨qq, rfl⟩
                        refine ⟨obl.2 (by simp only [choice_lk, lock_eq]; exact hqe), (by rintro (⟨_, _⟩) _ <;> cbv), ?_⟩
                        clear hqe
                        intro qq hx240
                        simp only [choice_lk, lock_eq] at hx240
                        rcases qq with ⟨t24, y132⟩
                        all_goals (rw [hx240] at hr; dsimp only at hr; constructor; (try cbv))
                        refine sel_intro (fun h => ?_) (fun h => ?_)
                        · have h1 : (seq t23 t24) = false := by first | exact (bnot_t.1 h) | (have h2 := (bnot_t.1 h); simp only [choice_lk, lock_eq] at h2; exact h2) | (simp only [choice_lk, lock_eq] at h; exact (bnot_t.1 h))
                          rw [if_neg (by rw [h1]; exact Bool.false_ne_true)] at hr
                          (try cbv)
                          apply Hidden.out
                          obtain rfl := Option.some.inj hr
                          have e := ht1 _ rfl
                          constructor
                          refine ⟨_, hF, ?_⟩
                          (try cbv); (try simp only [choice_lk, lock_eq, and_self, and_true, true_and]); (try first | exact e | exact e.symm | (and_intros <;> first | assumption | rfl | exact Eq.symm (by assumption)))
                        · as_aux_lemma =>
                          have h1 : (seq t23 t24) = true := by first | exact (bnot_f.1 h) | (have h2 := (bnot_f.1 h); simp only [choice_lk, lock_eq] at h2; exact h2) | (simp only [choice_lk, lock_eq] at h; exact (bnot_f.1 h))
                          rw [if_pos h1] at hr
                          (try cbv)
                          refine sel_intro (fun h => ?_) (fun h => ?_)
                          · have h1 : (ieq y131 y132) = false := by first | exact (bnot_t.1 h) | (have h2 := (bnot_t.1 h); simp only [choice_lk, lock_eq] at h2; exact h2) | (simp only [choice_lk, lock_eq] at h; exact (bnot_t.1 h))
                            rw [if_neg (by rw [h1]; exact Bool.false_ne_true)] at hr
                            (try cbv)
                            apply Hidden.out
                            obtain rfl := Option.some.inj hr
                            have e := ht1 _ rfl
                            constructor
                            refine ⟨_, hF, ?_⟩
                            (try cbv); (try simp only [choice_lk, lock_eq, and_self, and_true, true_and]); (try first | exact e | exact e.symm | (and_intros <;> first | assumption | rfl | exact Eq.symm (by assumption)))
                          · as_aux_lemma =>
                            have h1 : (ieq y131 y132) = true := by first | exact (bnot_f.1 h) | (have h2 := (bnot_f.1 h); simp only [choice_lk, lock_eq] at h2; exact h2) | (simp only [choice_lk, lock_eq] at h; exact (bnot_f.1 h))
                            rw [if_pos h1] at hr
                            (try cbv)
                            have hqe : ∃ qq, F_block_Device_Down_2 b5 i17 r5 i15 i16 = some qq := by
                              cases hq : F_block_Device_Down_2 b5 i17 r5 i15 i16 with
                              | none => rw [hq] at hr; cases hr
                              | some qq => exact ⟨qq, rfl⟩
                            refine ⟨(by simp only [choice_lk, lock_eq]; exact hqe), obl.2 (by simp only [choice_lk, lock_eq]; exact hqe), (by rintro (_) _ <;> cbv), ?_⟩
                            clear hqe
                            intro qq hx241
                            simp only [choice_lk, lock_eq] at hx241
                            rcases qq with _
                            all_goals (rw [hx241] at hr; dsimp only at hr; constructor; (try cbv))
                            rcases Bool.eq_false_or_eq_true (beq2 b5 b3) with h1 | h1
                            · rw [if_pos h1] at hr
                              have h2 : (lock beq2 b5 b3) = true := by simp only [lock_eq]; exact h1
                              simp only [relock, h2]
                              (try cbv)
                              have hqe : ∃ qq, F_block_Device_Writes_3 b5 i17 r5 i15 i16 = some qq := by
                                cases hq : F_block_Device_Writes_3 b5 i17 r5 i15 i16 with
                                | none => rw [hq] at hr; cases hr
                                | some qq => exact ⟨qq, rfl⟩
                              refine ⟨(by simp only [choice_lk, lock_eq]; exact hqe), obl.2 (by simp only [choice_lk, lock_eq]; exact hqe), (by rintro (_) _ <;> cbv), ?_⟩
                              clear hqe
                              intro qq hx242
                              simp only [choice_lk, lock_eq] at hx242
                              rcases qq with _
                              all_goals (rw [hx242] at hr; dsimp only at hr; constructor; (try cbv))
                              refine sel_intro (fun h => ?_) (fun h => ?_)
                              · have h1 : (ieq i17 i18) = false := by first | exact (bnot_t.1 h) | (have h2 := (bnot_t.1 h); simp only [choice_lk, lock_eq] at h2; exact h2) | (simp only [choice_lk, lock_eq] at h; exact (bnot_t.1 h))
                                rw [if_neg (by rw [h1]; exact Bool.false_ne_true)] at hr
                                (try cbv)
                                apply Hidden.out
                                obtain rfl := Option.some.inj hr
                                have e := ht1 _ rfl
                                constructor
                                refine ⟨_, hF, ?_⟩
                                (try cbv); (try simp only [choice_lk, lock_eq, and_self, and_true, true_and]); (try first | exact e | exact e.symm | (and_intros <;> first | assumption | rfl | exact Eq.symm (by assumption)))
                              · have h1 : (ieq i17 i18) = true := by first | exact (bnot_f.1 h) | (have h2 := (bnot_f.1 h); simp only [choice_lk, lock_eq] at h2; exact h2) | (simp only [choice_lk, lock_eq] at h; exact (bnot_f.1 h))
                                rw [if_pos h1] at hr
                                (try cbv)
                                apply Hidden.out
                                obtain rfl := Option.some.inj hr
                                constructor
                                refine ⟨⟨_, rfl⟩, ?_⟩
                                rintro x1 e
                                replace e := Sum.inl.inj e
                                apply Hidden.out
                                revert e
                                rcases x1 with _ | ⟨u0, u1, u2, u3, u4, u5, u6, u7, u8, u9, u10, u11⟩ <;> intro e
                                · cases e
                                · replace e := Sum.inr.inj e
                                  simp only [Prod.mk.injEq] at e
                                  obtain ⟨e0, e1, e2, e3, e4, e5, e6, e7, e8, e9, e10, e11⟩ := e
                                  constructor
                                  refine le_auto hk ?_
                                  (try cbv); (try simp only [choice_lk, lock_eq, and_self, and_true, true_and]); (try first | exact e | exact e.symm | (and_intros <;> first | assumption | rfl | exact Eq.symm (by assumption)))
                            · rw [if_neg (by rw [h1]; exact Bool.false_ne_true)] at hr
                              have h2 : (lock beq2 b5 b3) = false := by simp only [lock_eq]; exact h1
                              simp only [relock, h2]
                              (try cbv)
                              apply Hidden.out
                              obtain rfl := Option.some.inj hr
                              have e := ht1 _ rfl
                              constructor
                              refine ⟨_, hF, ?_⟩
                              (try cbv); (try simp only [choice_lk, lock_eq, and_self, and_true, true_and]); (try first | exact e | exact e.symm | (and_intros <;> first | assumption | rfl | exact Eq.symm (by assumption)))
                      · as_aux_lemma =>
                        have h1 : (ieq (D.toI (D.fld (getD r1 (toN i12)) 0)) (1 : Int)) = false := by first | exact h | (have h2 := h; simp only [choice_lk, lock_eq] at h2; exact h2) | (simp only [choice_lk, lock_eq] at h; exact h)
                        rw [if_neg (by rw [h1]; exact Bool.false_ne_true)] at hr
                        (try cbv)
                        refine sel_intro (fun h => ?_) (fun h => ?_)
                        · as_aux_lemma =>
                          have h1 : (ieq (D.toI (D.fld (getD r1 (toN i12)) 0)) (2 : Int)) = true := by first | exact h | (have h2 := h; simp only [choice_lk, lock_eq] at h2; exact h2) | (simp only [choice_lk, lock_eq] at h; exact h)
                          rw [if_pos h1] at hr
                          (try cbv)
                          have hqe : ∃ qq, F_tollbarref31_Arm b3 i13 i14 i18 (D.toI (D.fld (getD r1 (toN i12)) 1)) (D.toI (D.fld (getD r1 (toN i12)) 2)) r6 = some qq := by
                            cases hq : F_tollbarref31_Arm b3 i13 i14 i18 (D.toI (D.fld (getD r1 (toN i12)) 1)) (D.toI (D.fld (getD r1 (toN i12)) 2)) r6 with
                            | none => rw [hq] at hr; cases hr
                            | some qq => exact ⟨qq, rfl⟩
                          refine ⟨obl.2 (by simp only [choice_lk, lock_eq]; exact hqe), (by rintro (⟨_, _, _⟩) _ <;> cbv), ?_⟩
                          clear hqe
                          intro qq hx243
                          simp only [choice_lk, lock_eq] at hx243
                          rcases qq with ⟨y133, y134, y135⟩
                          all_goals (rw [hx243] at hr; dsimp only at hr; constructor; (try cbv))
                          have hqe : ∃ qq, F_block_Device_Arm_3 (D.toI (D.fld (getD r1 (toN i12)) 1)) (D.toI (D.fld (getD r1 (toN i12)) 2)) b5 i17 r5 i15 i16 = some qq := by
                            cases hq : F_block_Device_Arm_3 (D.toI (D.fld (getD r1 (toN i12)) 1)) (D.toI (D.fld (getD r1 (toN i12)) 2)) b5 i17 r5 i15 i16 with
                            | none => rw [hq] at hr; cases hr
                            | some qq => exact ⟨qq, rfl⟩
                          refine ⟨obl.2 (by simp only [choice_lk, lock_eq]; exact hqe), (by rintro (⟨_, _, _⟩) _ <;> cbv), ?_⟩
                          clear hqe
                          intro qq hx244
                          simp only [choice_lk, lock_eq] at hx244
                          rcases qq with ⟨y136, y137, y138⟩
                          all_goals (rw [hx244] at hr; dsimp only at hr; constructor; (try cbv))
                          refine sel_intro (fun h => ?_) (fun h => ?_)
                          · have h1 : (ieq y136 y135) = false := by first | exact (bnot_t.1 h) | (have h2 := (bnot_t.1 h); simp only [choice_lk, lock_eq] at h2; exact h2) | (simp only [choice_lk, lock_eq] at h; exact (bnot_t.1 h))
                            rw [if_neg (by rw [h1]; exact Bool.false_ne_true)] at hr
                            (try cbv)
                            apply Hidden.out
                            obtain rfl := Option.some.inj hr
                            have e := ht1 _ rfl
                            constructor
                            refine ⟨_, hF, ?_⟩
                            (try cbv); (try simp only [choice_lk, lock_eq, and_self, and_true, true_and]); (try first | exact e | exact e.symm | (and_intros <;> first | assumption | rfl | exact Eq.symm (by assumption)))
                          · as_aux_lemma =>
                            have h1 : (ieq y136 y135) = true := by first | exact (bnot_f.1 h) | (have h2 := (bnot_f.1 h); simp only [choice_lk, lock_eq] at h2; exact h2) | (simp only [choice_lk, lock_eq] at h; exact (bnot_f.1 h))
                            rw [if_pos h1] at hr
                            (try cbv)
                            have hqe : ∃ qq, F_block_Device_Down_2 b5 i17 r5 y137 y138 = some qq := by
                              cases hq : F_block_Device_Down_2 b5 i17 r5 y137 y138 with
                              | none => rw [hq] at hr; cases hr
                              | some qq => exact ⟨qq, rfl⟩
                            refine ⟨(by simp only [choice_lk, lock_eq]; exact hqe), obl.2 (by simp only [choice_lk, lock_eq]; exact hqe), (by rintro (_) _ <;> cbv), ?_⟩
                            clear hqe
                            intro qq hx245
                            simp only [choice_lk, lock_eq] at hx245
                            rcases qq with _
                            all_goals (rw [hx245] at hr; dsimp only at hr; constructor; (try cbv))
                            rcases Bool.eq_false_or_eq_true (beq2 b5 b3) with h1 | h1
                            · rw [if_pos h1] at hr
                              have h2 : (lock beq2 b5 b3) = true := by simp only [lock_eq]; exact h1
                              simp only [relock, h2]
                              (try cbv)
                              have hqe : ∃ qq, F_block_Device_Writes_3 b5 i17 r5 y137 y138 = some qq := by
                                cases hq : F_block_Device_Writes_3 b5 i17 r5 y137 y138 with
                                | none => rw [hq] at hr; cases hr
                                | some qq => exact ⟨qq, rfl⟩
                              refine ⟨(by simp only [choice_lk, lock_eq]; exact hqe), obl.2 (by simp only [choice_lk, lock_eq]; exact hqe), (by rintro (_) _ <;> cbv), ?_⟩
                              clear hqe
                              intro qq hx246
                              simp only [choice_lk, lock_eq] at hx246
                              rcases qq with _
                              all_goals (rw [hx246] at hr; dsimp only at hr; constructor; (try cbv))
                              refine sel_intro (fun h => ?_) (fun h => ?_)
                              · have h1 : (ieq i17 i18) = false := by first | exact (bnot_t.1 h) | (have h2 := (bnot_t.1 h); simp only [choice_lk, lock_eq] at h2; exact h2) | (simp only [choice_lk, lock_eq] at h; exact (bnot_t.1 h))
                                rw [if_neg (by rw [h1]; exact Bool.false_ne_true)] at hr
                                (try cbv)
                                apply Hidden.out
                                obtain rfl := Option.some.inj hr
                                have e := ht1 _ rfl
                                constructor
                                refine ⟨_, hF, ?_⟩
                                (try cbv); (try simp only [choice_lk, lock_eq, and_self, and_true, true_and]); (try first | exact e | exact e.symm | (and_intros <;> first | assumption | rfl | exact Eq.symm (by assumption)))
                              · have h1 : (ieq i17 i18) = true := by first | exact (bnot_f.1 h) | (have h2 := (bnot_f.1 h); simp only [choice_lk, lock_eq] at h2; exact h2) | (simp only [choice_lk, lock_eq] at h; exact (bnot_f.1 h))
                                rw [if_pos h1] at hr
                                (try cbv)
                                apply Hidden.out
                                obtain rfl := Option.some.inj hr
                                constructor
                                refine ⟨⟨_, rfl⟩, ?_⟩
                                rintro x1 e
                                replace e := Sum.inl.inj e
                                apply Hidden.out
                                revert e
                                rcases x1 with _ | ⟨u0, u1, u2, u3, u4, u5, u6, u7, u8, u9, u10, u11⟩ <;> intro e
                                · cases e
                                · replace e := Sum.inr.inj e
                                  simp only [Prod.mk.injEq] at e
                                  obtain ⟨e0, e1, e2, e3, e4, e5, e6, e7, e8, e9, e10, e11⟩ := e
                                  constructor
                                  refine le_auto hk ?_
                                  (try cbv); (try simp only [choice_lk, lock_eq, and_self, and_true, true_and]); (try first | exact e | exact e.symm | (and_intros <;> first | assumption | rfl | exact Eq.symm (by assumption)))
                            · rw [if_neg (by rw [h1]; exact Bool.false_ne_true)] at hr
                              have h2 : (lock beq2 b5 b3) = false := by simp only [lock_eq]; exact h1
                              simp only [relock, h2]
                              (try cbv)
                              apply Hidden.out
                              obtain rfl := Option.some.inj hr
                              have e := ht1 _ rfl
                              constructor
                              refine ⟨_, hF, ?_⟩
                              (try cbv); (try simp only [choice_lk, lock_eq, and_self, and_true, true_and]); (try first | exact e | exact e.symm | (and_intros <;> first | assumption | rfl | exact Eq.symm (by assumption)))
                        · as_aux_lemma =>
                          have h1 : (ieq (D.toI (D.fld (getD r1 (toN i12)) 0)) (2 : Int)) = false := by first | exact h | (have h2 := h; simp only [choice_lk, lock_eq] at h2; exact h2) | (simp only [choice_lk, lock_eq] at h; exact h)
                          rw [if_neg (by rw [h1]; exact Bool.false_ne_true)] at hr
                          (try cbv)
                          refine sel_intro (fun h => ?_) (fun h => ?_)
                          · as_aux_lemma =>
                            have h1 : (ieq (D.toI (D.fld (getD r1 (toN i12)) 0)) (3 : Int)) = true := by first | exact h | (have h2 := h; simp only [choice_lk, lock_eq] at h2; exact h2) | (simp only [choice_lk, lock_eq] at h; exact h)
                            rw [if_pos h1] at hr
                            (try cbv)
                            have hqe : ∃ qq, F_block_Device_Up_2 b5 i17 r5 i15 i16 = some qq := by
                              cases hq : F_block_Device_Up_2 b5 i17 r5 i15 i16 with
                              | none => rw [hq] at hr; cases hr
                              | some qq => exact ⟨qq, rfl⟩
                            refine ⟨obl.2 (by simp only [choice_lk, lock_eq]; exact hqe), (by rintro (_) _ <;> cbv), ?_⟩
                            clear hqe
                            intro qq hx247
                            simp only [choice_lk, lock_eq] at hx247
                            rcases qq with _
                            all_goals (rw [hx247] at hr; dsimp only at hr; constructor; (try cbv))
                            have hqe : ∃ qq, F_tollbarref31_Up b3 i13 i14 i18 r6 = some qq := by
                              cases hq : F_tollbarref31_Up b3 i13 i14 i18 r6 with
                              | none => rw [hq] at hr; cases hr
                              | some qq => exact ⟨qq, rfl⟩
                            refine ⟨obl.2 (by simp only [choice_lk, lock_eq]; exact hqe), (by rintro (_) _ <;> cbv), ?_⟩
                            clear hqe
                            intro qq hx248
                            simp only [choice_lk, lock_eq] at hx248
                            rcases qq with _
                            all_goals (rw [hx248] at hr; dsimp only at hr; constructor; (try cbv))
                            have hqe : ∃ qq, F_block_Device_Down false i17 r5 = some qq := by
                              cases hq : F_block_Device_Down false i17 r5 with
                              | none => rw [hq] at hr; cases hr
                              | some qq => exact ⟨qq, rfl⟩
                            refine ⟨(by simp only [choice_lk, lock_eq]; exact hqe), obl.2 (by simp only [choice_lk, lock_eq]; exact hqe), (by rintro (_) _ <;> cbv), ?_⟩
                            clear hqe
                            intro qq hx249
                            simp only [choice_lk, lock_eq] at hx249
                            rcases qq with _
                            all_goals (rw [hx249] at hr; dsimp only at hr; constructor; (try cbv))
                            rcases Bool.eq_false_or_eq_true (beq2 false false) with h1 | h1
                            · rw [if_pos h1] at hr
                              have h2 : (lock beq2 false false) = true := by simp only [lock_eq]; exact h1
                              simp only [relock, h2]
                              (try cbv)
                              have hqe : ∃ qq, F_block_Device_Writes false i17 r5 = some qq := by
                                cases hq : F_block_Device_Writes false i17 r5 with
                                | none => rw [hq] at hr; cases hr
                                | some qq => exact ⟨qq, rfl⟩
                              refine ⟨(by simp only [choice_lk, lock_eq]; exact hqe), obl.2 (by simp only [choice_lk, lock_eq]; exact hqe), (by rintro (_) _ <;> cbv), ?_⟩
                              clear hqe
                              intro qq hx250
                              simp only [choice_lk, lock_eq] at hx250
                              rcases qq with _
                              all_goals (rw [hx250] at hr; dsimp only at hr; constructor; (try cbv))
                              refine sel_intro (fun h => ?_) (fun h => ?_)
                              · have h1 : (ieq i17 i18) = false := by first | exact (bnot_t.1 h) | (have h2 := (bnot_t.1 h); simp only [choice_lk, lock_eq] at h2; exact h2) | (simp only [choice_lk, lock_eq] at h; exact (bnot_t.1 h))
                                rw [if_neg (by rw [h1]; exact Bool.false_ne_true)] at hr
                                (try cbv)
                                apply Hidden.out
                                obtain rfl := Option.some.inj hr
                                have e := ht1 _ rfl
                                constructor
                                refine ⟨_, hF, ?_⟩
                                (try cbv); (try simp only [choice_lk, lock_eq, and_self, and_true, true_and]); (try first | exact e | exact e.symm | (and_intros <;> first | assumption | rfl | exact Eq.symm (by assumption)))
                              · have h1 : (ieq i17 i18) = true := by first | exact (bnot_f.1 h) | (have h2 := (bnot_f.1 h); simp only [choice_lk, lock_eq] at h2; exact h2) | (simp only [choice_lk, lock_eq] at h; exact (bnot_f.1 h))
                                rw [if_pos h1] at hr
                                (try cbv)
                                apply Hidden.out
                                obtain rfl := Option.some.inj hr
                                constructor
                                refine ⟨⟨_, rfl⟩, ?_⟩
                                rintro x1 e
                                replace e := Sum.inl.inj e
                                apply Hidden.out
                                revert e
                                rcases x1 with ⟨u0, u1, u2, u3, u4, u5, u6, u7, u8, u9⟩ | _ <;> intro e
                                · replace e := Sum.inl.inj e
                                  simp only [Prod.mk.injEq] at e
                                  obtain ⟨e0, e1, e2, e3, e4, e5, e6, e7, e8, e9⟩ := e
                                  constructor
                                  refine le_auto hk ?_
                                  (try cbv); (try simp only [choice_lk, lock_eq, and_self, and_true, true_and]); (try first | exact e | exact e.symm | (and_intros <;> first | assumption | rfl | exact Eq.symm (by assumption)))
                                · cases e
                            · rw [if_neg (by rw [h1]; exact Bool.false_ne_true)] at hr
                              have h2 : (lock beq2 false false) = false := by simp only [lock_eq]; exact h1
                              simp only [relock, h2]
                              (try cbv)
                              apply Hidden.out
                              obtain rfl := Option.some.inj hr
                              have e := ht1 _ rfl
                              constructor
                              refine ⟨_, hF, ?_⟩
                              (try cbv); (try simp only [choice_lk, lock_eq, and_self, and_true, true_and]); (try first | exact e | exact e.symm | (and_intros <;> first | assumption | rfl | exact Eq.symm (by assumption)))
                          · as_aux_lemma =>
                            have h1 : (ieq (D.toI (D.fld (getD r1 (toN i12)) 0)) (3 : Int)) = false := by first | exact h | (have h2 := h; simp only [choice_lk, lock_eq] at h2; exact h2) | (simp only [choice_lk, lock_eq] at h; exact h)
                            rw [if_neg (by rw [h1]; exact Bool.false_ne_true)] at hr
                            (try cbv)
                            have hqe : ∃ qq, F_block_Device_Down_2 b5 i17 r5 i15 i16 = some qq := by
                              cases hq : F_block_Device_Down_2 b5 i17 r5 i15 i16 with
                              | none => rw [hq] at hr; cases hr
                              | some qq => exact ⟨qq, rfl⟩
                            refine ⟨(by simp only [choice_lk, lock_eq]; exact hqe), obl.2 (by simp only [choice_lk, lock_eq]; exact hqe), (by rintro (_) _ <;> cbv), ?_⟩
                            clear hqe
                            intro qq hx251
                            simp only [choice_lk, lock_eq] at hx251
                            rcases qq with _
                            all_goals (rw [hx251] at hr; dsimp only at hr; constructor; (try cbv))
                            rcases Bool.eq_false_or_eq_true (beq2 b5 b3) with h1 | h1
                            · rw [if_pos h1] at hr
                              have h2 : (lock beq2 b5 b3) = true := by simp only [lock_eq]; exact h1
                              simp only [relock, h2]
                              (try cbv)
                              have hqe : ∃ qq, F_block_Device_Writes_3 b5 i17 r5 i15 i16 = some qq := by
                                cases hq : F_block_Device_Writes_3 b5 i17 r5 i15 i16 with
                                | none => rw [hq] at hr; cases hr
                                | some qq => exact ⟨qq, rfl⟩
                              refine ⟨(by simp only [choice_lk, lock_eq]; exact hqe), obl.2 (by simp only [choice_lk, lock_eq]; exact hqe), (by rintro (_) _ <;> cbv), ?_⟩
                              clear hqe
                              intro qq hx252
                              simp only [choice_lk, lock_eq] at hx252
                              rcases qq with _
                              all_goals (rw [hx252] at hr; dsimp only at hr; constructor; (try cbv))
                              refine sel_intro (fun h => ?_) (fun h => ?_)
                              · have h1 : (ieq i17 i18) = false := by first | exact (bnot_t.1 h) | (have h2 := (bnot_t.1 h); simp only [choice_lk, lock_eq] at h2; exact h2) | (simp only [choice_lk, lock_eq] at h; exact (bnot_t.1 h))
                                rw [if_neg (by rw [h1]; exact Bool.false_ne_true)] at hr
                                (try cbv)
                                apply Hidden.out
                                obtain rfl := Option.some.inj hr
                                have e := ht1 _ rfl
                                constructor
                                refine ⟨_, hF, ?_⟩
                                (try cbv); (try simp only [choice_lk, lock_eq, and_self, and_true, true_and]); (try first | exact e | exact e.symm | (and_intros <;> first | assumption | rfl | exact Eq.symm (by assumption)))
                              · have h1 : (ieq i17 i18) = true := by first | exact (bnot_f.1 h) | (have h2 := (bnot_f.1 h); simp only [choice_lk, lock_eq] at h2; exact h2) | (simp only [choice_lk, lock_eq] at h; exact (bnot_f.1 h))
                                rw [if_pos h1] at hr
                                (try cbv)
                                apply Hidden.out
                                obtain rfl := Option.some.inj hr
                                constructor
                                refine ⟨⟨_, rfl⟩, ?_⟩
                                rintro x1 e
                                replace e := Sum.inl.inj e
                                apply Hidden.out
                                revert e
                                rcases x1 with _ | ⟨u0, u1, u2, u3, u4, u5, u6, u7, u8, u9, u10, u11⟩ <;> intro e
                                · cases e
                                · replace e := Sum.inr.inj e
                                  simp only [Prod.mk.injEq] at e
                                  obtain ⟨e0, e1, e2, e3, e4, e5, e6, e7, e8, e9, e10, e11⟩ := e
                                  constructor
                                  refine le_auto hk ?_
                                  (try cbv); (try simp only [choice_lk, lock_eq, and_self, and_true, true_and]); (try first | exact e | exact e.symm | (and_intros <;> first | assumption | rfl | exact Eq.symm (by assumption)))
                            · rw [if_neg (by rw [h1]; exact Bool.false_ne_true)] at hr
                              have h2 : (lock beq2 b5 b3) = false := by simp only [lock_eq]; exact h1
                              simp only [relock, h2]
                              (try cbv)
                              apply Hidden.out
                              obtain rfl := Option.some.inj hr
                              have e := ht1 _ rfl
                              constructor
                              refine ⟨_, hF, ?_⟩
                              (try cbv); (try simp only [choice_lk, lock_eq, and_self, and_true, true_and]); (try first | exact e | exact e.symm | (and_intros <;> first | assumption | rfl | exact Eq.symm (by assumption)))
                · as_aux_lemma =>
                  have h1 : (ilt i12 (ofN (xlen r1))) = false := by first | exact h | (have h2 := h; simp only [choice_lk, lock_eq] at h2; exact h2) | (simp only [choice_lk, lock_eq] at h; exact h)
                  rw [if_neg (by rw [h1]; exact Bool.false_ne_true)] at hr
                  (try cbv)
                  have hqe : ∃ qq, F_block_Device_Up_2 b5 i17 r5 i15 i16 = some qq := by
                    cases hq : F_block_Device_Up_2 b5 i17 r5 i15 i16 with
                    | none => rw [hq] at hr; cases hr
                    | some qq => exact ⟨qq, rfl⟩
                  refine ⟨obl.2 (by simp only [choice_lk, lock_eq]; exact hqe), (by rintro (_) _ <;> cbv), ?_⟩
                  clear hqe
                  intro qq hx253
                  simp only [choice_lk, lock_eq] at hx253
                  rcases qq with _
                  all_goals (rw [hx253] at hr; dsimp only at hr; constructor; (try cbv))
                  apply Hidden.out
                  obtain ⟨t, hr2, hw⟩ := map_inv hr
                  clear hr
                  subst hw
                  have e := (ht1 _ rfl).symm
                  subst e
                  have hr := hr2
                  clear hr2
                  constructor
                  refine LoopOK.iter T (drawOK T hm) (B := (F_tollbarlaw31_BlockDoes_L5 i11 i17 r5 r6)) hr (fun | i21 => ⟨mkFr [(6, (.v (.int .i64 i11))), (7, (.ptr 0 0)), (8, (.ptr 1 0)), (19, (.v (.int .i64 i21)))] 190 0, [(0, .blk 53 [(.wsl 2), (.v (.bool false)), (.v (.pointer none)), (.v (.int .i64 i17))]), (1, .blk 32 [(.wsl 3), (.v (.bool b3)), (.v (.int .i64 i13)), (.v (.int .i64 i14)), (.v (.int .i64 i18))]), (2, .row (.row 57 (.u8s 64) r5)), (3, .row (.row 9 .str r6))], 4⟩) ?_ ?_
                  · rintro u0 e
                    refine le_auto hk ?_
                    (try cbv); (try simp only [choice_lk, lock_eq, and_self, and_true, true_and]); (try first | exact e | exact e.symm | (and_intros <;> first | assumption | rfl | exact Eq.symm (by assumption)))
                  · clear hr
                    intro x bb1 hr ht1
                    obtain ⟨i21, hz⟩ : ∃ z, z = x := ⟨x, rfl⟩
                    subst hz
                    as_aux_lemma =>
                    constructor
                    unfold F_tollbarlaw31_BlockDoes_L5 at hr
                    (try dsimp only at hr)
                    (try cbv)
                    refine sel_intro (fun h => ?_) (fun h => ?_)
                    · have h1 : (ilt i21 i11) = true := by first | exact h | (have h2 := h; simp only [choice_lk, lock_eq] at h2; exact h2) | (simp only [choice_lk, lock_eq] at h; exact h)
                      rw [if_pos h1] at hr
                      (try cbv)
                      have hqe : ∃ qq, F_block_Device_Read i21 false i17 r5 = some qq := by
                        cases hq : F_block_Device_Read i21 false i17 r5 with
                        | none => rw [hq] at hr; cases hr
                        | some qq => exact ⟨qq, rfl⟩
                      refine ⟨obl.2 (by simp only [choice_lk, lock_eq]; exact hqe), (by rintro (⟨_, _⟩) _ <;> cbv), ?_⟩
                      clear hqe
                      intro qq hx256
                      simp only [choice_lk, lock_eq] at hx256
                      rcases qq with ⟨y141, t27⟩
                      all_goals (rw [hx256] at hr; dsimp only at hr; constructor; (try cbv))
                      rcases Bool.eq_false_or_eq_true (ieq y141 (0 : Int)) with h1 | h1
                      · rw [if_pos h1] at hr
                        have h2 : (lock ieq y141 (0 : Int)) = true := by simp only [lock_eq]; exact h1
                        simp only [relock, h2]
                        (try cbv)
                        have gg := guard_inv hr
                        have g := gg.1
                        replace hr := gg.2
                        clear gg
                        refine ⟨obl.2 (by first | (simp only [choice_lk, lock_eq, R.len, R.sub]; exact g) | exact g), ?_⟩
                        refine sel_intro (fun h => ?_) (fun h => ?_)
                        · have h1 : (seq t27 (D.toS (getD r6 (toN i21)))) = false := by first | exact (bnot_t.1 h) | (have h2 := (bnot_t.1 h); simp only [choice_lk, lock_eq] at h2; exact h2) | (simp only [choice_lk, lock_eq] at h; exact (bnot_t.1 h))
                          rw [if_neg (by rw [h1]; exact Bool.false_ne_true)] at hr
                          (try cbv)
                          apply Hidden.out
                          obtain rfl := Option.some.inj hr
                          have e := ht1 _ rfl
                          constructor
                          refine ⟨_, hF, ?_⟩
                          (try cbv); (try simp only [choice_lk, lock_eq, and_self, and_true, true_and]); (try first | exact e | exact e.symm | (and_intros <;> first | assumption | rfl | exact Eq.symm (by assumption)))
                        · have h1 : (seq t27 (D.toS (getD r6 (toN i21)))) = true := by first | exact (bnot_f.1 h) | (have h2 := (bnot_f.1 h); simp only [choice_lk, lock_eq] at h2; exact h2) | (simp only [choice_lk, lock_eq] at h; exact (bnot_f.1 h))
                          rw [if_pos h1] at hr
                          (try cbv)
                          apply Hidden.out
                          obtain rfl := Option.some.inj hr
                          constructor
                          refine ⟨⟨_, rfl⟩, ?_⟩
                          rintro u0 e
                          replace e := Sum.inl.inj e
                          refine le_auto hk ?_
                          (try cbv); (try simp only [choice_lk, lock_eq, and_self, and_true, true_and]); (try first | exact e | exact e.symm | (and_intros <;> first | assumption | rfl | exact Eq.symm (by assumption)))
                      · rw [if_neg (by rw [h1]; exact Bool.false_ne_true)] at hr
                        have h2 : (lock ieq y141 (0 : Int)) = false := by simp only [lock_eq]; exact h1
                        simp only [relock, h2]
                        (try cbv)
                        apply Hidden.out
                        obtain rfl := Option.some.inj hr
                        have e := ht1 _ rfl
                        constructor
                        refine ⟨_, hF, ?_⟩
                        (try cbv); (try simp only [choice_lk, lock_eq, and_self, and_true, true_and]); (try first | exact e | exact e.symm | (and_intros <;> first | assumption | rfl | exact Eq.symm (by assumption)))
                    · have h1 : (ilt i21 i11) = false := by first | exact h | (have h2 := h; simp only [choice_lk, lock_eq] at h2; exact h2) | (simp only [choice_lk, lock_eq] at h; exact h)
                      rw [if_neg (by rw [h1]; exact Bool.false_ne_true)] at hr
                      (try cbv)
                      apply Hidden.out
                      obtain rfl := Option.some.inj hr
                      have e := ht1 _ rfl
                      constructor
                      refine ⟨_, hF, ?_⟩
                      (try cbv); (try simp only [choice_lk, lock_eq, and_self, and_true, true_and]); (try first | exact e | exact e.symm | (and_intros <;> first | assumption | rfl | exact Eq.symm (by assumption)))
end Go.Proofs.Ytcdjpciocamkiaa
end
section
/-
  A walk that reckons: from a contract to what a row asks for.
-/
set_option linter.unusedVariables false
set_option linter.unusedSimpArgs false
namespace Go.Proofs.Ytcdjpciocamkiaa
open Go.RowKit

/-- A function that but reads what it is given, and answers true. -/
theorem law_calls {P : Program} {f : FuncId} {con : Con} (h : FnOK P f con) {cargs : List SV} {obs : List Prop} {sm : List Bool} (hc : con.f cargs [] = some ⟨obs, .one (.v (.bool true)) [], sm⟩) (hob : ∀ p ∈ obs, p) {W : World} {args : List Value} (hd : DensA (fun _ => none) W (fun _ => False) cargs args) (hG : ∀ g r, (g, r) ∈ globs → Den (fun _ => none) W (fun _ => False) (.rsl r) (.slice (some ⟨g, 0, none⟩) (rlen r) (rlen r)) := by intro g r h; simp [globs] at h) :
    Calls P f args.toArray W fun e W' => e = .returned (.bool true) ∧ Below W.heap.size W W' := by
  have hO : ∀ b, ¬ Own (fun _ => none) (canon 0 ([] : List Ck)) b := by
    rintro b ⟨id, c, p, h1, h2, h3⟩
    cases h2
  have hS : HSat (ctxOf W (fun _ => False) (fun _ => none) []) (fun _ => none) (canon 0 []) (fun i => ([] : List Ck).length ≤ i) W := by
    refine ⟨fun id c hc => by simp [canon, hget] at hc, fun i j c d p q b h1 => by simp [canon, hget] at h1, fun b hb => absurd hb (hO b), rfl, rfl, rfl, Nat.le_refl _, fun _ _ _ => rfl, ⟨fun b hb => hb.elim, fun g r hg => (hG g r hg).mono (fun _ _ h => h) (Nat.le_refl _) (fun _ _ _ => rfl) (fun b _ hb => by rcases hb with hz | ho; exact hz; exact hO b ho)⟩, fun _ _ => rfl, fun id hid => rfl⟩
  have hA : Avo (ctxOf W (fun _ => False) (fun _ => none) []) (fun _ => none) (canon 0 []) = fun _ => False := by
    funext b
    simp only [Avo, ctxOf, false_or, eq_iff_iff, iff_false]
    exact hO b
  have key := h cargs [] _ hc hob (fun _ => False) (fun _ => none) W args hS (by rw [hA]; exact hd)
  refine key.mono ?_
  rintro e W' ⟨u, PL', rfl, H, D⟩
  cases D
  refine ⟨rfl, ?_⟩
  exact ⟨H.os, H.tape, H.output, H.size, fun k hk => H.old k hk (hO k)⟩

/-- The same, by a contract that leaves open what it yields. -/
theorem law_many {P : Program} {f : FuncId} {con : Con} (h : FnOK P f con) {cargs : List SV} {obs : List Prop} {X : Type} {Pr : X → Prop} {v : X → SV} {post : X → List PostC} {sm : List Bool} (hc : con.f cargs [] = some ⟨obs, .many X Pr v post, sm⟩) (hob : ∀ p ∈ obs, p) (hv : ∀ x, Pr x → v x = .v (.bool true) ∧ post x = []) {W : World} {args : List Value} (hd : DensA (fun _ => none) W (fun _ => False) cargs args) (hG : ∀ g r, (g, r) ∈ globs → Den (fun _ => none) W (fun _ => False) (.rsl r) (.slice (some ⟨g, 0, none⟩) (rlen r) (rlen r)) := by intro g r h; simp [globs] at h) :
    Calls P f args.toArray W fun e W' => e = .returned (.bool true) ∧ Below W.heap.size W W' := by
  have hO : ∀ b, ¬ Own (fun _ => none) (canon 0 ([] : List Ck)) b := by
    rintro b ⟨id, c, p, h1, h2, h3⟩
    cases h2
  have hS : HSat (ctxOf W (fun _ => False) (fun _ => none) []) (fun _ => none) (canon 0 []) (fun i => ([] : List Ck).length ≤ i) W := by
    refine ⟨fun id c hc => by simp [canon, hget] at hc, fun i j c d p q b h1 => by simp [canon, hget] at h1, fun b hb => absurd hb (hO b), rfl, rfl, rfl, Nat.le_refl _, fun _ _ _ => rfl, ⟨fun b hb => hb.elim, fun g r hg => (hG g r hg).mono (fun _ _ h => h) (Nat.le_refl _) (fun _ _ _ => rfl) (fun b _ hb => by rcases hb with hz | ho; exact hz; exact hO b ho)⟩, fun _ _ => rfl, fun id hid => rfl⟩
  have hA : Avo (ctxOf W (fun _ => False) (fun _ => none) []) (fun _ => none) (canon 0 []) = fun _ => False := by
    funext b
    simp only [Avo, ctxOf, false_or, eq_iff_iff, iff_false]
    exact hO b
  have key := h cargs [] _ hc hob (fun _ => False) (fun _ => none) W args hS (by rw [hA]; exact hd)
  refine key.mono ?_
  rintro e W' ⟨u, PL', rfl, x, hx, H, D⟩
  obtain ⟨e1, e2⟩ := hv x hx
  rw [e1] at D
  cases D
  refine ⟨rfl, ?_⟩
  exact ⟨H.os, H.tape, H.output, H.size, fun k hk => H.old k hk (hO k)⟩
theorem densA_nil {PL : Nat → Option Pl} {w : World} {Av : Nat → Prop} : DensA PL w Av [] [] := ⟨rfl, fun j h1 _ => absurd h1 (by simp)⟩
theorem densA_cons {PL : Nat → Option Pl} {w : World} {Av : Nat → Prop} {x : SV} {l : List SV} {c : Value} {cs : List Value} (h : Den PL w Av x c) (k : DensA PL w Av l cs) : DensA PL w Av (x :: l) (c :: cs) :=
  ⟨by simp [k.1], fun j h1 h2 => by
    cases j with
    | zero => exact h
    | succ j => exact k.2 j (by simpa using h1) (by simpa using h2)⟩
theorem den_str {PL : Nat → Option Pl} {w : World} {Av : Nat → Prop} (b : ByteArray) : Den PL w Av (.str b.data.toList) (.string b) := by
  have := Den.str (PL := PL) (w := w) (Av := Av) b.data.toList
  simpa using this
end Go.Proofs.Ytcdjpciocamkiaa
end
section
/-
  The walks of the functions that tollbar/tollbarlaw31.BlockDoes reaches, tied to the program (printed by a program of ours).
-/
set_option linter.unusedVariables false
set_option linter.unusedSimpArgs false
namespace Go.Proofs.Ytcdjpciocamkiaa
open Go.RowKit

theorem mixed : Try.prog.follows .mixedOrders = true := by kernel_rfl
theorem tabok_block_New : Tab Try.prog tab_block_New := Tab.nil _
theorem ok_block_New : FnOK Try.prog 7 con_block_New := FnOK.of tabok_block_New mixed Try.func7 comp_7 (vc_block_New _ tabok_block_New mixed)
theorem tabok_block_Device_Arm : Tab Try.prog tab_block_Device_Arm := Tab.nil _
theorem ok_block_Device_Arm : FnOK Try.prog 9 con_block_Device_Arm := FnOK.of tabok_block_Device_Arm mixed Try.func9 comp_9 (vc_block_Device_Arm _ tabok_block_Device_Arm mixed)
theorem tabok_block_Device_may : Tab Try.prog tab_block_Device_may := Tab.nil _
theorem ok_block_Device_may : FnOK Try.prog 21 con_block_Device_may := FnOK.of tabok_block_Device_may mixed Try.func21 comp_21 (vc_block_Device_may _ tabok_block_Device_may mixed)
theorem tabok_block_Device_Write : Tab Try.prog tab_block_Device_Write := Tab.cons (Tab.nil _) ok_block_Device_may Try.func21 rfl rfl
theorem ok_block_Device_Write : FnOK Try.prog 8 con_block_Device_Write := FnOK.of tabok_block_Device_Write mixed Try.func8 comp_8 (vc_block_Device_Write _ tabok_block_Device_Write mixed)
theorem tabok_block_Device_Down : Tab Try.prog tab_block_Device_Down := Tab.nil _
theorem ok_block_Device_Down : FnOK Try.prog 10 con_block_Device_Down := FnOK.of tabok_block_Device_Down mixed Try.func10 comp_10 (vc_block_Device_Down _ tabok_block_Device_Down mixed)
theorem tabok_block_Device_Up : Tab Try.prog tab_block_Device_Up := Tab.nil _
theorem ok_block_Device_Up : FnOK Try.prog 18 con_block_Device_Up := FnOK.of tabok_block_Device_Up mixed Try.func18 comp_18 (vc_block_Device_Up _ tabok_block_Device_Up mixed)
theorem tabok_block_Device_Read : Tab Try.prog tab_block_Device_Read := Tab.cons (Tab.nil _) ok_block_Device_may Try.func21 rfl rfl
theorem ok_block_Device_Read : FnOK Try.prog 15 con_block_Device_Read := FnOK.of tabok_block_Device_Read mixed Try.func15 comp_15 (vc_block_Device_Read _ tabok_block_Device_Read mixed)
theorem tabok_block_Device_Writes : Tab Try.prog tab_block_Device_Writes := Tab.nil _
theorem ok_block_Device_Writes : FnOK Try.prog 11 con_block_Device_Writes := FnOK.of tabok_block_Device_Writes mixed Try.func11 comp_11 (vc_block_Device_Writes _ tabok_block_Device_Writes mixed)
theorem tabok_block_Device_Blocks : Tab Try.prog tab_block_Device_Blocks := Tab.nil _
theorem ok_block_Device_Blocks : FnOK Try.prog 12 con_block_Device_Blocks := FnOK.of tabok_block_Device_Blocks mixed Try.func12 comp_12 (vc_block_Device_Blocks _ tabok_block_Device_Blocks mixed)
theorem tabok_tollbarlaw31_awake : Tab Try.prog tab_tollbarlaw31_awake := Tab.cons (Tab.cons (Tab.cons (Tab.cons (Tab.cons (Tab.cons (Tab.cons (Tab.cons (Tab.nil _) ok_block_Device_Blocks Try.func12 rfl rfl) ok_block_Device_Writes Try.func11 rfl rfl) ok_block_Device_Read Try.func15 rfl rfl) ok_block_Device_Up Try.func18 rfl rfl) ok_block_Device_Down Try.func10 rfl rfl) ok_block_Device_Write Try.func8 rfl rfl) ok_block_Device_Arm Try.func9 rfl rfl) ok_block_New Try.func7 rfl rfl
theorem ok_tollbarlaw31_awake : FnOK Try.prog 6 con_tollbarlaw31_awake := FnOK.of tabok_tollbarlaw31_awake mixed Try.func6 comp_6 (vc_tollbarlaw31_awake _ tabok_tollbarlaw31_awake mixed)
theorem tabok_tollbarref31_noughts : Tab Try.prog tab_tollbarref31_noughts := Tab.nil _
theorem ok_tollbarref31_noughts : FnOK Try.prog 22 con_tollbarref31_noughts := FnOK.of tabok_tollbarref31_noughts mixed Try.func22 comp_22 (vc_tollbarref31_noughts _ tabok_tollbarref31_noughts mixed)
theorem tabok_tollbarref31_New : Tab Try.prog tab_tollbarref31_New := Tab.cons (Tab.nil _) ok_tollbarref31_noughts Try.func22 rfl rfl
theorem ok_tollbarref31_New : FnOK Try.prog 13 con_tollbarref31_New := FnOK.of tabok_tollbarref31_New mixed Try.func13 comp_13 (vc_tollbarref31_New _ tabok_tollbarref31_New mixed)
theorem tabok_tollbarref31_Read : Tab Try.prog tab_tollbarref31_Read := Tab.nil _
theorem ok_tollbarref31_Read : FnOK Try.prog 16 con_tollbarref31_Read := FnOK.of tabok_tollbarref31_Read mixed Try.func16 comp_16 (vc_tollbarref31_Read _ tabok_tollbarref31_Read mixed)
theorem tabok_tollbarref31_with : Tab Try.prog tab_tollbarref31_with := Tab.nil _
theorem ok_tollbarref31_with : FnOK Try.prog 23 con_tollbarref31_with := FnOK.of tabok_tollbarref31_with mixed Try.func23 comp_23 (vc_tollbarref31_with _ tabok_tollbarref31_with mixed)
theorem tabok_tollbarref31_Write : Tab Try.prog tab_tollbarref31_Write := Tab.cons (Tab.cons (Tab.nil _) ok_tollbarref31_with Try.func23 rfl rfl) ok_tollbarref31_Read Try.func16 rfl rfl
theorem ok_tollbarref31_Write : FnOK Try.prog 14 con_tollbarref31_Write := FnOK.of tabok_tollbarref31_Write mixed Try.func14 comp_14 (vc_tollbarref31_Write _ tabok_tollbarref31_Write mixed)
theorem tabok_tollbarref31_Arm : Tab Try.prog tab_tollbarref31_Arm := Tab.nil _
theorem ok_tollbarref31_Arm : FnOK Try.prog 17 con_tollbarref31_Arm := FnOK.of tabok_tollbarref31_Arm mixed Try.func17 comp_17 (vc_tollbarref31_Arm _ tabok_tollbarref31_Arm mixed)
theorem tabok_tollbarref31_Up : Tab Try.prog tab_tollbarref31_Up := Tab.nil _
theorem ok_tollbarref31_Up : FnOK Try.prog 19 con_tollbarref31_Up := FnOK.of tabok_tollbarref31_Up mixed Try.func19 comp_19 (vc_tollbarref31_Up _ tabok_tollbarref31_Up mixed)
theorem tabok_tollbarlaw31_BlockDoes : Tab Try.prog tab_tollbarlaw31_BlockDoes := Tab.cons (Tab.cons (Tab.cons (Tab.cons (Tab.cons (Tab.cons (Tab.cons (Tab.cons (Tab.cons (Tab.cons (Tab.cons (Tab.cons (Tab.cons (Tab.cons (Tab.nil _) ok_tollbarref31_Up Try.func19 rfl rfl) ok_block_Device_Up Try.func18 rfl rfl) ok_tollbarref31_Arm Try.func17 rfl rfl) ok_tollbarref31_Read Try.func16 rfl rfl) ok_block_Device_Read Try.func15 rfl rfl) ok_tollbarref31_Write Try.func14 rfl rfl) ok_tollbarref31_New Try.func13 rfl rfl) ok_block_Device_Blocks Try.func12 rfl rfl) ok_block_Device_Writes Try.func11 rfl rfl) ok_block_Device_Down Try.func10 rfl rfl) ok_block_Device_Arm Try.func9 rfl rfl) ok_block_Device_Write Try.func8 rfl rfl) ok_block_New Try.func7 rfl rfl) ok_tollbarlaw31_awake Try.func6 rfl rfl
theorem ok_tollbarlaw31_BlockDoes : FnOK Try.prog 3 con_tollbarlaw31_BlockDoes := FnOK.of tabok_tollbarlaw31_BlockDoes mixed Try.func3 comp_3 (vc_tollbarlaw31_BlockDoes _ tabok_tollbarlaw31_BlockDoes mixed)

end Go.Proofs.Ytcdjpciocamkiaa
end
section
/-
  A walk that reckons: arguments of any shape, opened.
-/
set_option linter.unusedVariables false
set_option linter.unusedSimpArgs false
namespace Go.Proofs.Ytcdjpciocamkiaa
open Go.RowKit Go.ChangeShapes Go.WideShapes Go.Deep

mutual
/-- What is known of data that came in: its numbers fit. -/
def Ty.rng : Ty → D → Prop
  | .int k, d => (Lit.int k d.toI).wf = true
  | .bool, _ => True
  | .str, d => d.toS.length ≤ maxLen
  | .bytes _, d => d.toS.length ≤ maxLen
  | .ints _ k, d => d.toIs.length ≤ maxLen ∧ ∀ x ∈ d.toIs, (Lit.int k x).wf = true
  | .row _ e, d => d.toL.length ≤ maxLen ∧ ∀ x ∈ d.toL, e.rng x
  | .st fs, d => Ty.rngL fs d 0
  | .self _, _ => True
  | .u8s _, _ => True
def Ty.rngL : List Ty → D → Nat → Prop
  | [], _, _ => True
  | t :: ts, d, j => t.rng (d.fld j) ∧ Ty.rngL ts d (j + 1)
end

mutual
/-- Is a type of the program of this kind? -/
def tyChk (P : Program) : Ty → TypeId → Bool
  | .int k, t => match P.underlying t with | some (.int j) => j == k | _ => false
  | .bool, t => match P.underlying t with | some .bool => true | _ => false
  | .str, t => match P.underlying t with | some .string => true | _ => false
  | .bytes T, t => match P.underlying t, P.underlying T with | some (.slice e), some (.int .u8) => Nat.beq e T && Nat.beq (P.cellsOf T) 1 | _, _ => false
  | .ints T k, t => match P.underlying t, P.underlying T with | some (.slice e), some (.int j) => Nat.beq e T && Nat.beq (P.cellsOf T) 1 && j == k | _, _ => false
  | .row T e, t => match P.underlying t with | some (.slice e') => Nat.beq e' T && Nat.beq (P.cellsOf T) e.size && Nat.ble 1 e.size && tyChk P e T | _ => false
  | .st es, t => match P.underlying t with | some (.struct fl) => Nat.beq (P.cellsOf t) (Ty.sizes es) && tysChk P es fl.toList 0 | _ => false
  | .self _, _ => false
  | .u8s _, _ => false
def tysChk (P : Program) : List Ty → List Field → Nat → Bool
  | [], [], _ => true
  | e :: es, f :: fl, o => Nat.beq f.offset o && Nat.beq (P.cellsOf f.type) e.size && tyChk P e f.type && tysChk P es fl (o + e.size)
  | _, _, _ => false
end

section
variable {H : Type} {enc : TypeId × Value → H} {P : Program} {w : World} {base : Nat} {spare : Nat → Bool} {held : Bool}
def PN : Nat → Option Pl := fun _ => none
def AN : Nat → Prop := fun _ => False
/-- A row whose elements are opened. -/
theorem open_row {r : R} {a : Addr} {len cap : Nat} (hr : rlen r = len) (hl : len ≤ cap) (hsz : 0 < r.sz) (hrow : ∀ i, i < len → ∃ cs, cs.length = r.sz ∧ (∀ j, j < r.sz → w.cell? (a.add (i * r.sz + j)) = cs[j]?) ∧ Dens PN w AN (r.elem i) cs) :
    Den PN w AN (.rsl r) (.slice (some a) len cap) := by
  subst hr
  have : ∀ i, ∃ cs : List Value, i < rlen r → cs.length = r.sz ∧ (∀ j, j < r.sz → w.cell? (a.add (i * r.sz + j)) = cs[j]?) ∧ Dens PN w AN (r.elem i) cs := fun i => by
    by_cases h : i < rlen r
    · obtain ⟨cs, h⟩ := hrow i h; exact ⟨cs, fun _ => h⟩
    · exact ⟨[], fun h' => absurd h' h⟩
  obtain ⟨f, hf⟩ := Classical.axiomOfChoice this
  refine .rsl r (some a) cap (fun i j => ((f i)[j]?).getD undef) hl ?_ ?_ ?_
  · intro h0
    obtain ⟨h1, h2, h3⟩ := hf 0 h0
    have hc := h2 0 hsz
    rw [Nat.zero_mul, Nat.zero_add, List.getElem?_eq_getElem (by omega)] at hc
    refine ⟨a, rfl, ?_, fun h => h⟩
    have := World.block_lt_of_cell? w _ hc
    rwa [add_block] at this
  · intro i j ad e hi hj
    injection e with e; subst e
    obtain ⟨h1, h2, h3⟩ := hf i hi
    have hjl : j < (f i).length := by omega
    rw [add_add, h2 j hj, List.getElem?_eq_getElem hjl]
    have hle : (r.elem i).length = (f i).length := h3.1.symm
    exact ⟨rfl, by simpa using (h3.2 j (by omega) hjl).2⟩
  · intro i j hi hj
    obtain ⟨h1, h2, h3⟩ := hf i hi
    have hjl : j < (f i).length := by rw [h3.1]; exact hj
    have := (h3.2 j hj hjl).1
    simpa [List.getElem?_eq_getElem hjl] using this

theorem den1 {v : SV} {c : Value} (h : Den PN w AN v c) (h1 : c.oneCell' = true) : Dens PN w AN [v] [c] := Dens.cons h h1 Dens.nil
/-- Bytes that came in. -/
theorem open_bytes {t T : TypeId} (hu : P.underlying t = some (.slice T)) (he : P.underlying T = some (.int .u8)) (hc : P.cellsOf T = 1) {fuel : Nat} {cs : List Value} {x : DataW H × List MemPlace} (h : DataW.trod enc P w base spare held fuel t cs = some x) :
    ∃ l : List UInt8, l.length ≤ maxLen ∧ Dens PN w AN [.rsl (.bs T l)] cs := by
  rcases open_slice1 hu hc h with ⟨rfl, _⟩ | ⟨a, len, cap, m, n, V, D, Pl, rfl, hb, hl, hm, hmm, _, hi⟩
  · exact ⟨[], by simp, den1 (nil_den rfl .nsl) rfl⟩
  · have hle : len ≤ m := by rw [hmm]; split <;> omega
    have each : ∀ i, ∃ b : UInt8, i < len → w.cell? (a.add i) = some (.int .u8 b.toNat) := fun i => by
      by_cases h : i < len
      · obtain ⟨h1, h2⟩ := hi i (by omega)
        obtain ⟨y, e1, _, e2⟩ := DataW.trod_int he h2
        injection e1 with e1 _
        have hy : 0 ≤ y ∧ y ≤ 255 := by simpa [Lit.wf, IntKind.min, IntKind.max, IntKind.signed, IntKind.bits, Int.lt_add_one_iff, Int.le_sub_one_iff] using e2
        refine ⟨UInt8.ofNat y.toNat, fun _ => ?_⟩
        rw [h1, e1]
        have : ((UInt8.ofNat y.toNat).toNat : Int) = y := by simp; omega
        rw [this]
      · exact ⟨0, fun h' => absurd h' h⟩
    obtain ⟨f, hf⟩ := Classical.axiomOfChoice each
    refine ⟨(List.range len).map f, by simp; omega, den1 (open_row (by simp [rlen]) hl (by show 0 < 1; omega) fun i hi => ⟨[.int .u8 (f i).toNat], rfl, ?_, ?_⟩) rfl⟩
    · intro j hj
      have : j = 0 := by simp [R.sz] at hj; exact hj
      subst this
      simp only [R.sz, Nat.mul_one, Nat.add_zero]
      rw [hf i hi]
      rfl
    · have : getB ((List.range len).map f) i = ((f i).toNat : Int) := by simp [getB, hi]
      simp only [R.elem, lock_eq, this]
      exact den1 (.v _) rfl
/-- Whole numbers that came in. -/
theorem open_intsD {t T : TypeId} {k : IntKind} (hu : P.underlying t = some (.slice T)) (he : P.underlying T = some (.int k)) (hc : P.cellsOf T = 1) {fuel : Nat} {cs : List Value} {x : DataW H × List MemPlace} (h : DataW.trod enc P w base spare held fuel t cs = some x) :
    ∃ l : List Int, l.length ≤ maxLen ∧ (∀ y ∈ l, (Lit.int k y).wf = true) ∧ Dens PN w AN [.rsl (.ints T k l)] cs := by
  rcases open_slice1 hu hc h with ⟨rfl, _⟩ | ⟨a, len, cap, m, n, V, D, Pl, rfl, hb, hl, hm, hmm, _, hi⟩
  · exact ⟨[], by simp, by simp, den1 (nil_den rfl .nsl) rfl⟩
  · have hle : len ≤ m := by rw [hmm]; split <;> omega
    have each : ∀ i, ∃ b : Int, i < len → w.cell? (a.add i) = some (.int k b) ∧ (Lit.int k b).wf = true := fun i => by
      by_cases h : i < len
      · obtain ⟨h1, h2⟩ := hi i (by omega)
        obtain ⟨y, e1, _, e2⟩ := DataW.trod_int he h2
        injection e1 with e1 _
        exact ⟨y, fun _ => ⟨by rw [h1, e1], e2⟩⟩
      · exact ⟨0, fun h' => absurd h' h⟩
    obtain ⟨f, hf⟩ := Classical.axiomOfChoice each
    refine ⟨(List.range len).map f, by simp; omega, ?_, den1 (open_row (by simp [rlen]) hl (by show 0 < 1; omega) fun i hi => ⟨[.int k (f i)], rfl, ?_, ?_⟩) rfl⟩
    · intro y hy
      obtain ⟨i, h1, rfl⟩ := List.mem_map.1 hy
      exact (hf i (List.mem_range.1 h1)).2
    · intro j hj
      have : j = 0 := by simp [R.sz] at hj; exact hj
      subst this
      simp only [R.sz, Nat.mul_one, Nat.add_zero]
      rw [(hf i hi).1]
      rfl
    · have : getI ((List.range len).map f) i = f i := by simp [getI, hi]
      simp only [R.elem, lock_eq, this]
      exact den1 (.v _) rfl
theorem dens_app {a b : List SV} {c d : List Value} (h : Dens PN w AN a c) (k : Dens PN w AN b d) : Dens PN w AN (a ++ b) (c ++ d) := by
  refine ⟨by simp [h.1, k.1], fun j h1 h2 => ?_⟩
  by_cases hj : j < a.length
  · have hc : j < c.length := by rw [h.1]; exact hj
    rw [List.getElem_append_left hj, List.getElem_append_left hc]
    exact h.2 j hj hc
  · have hc : ¬ j < c.length := by rw [h.1]; exact hj
    rw [List.getElem_append_right (by omega), List.getElem_append_right (by omega)]
    have e := h.1
    have := k.2 (j - a.length) (by simp at h1; omega) (by simp at h2; omega)
    simpa [e] using this
theorem D.fld_l (l : List D) (j : Nat) : (D.l l).fld j = l.getD j (.i 0) := rfl
theorem open_ty : ∀ (e : Ty) (t : TypeId) (fuel : Nat) (cs : List Value) (x : DataW H × List MemPlace), tyChk P e t = true → DataW.trod enc P w base spare held fuel t cs = some x → ∃ d : D, Dens PN w AN (e.leaves d) cs ∧ e.rng d := by
  intro e
  apply Ty.rec (motive_1 := fun e => ∀ (t : TypeId) (fuel : Nat) (cs : List Value) (x : DataW H × List MemPlace), tyChk P e t = true → DataW.trod enc P w base spare held fuel t cs = some x → ∃ d : D, Dens PN w AN (e.leaves d) cs ∧ e.rng d)
    (motive_2 := fun es => ∀ (fl : List Field) (o : Nat) (cs : List Value), tysChk P es fl o = true → (∀ f ∈ fl, ∃ fuel x, DataW.trod enc P w base spare held fuel f.type ((cs.drop f.offset).take (P.cellsOf f.type)) = some x) → cs.length = o + Ty.sizes es →
      ∃ ds : List D, ds.length = es.length ∧ ∀ d j, (∀ i, i < es.length → d.fld (j + i) = ds.getD i (.i 0)) → Dens PN w AN (Ty.leavesL es d j) (cs.drop o) ∧ Ty.rngL es d j)
  · intro k t fuel cs x hc h
    simp only [tyChk] at hc
    split at hc
    · rename_i j hu
      have := LawfulBEq.eq_of_beq hc
      subst this
      obtain ⟨y, rfl, _, e2⟩ := DataW.trod_int hu h
      refine ⟨.i y, ?_, e2⟩
      simp only [Ty.leaves, lock_eq]
      exact den1 (.v _) rfl
    · cases hc
  · intro t fuel cs x hc h
    simp only [tyChk] at hc
    split at hc
    · rename_i hu
      obtain ⟨b, rfl, _⟩ := DataW.trod_bool hu h
      refine ⟨.b b, ?_, trivial⟩
      simp only [Ty.leaves, lock_eq]
      exact den1 (.v _) rfl
    · cases hc
  · intro t fuel cs x hc h
    simp only [tyChk] at hc
    split at hc
    · rename_i hu
      obtain ⟨b, rfl, _, e2⟩ := DataW.trod_string hu h
      refine ⟨.s b.data.toList, ?_, by
        show b.data.toList.length ≤ maxLen
        have : b.data.toList.length = b.size := by rw [Array.length_toList]; rfl
        rw [this]; exact e2⟩
      simp only [Ty.leaves, lock_eq, D.toS]
      have := Den.str (PL := PN) (w := w) (Av := AN) b.data.toList
      simp at this
      exact den1 this rfl
    · cases hc
  · intro T t fuel cs x hc h
    simp only [tyChk] at hc
    split at hc
    · rename_i e0 hu he
      simp only [Bool.and_eq_true] at hc
      have e1 := (nbeq _ _).1 hc.1
      have e2 := (nbeq _ _).1 hc.2
      subst e1
      obtain ⟨l, h1, h2⟩ := open_bytes hu he e2 h
      exact ⟨.s l, by simp only [Ty.leaves, lock_eq]; exact h2, h1⟩
    · cases hc
  · intro T k t fuel cs x hc h
    simp only [tyChk] at hc
    split at hc
    · rename_i e0 j hu he
      simp only [Bool.and_eq_true] at hc
      have e1 := (nbeq _ _).1 hc.1.1
      have e2 := (nbeq _ _).1 hc.1.2
      have e3 := LawfulBEq.eq_of_beq hc.2
      subst e1; subst e3
      obtain ⟨l, h1, h2, h3⟩ := open_intsD hu he e2 h
      exact ⟨.is l, by simp only [Ty.leaves, lock_eq]; exact h3, h1, h2⟩
    · cases hc
  · intro T e ih t fuel cs x hc h
    simp only [tyChk] at hc
    split at hc
    · rename_i e0 hu
      simp only [Bool.and_eq_true] at hc
      obtain ⟨⟨⟨c1, c2⟩, c3⟩, c4⟩ := hc
      have e1 := (nbeq _ _).1 c1
      have e2 := (nbeq _ _).1 c2
      have e3 := Nat.le_of_ble_eq_true c3
      subst e1
      rcases open_slice hu h with ⟨rfl, _⟩ | ⟨a, len, cap, m, n, D0, Pl, rfl, hb, hl, hm, hmm, _, hi⟩
      · refine ⟨.l [], ?_, by simp [Ty.rng, D.toL]⟩
        simp only [Ty.leaves, lock_eq, D.toL]
        exact den1 (nil_den rfl .nsl) rfl
      · have hle : len ≤ m := by rw [hmm]; split <;> omega
        have each : ∀ i, ∃ q : D × List Value, i < len → q.2.length = e.size ∧ (∀ j, j < e.size → w.cell? (a.add (i * e.size + j)) = q.2[j]?) ∧ Dens PN w AN (e.leaves q.1) q.2 ∧ e.rng q.1 := fun i => by
          by_cases hil : i < len
          · obtain ⟨cs', g1, g2⟩ := hi i (by omega)
            obtain ⟨_, g3, g4⟩ := World.cells?_some g1
            obtain ⟨d, g5, g6⟩ := ih _ n cs' _ c4 g2
            refine ⟨(d, cs'), fun _ => ⟨by rw [g3, e2], fun j hj => ?_, g5, g6⟩⟩
            have := g4 j (by omega)
            rw [add_add, e2] at this
            exact this
          · exact ⟨(.i 0, []), fun h' => absurd h' hil⟩
        obtain ⟨f, hf⟩ := Classical.axiomOfChoice each
        refine ⟨.l ((List.range len).map fun i => (f i).1), ?_, ?_, ?_⟩
        · simp only [Ty.leaves, lock_eq, D.toL]
          refine den1 (open_row (by simp [rlen]) hl (by show 0 < e.size; omega) fun i hi => ⟨(f i).2, (hf i hi).1, (hf i hi).2.1, ?_⟩) rfl
          have : getD ((List.range len).map fun i => (f i).1) i = (f i).1 := by simp [getD, hi]
          simp only [R.elem, lock_eq, this]
          exact (hf i hi).2.2.1
        · simp [D.toL]; omega
        · intro y hy
          simp only [D.toL] at hy
          obtain ⟨i, h1, rfl⟩ := List.mem_map.1 hy
          exact (hf i (List.mem_range.1 h1)).2.2.2
    · cases hc
  · intro es ih t fuel cs x hc h
    simp only [tyChk] at hc
    split at hc
    · rename_i fl hu
      simp only [Bool.and_eq_true] at hc
      have e1 := (nbeq _ _).1 hc.1
      obtain ⟨xs, n, _, _, hlen, hxl, hx⟩ := DataW.trod_struct hu h
      obtain ⟨ds, h1, h2⟩ := ih fl.toList 0 cs hc.2 (fun f hf => by
        obtain ⟨i, hi, he⟩ := List.getElem_of_mem hf
        have hi' : i < fl.size := by simpa using hi
        have := hx i f (by rw [Array.getElem?_eq_getElem hi']; simpa using he)
        exact ⟨n, xs[i]'(by omega), by rw [this, List.getElem?_eq_getElem (by omega)]⟩) (by rw [hlen, e1]; omega)
      obtain ⟨g1, g2⟩ := h2 (.l ds) 0 (fun i hi => by rw [D.fld_l, Nat.zero_add])
      exact ⟨.l ds, by simp only [Ty.leaves]; simpa using g1, g2⟩
    · cases hc
  · intro T t fuel cs x hc h; simp [tyChk] at hc
  · intro n t fuel cs x hc h; simp [tyChk] at hc
  · intro fl o cs hc hf hl
    cases fl with
    | nil => exact ⟨[], rfl, fun d j _ => ⟨by simp only [Ty.leavesL]; rw [List.drop_of_length_le (by simp [Ty.sizes] at hl; omega)]; exact Dens.nil, trivial⟩⟩
    | cons f fl => simp [tysChk] at hc
  · intro e es ih1 ih2 fl o cs hc hf hl
    cases fl with
    | nil => simp [tysChk] at hc
    | cons f fl =>
      simp only [tysChk, Bool.and_eq_true] at hc
      obtain ⟨⟨⟨c1, c2⟩, c3⟩, c4⟩ := hc
      have e1 := (nbeq _ _).1 c1
      have e2 := (nbeq _ _).1 c2
      obtain ⟨fuel, x, hx⟩ := hf f (List.mem_cons_self ..)
      obtain ⟨d1, g1, g2⟩ := ih1 _ _ _ _ c3 hx
      simp only [Ty.sizes] at hl
      obtain ⟨ds, g3, g4⟩ := ih2 fl (o + e.size) cs c4 (fun f hf' => hf f (List.mem_cons_of_mem _ hf')) (by omega)
      refine ⟨d1 :: ds, by simp [g3], fun d j hd => ?_⟩
      have hd0 : d.fld j = d1 := by simpa using hd 0 (by simp)
      obtain ⟨k1, k2⟩ := g4 d (j + 1) (fun i hi => by
        have := hd (i + 1) (by simpa using hi)
        rw [Nat.add_assoc, Nat.add_comm 1 i, this, List.getD_cons_succ])
      rw [e1, e2] at g1
      refine ⟨?_, ?_, k2⟩
      · simp only [Ty.leavesL, lock_eq, hd0]
        have : cs.drop o = (cs.drop o).take e.size ++ cs.drop (o + e.size) := by
          rw [← List.drop_drop, List.take_append_drop]
        rw [this]
        exact dens_app g1 k1
      · rw [hd0]; exact g2
end
end Go.Proofs.Ytcdjpciocamkiaa
end
section
/-
  Words, as plain Lean reads them.
-/
set_option linter.unusedVariables false
set_option linter.unusedSimpArgs false
namespace Go.Proofs.Ytcdjpciocamkiaa

theorem pieq {a b : Int} : (ieq a b = true) = (a = b) := by simp [ieq]
theorem pilt {a b : Int} : (ilt a b = true) = (a < b) := by simp [ilt]
theorem pile {a b : Int} : (ile a b = true) = (a ≤ b) := by simp [ile]
theorem pseq {a b : List UInt8} : (seq a b = true) = (a = b) := by simp [seq]
theorem pbeq2 {a b : Bool} : (beq2 a b = true) = (a = b) := by simp [beq2]
theorem pband {a b : Bool} : (band a b = true) = (a = true ∧ b = true) := by simp [band]

/-- A number of 64 bits. -/
def U (x : Int) : Prop := 0 ≤ x ∧ x < 18446744073709551616
theorem U.lo {x : Int} (h : U x) : 0 ≤ x := h.1
theorem U.hi {x : Int} (h : U x) : x < 18446744073709551616 := h.2
theorem pwu64 (x : Int) : IntKind.u64.wrap x = x % 18446744073709551616 := by simp [IntKind.wrap, IntKind.signed, IntKind.bits]
theorem pwu32 (x : Int) : IntKind.u32.wrap x = x % 4294967296 := by simp [IntKind.wrap, IntKind.signed, IntKind.bits]
theorem pwu16 (x : Int) : IntKind.u16.wrap x = x % 65536 := by simp [IntKind.wrap, IntKind.signed, IntKind.bits]
theorem pwu8 (x : Int) : IntKind.u8.wrap x = x % 256 := by simp [IntKind.wrap, IntKind.signed, IntKind.bits]
theorem pwi64 {x : Int} (h1 : -9223372036854775808 ≤ x) (h2 : x ≤ 9223372036854775807) : IntKind.i64.wrap x = x := by
  simp only [IntKind.wrap, IntKind.signed, IntKind.bits]
  simp
  omega
theorem pu64 {x : Int} (h1 : 0 ≤ x) (h2 : x < 18446744073709551616) : IntKind.u64.wrap x = x := by rw [pwu64]; omega
theorem pu32 {x : Int} (h1 : 0 ≤ x) (h2 : x < 4294967296) : IntKind.u32.wrap x = x := by rw [pwu32]; omega
theorem pu16 {x : Int} (h1 : 0 ≤ x) (h2 : x < 65536) : IntKind.u16.wrap x = x := by rw [pwu16]; omega
theorem pu8 {x : Int} (h1 : 0 ≤ x) (h2 : x < 256) : IntKind.u8.wrap x = x := by rw [pwu8]; omega
theorem pofN (n : Nat) : ofN n = (n : Int) := rfl
theorem ptoN (n : Nat) : toN (n : Int) = n := rfl
theorem ptoN' (x : Int) : toN x = x.toNat := rfl
theorem pxlen {α : Type} (l : List α) : xlen l = l.length := rfl
/-- The next place. -/
theorem pnext {n : Nat} (h : n < 9223372036854775807) : iadd .i64 (n : Int) 1 = ((n + 1 : Nat) : Int) := by
  simp only [iadd]
  rw [pwi64] <;> omega
theorem pgetI {l : List Int} {n : Nat} (h : n < l.length) : getI l n = l[n] := by simp [getI, h]
theorem pgetD {l : List D} {n : Nat} (h : n < l.length) : getD l n = l[n] := by simp [getD, h]
theorem pgetB {l : List UInt8} {n : Nat} (h : n < l.length) : getB l n = ((l[n].toNat : Nat) : Int) := by simp [getB, h]
theorem pcopy {α : Type} (l : List α) (x : α) : lspl (lrep l.length x) 0 (lsub l 0 (nmin (xlen (lrep l.length x)) (xlen l))) = l := by
  simp [lspl, lrep, lsub, nmin, xlen]
theorem pimax (a b : Int) : imax a b = max a b := by
  unfold imax
  by_cases h : b > a
  · rw [if_pos h]; omega
  · rw [if_neg h]; omega
theorem pimin (a b : Int) : imin a b = min a b := by
  unfold imin
  by_cases h : b < a
  · rw [if_pos h]; omega
  · rw [if_neg h]; omega
end Go.Proofs.Ytcdjpciocamkiaa
end
section
/-
  What the functions of package block and its reference do, in plain words.
-/
set_option linter.unusedVariables false
set_option linter.unusedSimpArgs false
set_option maxRecDepth 10000
namespace Go.Proofs.Ytcdjpciocamkiaa

/-- The leaves of a block. -/
def fl (d : D) : List Int := (List.range 64).map fun j => D.toI (D.fld d j)
/-- A block that holds these bytes. -/
structure Is (d : D) (bs : List UInt8) : Prop where
  len : bs.length = 64
  at_ : ∀ j, j < 64 → D.toI (D.fld d j) = getB bs j
theorem u8lt (b : UInt8) : b.toNat < 256 := b.toNat_lt
theorem getB_rng (bs : List UInt8) (j : Nat) : 0 ≤ getB bs j ∧ getB bs j < 256 := by
  have := u8lt (bs.getD j 0)
  simp only [getB]
  omega
theorem allU8_of {l : List Int} (h : ∀ x ∈ l, 0 ≤ x ∧ x < 256) : allU8 l := by
  induction l with
  | nil => trivial
  | cons x l ih => exact ⟨h x (List.mem_cons_self ..), ih fun y hy => h y (List.mem_cons_of_mem _ hy)⟩
theorem bsL_map (l : List Int) : bsL l = l.map byteOf := by
  induction l with
  | nil => rfl
  | cons x l ih => rw [bsL, ih]; rfl
theorem byteOf_toNat (b : UInt8) : byteOf (b.toNat : Int) = b := by simp [byteOf]
theorem Is.ok {d : D} {bs : List UInt8} (h : Is d bs) : allU8 (fl d) ∧ bsL (fl d) = bs := by
  constructor
  · refine allU8_of fun x hx => ?_
    obtain ⟨j, hj, rfl⟩ := List.mem_map.1 hx
    rw [h.at_ j (by simpa using hj)]
    exact getB_rng _ _
  · rw [bsL_map]
    apply List.ext_getElem
    · simp [fl, h.len]
    · intro j h1 h2
      have hj : j < 64 := by rw [← h.len]; exact h2
      simp only [fl, List.getElem_map, List.getElem_range]
      rw [h.at_ j hj, pgetB h2, byteOf_toNat]
/-- A block of these bytes. -/
def arr64 (s : List UInt8) : D := .l ((List.range 64).map fun j => .i (D.toI (D.fld (getD [arrD s] 0) j)))
theorem fld_map {f : Nat → D} {n j : Nat} (h : j < n) : D.fld (.l ((List.range n).map f)) j = f j := by
  simp only [D.fld, D.toL]
  rw [List.getD_eq_getElem?_getD, List.getElem?_eq_getElem (by simpa using h)]
  simp
theorem arrD_fld {s : List UInt8} {j : Nat} (h : j < s.length) : D.toI (D.fld (arrD s) j) = getB s j := by
  simp only [arrD, D.fld, D.toL]
  rw [List.getD_eq_getElem?_getD, List.getElem?_eq_getElem (by simpa using h), pgetB h]
  simp [D.toI]
theorem Is.arr {s : List UInt8} (h : s.length = 64) : Is (arr64 s) s := by
  refine ⟨h, fun j hj => ?_⟩
  unfold arr64
  rw [fld_map hj]
  show D.toI (D.fld (arrD s) j) = _
  exact arrD_fld (by omega)
/-- A front is written over. -/
theorem Is.cp {d : D} {bs s : List UInt8} (h : Is d bs) (hs : s.length ≤ 64) : Is (cpA 64 d s) (s ++ bs.drop s.length) := by
  have hb := h.len
  refine ⟨by simp; omega, fun j hj => ?_⟩
  unfold cpA
  rw [fld_map hj]
  by_cases c : j < s.length
  · rw [if_pos c]
    rw [pgetB (by simp; omega), List.getElem_append_left c]
    simp [D.toI, c]
  · rw [if_neg c, h.at_ j hj, pgetB (by omega), pgetB (by simp; omega), List.getElem_append_right (by omega)]
    simp only [List.getElem_drop]
    congr 4
    omega
/-- Noughts. -/
def Z64 : D := .l ((List.range 64).map fun _ => .i 0)
def N64 : List UInt8 := List.replicate 64 0
theorem Is.zero : Is Z64 N64 := by
  refine ⟨by simp [N64], fun j hj => ?_⟩
  unfold Z64
  rw [fld_map hj, pgetB (by simp [N64]; omega)]
  simp only [N64, List.getElem_replicate]
  rfl

theorem new_eq (x : Int) : F_block_New x = if (ilt x 1) = true then some (.inl ()) else if (ilt 1024 x) = true then some (.inl ()) else
    if 0 ≤ x ∧ x ≤ x ∧ x * ((64 : Nat) : Int) ≤ 140737488355328 ∧ x ≤ 9223372036854775807 then some (.inr (lrep (toN x) Z64)) else none := rfl
theorem p_new {n : Nat} (h : 1 ≤ n ∧ n ≤ 1024) : F_block_New (n : Int) = some (.inr (List.replicate n Z64)) := by
  rw [new_eq, if_neg (by rw [pilt]; omega), if_neg (by rw [pilt]; omega), if_pos (by omega)]
  rfl
/-- Why a block can't be asked for. -/
def mayV (b : Bool) (n : Nat) (x : Int) : Int := if b = true then 3 else if x < 0 then 2 else if (n : Int) ≤ x then 2 else 0
theorem mayV0 {b : Bool} {n : Nat} {x : Int} (h : mayV b n x = 0) : b = false ∧ 0 ≤ x ∧ x < n := by
  unfold mayV at h
  cases b
  · simp only [Bool.false_eq_true, if_false] at h
    by_cases c1 : x < 0
    · rw [if_pos c1] at h; omega
    · rw [if_neg c1] at h
      by_cases c2 : (n : Int) ≤ x
      · rw [if_pos c2] at h; omega
      · exact ⟨rfl, by omega, by omega⟩
  · simp at h
theorem p_may (x : Int) (b : Bool) (y : Int) (r : List D) : F_block_Device_may x b y r = some (mayV b r.length x) := by
  unfold F_block_Device_may mayV
  cases b
  · simp only [Bool.false_eq_true, if_false]
    by_cases c1 : x < 0
    · rw [if_pos (by rw [pilt]; exact c1), if_pos c1]
    · rw [if_neg (by rw [pilt]; exact c1), if_neg c1]
      by_cases c2 : (r.length : Int) ≤ x
      · rw [if_pos (by rw [pile]; exact c2), if_pos c2]
      · rw [if_neg (by rw [pile]; exact c2), if_neg c2]
  · simp
theorem p_may2 (x : Int) (b : Bool) (y : Int) (r : List D) (z u : Int) : F_block_Device_may_2 x b y r z u = some (mayV b r.length x) := p_may x b y r

/-- What a device holds, told by the reference. -/
structure Rel (r q : List D) : Prop where
  len : r.length = q.length
  at_ : ∀ k, k < q.length → Is (getD r k) (D.toS (getD q k))
theorem read_eq (x : Int) (b : Bool) (y : Int) (r : List D) : F_block_Device_Read x b y r = match F_block_Device_may x b y r with
    | none => none
    | some v => if (ieq v 0) = true then if 0 ≤ x ∧ x < ofN (xlen r) then if allU8 (fl (getD r (toN x))) then some (0, bsL (fl (getD r (toN x)))) else none else none else some (v, []) := rfl
theorem read_eq3 (x : Int) (b : Bool) (y : Int) (r : List D) (z u : Int) : F_block_Device_Read_3 x b y r z u = match F_block_Device_may_2 x b y r z u with
    | none => none
    | some v => if (ieq v 0) = true then if 0 ≤ x ∧ x < ofN (xlen r) then if allU8 (fl (getD r (toN x))) then some (0, bsL (fl (getD r (toN x)))) else none else none else some (v, []) := rfl
/-- What is read. -/
def readV (b : Bool) (q : List D) (x : Int) : List UInt8 := if mayV b q.length x = 0 then D.toS (getD q (toN x)) else []
theorem p_read {r q : List D} (h : Rel r q) (x : Int) (b : Bool) (y : Int) : F_block_Device_Read x b y r = some (mayV b q.length x, readV b q x) := by
  have hl := h.len
  rw [read_eq, p_may, hl]
  simp only []
  unfold readV
  by_cases c : mayV b q.length x = 0
  · obtain ⟨_, h1, h2⟩ := mayV0 c
    have hi := (h.at_ (toN x) (by simp only [toN]; omega)).ok
    rw [if_pos (by rw [pieq]; exact c), if_pos (by simp only [ofN, xlen]; omega), if_pos hi.1, if_pos c, hi.2, c]
  · rw [if_neg (by rw [pieq]; exact c), if_neg c]
theorem p_read3 {r q : List D} (h : Rel r q) (x : Int) (b : Bool) (y z u : Int) : F_block_Device_Read_3 x b y r z u = some (mayV b q.length x, readV b q x) := p_read h x b y
theorem p_rread (b : Bool) (x1 x2 x3 x : Int) (q : List D) : F_tollbarref31_Read b x1 x2 x3 x q = some (readV b q x, mayV b q.length x) := by
  unfold F_tollbarref31_Read readV mayV
  cases b
  · simp only [Bool.false_eq_true, if_false]
    by_cases c1 : x < 0
    · rw [if_pos (by rw [pilt]; exact c1), if_pos c1]; rfl
    · rw [if_neg (by rw [pilt]; exact c1), if_neg c1]
      by_cases c2 : (q.length : Int) ≤ x
      · rw [if_pos (by rw [pile]; exact c2), if_pos c2]; rfl
      · rw [if_neg (by rw [pile]; exact c2), if_neg c2, if_pos (by simp only [ofN, xlen]; omega)]; rfl
  · rfl
theorem p_with {q : List D} {x : Int} (s : List UInt8) (h : 0 ≤ x ∧ x < q.length) (hq : q.length ≤ 2000) : F_tollbarref31_with q x s = some (setD q (toN x) (.s s)) := by
  unfold F_tollbarref31_with
  rw [if_pos (by simp only [xlen]; omega), if_pos (by simp only [ofN, xlen]; omega)]
theorem Rel.set {r q : List D} (h : Rel r q) {k : Nat} (hk : k < q.length) {d : D} {s : List UInt8} (hi : Is d s) : Rel (setD r k d) (setD q k (.s s)) := by
  have hl := h.len
  refine ⟨by simp [setD, hl], fun j hj => ?_⟩
  have hj' : j < q.length := by simpa [setD] using hj
  by_cases e : j = k
  · subst e
    have e1 : getD (setD r j d) j = d := by simp [getD, setD, hl, hk]
    have e2 : getD (setD q j (.s s)) j = .s s := by simp [getD, setD, hk]
    rw [e1, e2]
    exact hi
  · have e1 : getD (setD r k d) j = getD r j := by simp [getD, setD, List.getElem?_set_ne (Ne.symm e)]
    have e2 : getD (setD q k (.s s)) j = getD q j := by simp [getD, setD, List.getElem?_set_ne (Ne.symm e)]
    rw [e1, e2]
    exact h.at_ j hj'
theorem write_eq (x : Int) (s : List UInt8) (b : Bool) (y : Int) (r : List D) : F_block_Device_Write x s b y r = match F_block_Device_may x b y r with
    | none => none
    | some v => if (ieq v 0) = true then if (ieq (ofN (xlen s)) 64) = true then if 64 ≤ xlen s then if 0 ≤ x ∧ x < ofN (xlen r) then
        some (0, iadd .i64 y 1, setD r (toN x) (arr64 s)) else none else none else some (1, y, r) else some (v, y, r) := rfl
theorem write_eq2 (x : Int) (s : List UInt8) (b : Bool) (y : Int) (r : List D) (z u : Int) : F_block_Device_Write_2 x s b y r z u = match F_block_Device_may_2 x b y r z u with
    | none => none
    | some v => if (ieq v 0) = true then if (ieq (ofN (xlen s)) 64) = true then
        if (ieq z 0) = true then if 0 ≤ x ∧ x < ofN (xlen r) then if 0 ≤ u ∧ u ≤ ofN (xlen s) then some (.inr (setD r (toN x) (cpA 64 (getD r (toN x)) (lsub s 0 (toN u))))) else none else none
        else if 64 ≤ xlen s then if 0 ≤ x ∧ x < ofN (xlen r) then
          some (.inl (0, iadd .i64 y 1, setD r (toN x) (arr64 s), isub .i64 z 1)) else none else none else some (.inl (1, y, r, z)) else some (.inl (v, y, r, z)) := rfl
/-- What a write tells, without a tear. -/
def wV (b : Bool) (n : Nat) (x : Int) (s : List UInt8) : Int := if mayV b n x = 0 then if s.length = 64 then 0 else 1 else mayV b n x
theorem wV0 {b : Bool} {n : Nat} {x : Int} {s : List UInt8} (h : wV b n x s = 0) : b = false ∧ 0 ≤ x ∧ x < n ∧ s.length = 64 := by
  unfold wV at h
  by_cases c : mayV b n x = 0
  · rw [if_pos c] at h
    obtain ⟨h1, h2, h3⟩ := mayV0 c
    by_cases c2 : s.length = 64
    · exact ⟨h1, h2, h3, c2⟩
    · rw [if_neg c2] at h; omega
  · rw [if_neg c] at h; exact absurd h c
theorem wV_of {n : Nat} {x : Int} {s : List UInt8} (h1 : 0 ≤ x) (h2 : x < n) (h3 : s.length = 64) : wV false n x s = 0 := by
  unfold wV mayV
  simp [h3]
  omega
theorem p_write (x : Int) (s : List UInt8) (b : Bool) (y : Int) (r : List D) :
    F_block_Device_Write x s b y r = if wV b r.length x s = 0 then some (0, iadd .i64 y 1, setD r (toN x) (arr64 s)) else some (wV b r.length x s, y, r) := by
  rw [write_eq, p_may]
  simp only []
  unfold wV
  by_cases c : mayV b r.length x = 0
  · obtain ⟨_, h1, h2⟩ := mayV0 c
    rw [if_pos (by rw [pieq]; exact c), if_pos c]
    by_cases c2 : s.length = 64
    · rw [if_pos (by rw [pieq]; simp only [ofN, xlen]; omega), if_pos (by simp only [xlen]; omega), if_pos (by simp only [ofN, xlen]; omega), if_pos c2, if_pos rfl]
    · rw [if_neg (by rw [pieq]; simp only [ofN, xlen]; omega), if_neg c2, if_neg (by omega)]
  · rw [if_neg (by rw [pieq]; exact c), if_neg c, if_neg c]
theorem p_write2 (x : Int) (s : List UInt8) (b : Bool) (y : Int) (r : List D) (z u : Int) (hu : 0 ≤ u ∧ u ≤ 64) :
    F_block_Device_Write_2 x s b y r z u = if wV b r.length x s = 0 then if z = 0 then some (.inr (setD r (toN x) (cpA 64 (getD r (toN x)) (s.take (toN u))))) else some (.inl (0, iadd .i64 y 1, setD r (toN x) (arr64 s), isub .i64 z 1))
      else some (.inl (wV b r.length x s, y, r, z)) := by
  rw [write_eq2, p_may2]
  simp only []
  unfold wV
  by_cases c : mayV b r.length x = 0
  · obtain ⟨_, h1, h2⟩ := mayV0 c
    rw [if_pos (by rw [pieq]; exact c), if_pos c]
    by_cases c2 : s.length = 64
    · rw [if_pos (by rw [pieq]; simp only [ofN, xlen]; omega), if_pos c2, if_pos rfl]
      by_cases c3 : z = 0
      · rw [if_pos (by rw [pieq]; exact c3), if_pos (by simp only [ofN, xlen]; omega), if_pos (by simp only [ofN, xlen]; omega), if_pos c3]
        rfl
      · rw [if_neg (by rw [pieq]; exact c3), if_pos (by simp only [xlen]; omega), if_pos (by simp only [ofN, xlen]; omega), if_neg c3]
    · rw [if_neg (by rw [pieq]; simp only [ofN, xlen]; omega), if_neg c2, if_neg (by omega)]
  · rw [if_neg (by rw [pieq]; exact c), if_neg c, if_neg c]
/-- The reference's write. -/
theorem p_rwrite {q : List D} (b : Bool) (x1 x2 x3 x : Int) (s : List UInt8) (hq : q.length ≤ 2000) (hq64 : ∀ k, k < q.length → (D.toS (getD q k)).length = 64) (h2 : x1 = 0 → 0 ≤ x2 ∧ x2 ≤ 64) :
    F_tollbarref31_Write b x1 x2 x3 x s q = if wV b q.length x s = 0 then
        if x1 = 0 then some (true, -1, 0, x3, 3, setD q (toN x) (.s (s.take (toN x2) ++ (D.toS (getD q (toN x))).drop (toN x2))))
        else some (b, (if 0 < x1 then isub .i64 x1 1 else x1), x2, iadd .i64 x3 1, 0, setD q (toN x) (.s s))
      else some (b, x1, x2, x3, wV b q.length x s, q) := by
  unfold F_tollbarref31_Write
  rw [p_rread]
  simp only []
  unfold wV
  by_cases c : mayV b q.length x = 0
  · obtain ⟨_, g1, g2⟩ := mayV0 c
    rw [if_pos (by rw [pieq]; exact c), if_pos c]
    by_cases c2 : s.length = 64
    · rw [if_pos (by rw [pieq]; simp only [ofN, xlen]; omega), if_pos (by rw [pieq]; exact c), if_pos c2, if_pos rfl]
      by_cases c3 : x1 = 0
      · have h64 := hq64 (toN x) (by simp only [toN]; omega)
        obtain ⟨k1, k2⟩ := h2 c3
        have e1 : lsub s 0 (toN x2) = s.take (toN x2) := rfl
        have e2 : lsub (D.toS (getD q (toN x))) (toN x2) (ndec (xlen (D.toS (getD q (toN x)))) (toN x2)) = (D.toS (getD q (toN x))).drop (toN x2) := by
          simp only [lsub, ndec, xlen]
          exact List.take_of_length_le (by simp)
        rw [if_pos (by rw [pieq]; exact c3), if_pos (by simp only [ofN, xlen]; omega), if_pos (by simp only [ofN, xlen]; omega), if_pos (by simp only [ofN, xlen]; omega), e1, e2,
          if_pos (by simp only [xlen, List.length_take, List.length_drop]; omega), p_with _ ⟨g1, g2⟩ hq, if_pos c3]
        rfl
      · rw [if_neg (by rw [pieq]; exact c3), p_with _ ⟨g1, g2⟩ hq, if_neg c3]
        simp only []
        by_cases c4 : 0 < x1
        · rw [if_pos (by rw [pilt]; exact c4), if_pos c4]
        · rw [if_neg (by rw [pilt]; exact c4), if_neg c4]
    · rw [if_neg (by rw [pieq]; simp only [ofN, xlen]; omega), if_neg (by rw [pieq]; omega), if_neg c2, if_neg (by omega)]
  · rw [if_neg (by rw [pieq]; exact c), if_neg (by rw [pieq]; exact c), if_neg c, if_neg c]
end Go.Proofs.Ytcdjpciocamkiaa
end
section
/-
  What is known of arguments: their numbers fit.
-/
set_option linter.unusedVariables false
set_option linter.unusedSimpArgs false
namespace Go.Proofs.Ytcdjpciocamkiaa
theorem wf_U {x : Int} (h : (Lit.int .u64 x).wf = true) : U x := by
  have : 0 ≤ x ∧ x ≤ 18446744073709551615 := by simpa [Lit.wf, IntKind.min, IntKind.max, IntKind.signed, IntKind.bits, Int.lt_add_one_iff, Int.le_sub_one_iff] using h
  unfold U; omega
theorem wf_u32 {x : Int} (h : (Lit.int .u32 x).wf = true) : 0 ≤ x ∧ x < 4294967296 := by
  have : 0 ≤ x ∧ x ≤ 4294967295 := by simpa [Lit.wf, IntKind.min, IntKind.max, IntKind.signed, IntKind.bits, Int.lt_add_one_iff, Int.le_sub_one_iff] using h
  omega
theorem wf_u16 {x : Int} (h : (Lit.int .u16 x).wf = true) : 0 ≤ x ∧ x < 65536 := by
  have : 0 ≤ x ∧ x ≤ 65535 := by simpa [Lit.wf, IntKind.min, IntKind.max, IntKind.signed, IntKind.bits, Int.lt_add_one_iff, Int.le_sub_one_iff] using h
  omega
theorem wf_u8 {x : Int} (h : (Lit.int .u8 x).wf = true) : 0 ≤ x ∧ x < 256 := by
  have : 0 ≤ x ∧ x ≤ 255 := by simpa [Lit.wf, IntKind.min, IntKind.max, IntKind.signed, IntKind.bits, Int.lt_add_one_iff, Int.le_sub_one_iff] using h
  omega
theorem wf_i64 {x : Int} (h : (Lit.int .i64 x).wf = true) : -9223372036854775808 ≤ x ∧ x ≤ 9223372036854775807 := by
  simpa [Lit.wf, IntKind.min, IntKind.max, IntKind.signed, IntKind.bits, Int.lt_add_one_iff, Int.le_sub_one_iff] using h
end Go.Proofs.Ytcdjpciocamkiaa
end
section
/-
  BlockDoes, in plain words.
-/
set_option linter.unusedVariables false
set_option linter.unusedSimpArgs false
set_option maxRecDepth 10000
namespace Go.Proofs.Ytcdjpciocamkiaa

theorem p_awake : F_tollbarlaw31_awake = some true := by
  decide +kernel
theorem p_noughts : F_tollbarref31_noughts = some N64 := by
  unfold F_tollbarref31_noughts
  rw [if_pos (by decide)]
  rfl
theorem p_rnew_loop {n : Nat} (hn : n ≤ 2000) : ∀ (m i : Nat) (r : List D), i + m = n → r.length = i → (∀ k, k < i → getD r k = .s N64) →
    ∃ q, iter (F_tollbarref31_New_L1 (n : Int)) ((i : Int), r) = some q ∧ q.length = n ∧ ∀ k, k < n → getD q k = .s N64 := by
  intro m
  induction m with
  | zero =>
    intro i r hi hl hr
    refine ⟨r, iter_inr ?_, by omega, fun k hk => hr k (by omega)⟩
    unfold F_tollbarref31_New_L1
    dsimp only
    rw [if_neg (by rw [pilt]; omega)]
  | succ m ih =>
    intro i r hi hl hr
    obtain ⟨q, e1, e2, e3⟩ := ih (i + 1) (r ++ [.s N64]) (by omega) (by simp [hl]) (fun k hk => by
      by_cases h : k < i
      · rw [← hr k h]; simp [getD, List.getElem?_append_left, hl, h]
      · have : k = i := by omega
        subst this
        simp [getD, ← hl])
    refine ⟨q, ?_, e2, e3⟩
    rw [← e1]
    apply iter_inl
    unfold F_tollbarref31_New_L1
    dsimp only
    rw [if_pos (by rw [pilt]; omega), p_noughts]
    dsimp only
    rw [if_pos (by simp only [xlen, List.length_singleton]; omega), pnext (by omega)]
    rfl
theorem p_rnew {n : Nat} (hn : n ≤ 2000) : ∃ q, F_tollbarref31_New (n : Int) = some q ∧ q.length = n ∧ ∀ k, k < n → getD q k = .s N64 :=
  p_rnew_loop hn n 0 [] (by omega) rfl (fun k hk => by omega)
theorem Rel.start {n : Nat} {q : List D} (hl : q.length = n) (h : ∀ k, k < n → getD q k = .s N64) : Rel (List.replicate n Z64) q := by
  refine ⟨by simp [hl], fun k hk => ?_⟩
  have e1 : getD (List.replicate n Z64) k = Z64 := by simp [getD, ← hl, hk]
  rw [e1, h k (by omega)]
  exact Is.zero
theorem Rel.l64 {r q : List D} (h : Rel r q) : ∀ k, k < q.length → (D.toS (getD q k)).length = 64 := fun k hk => (h.at_ k hk).len

/-- All blocks are read. -/
theorem does_end4 {n : Nat} {r q : List D} {y : Int} (hR : Rel r q) (hq : q.length = n) (hn : n ≤ 2000) : ∀ (m i : Nat), i + m = n → iter (F_tollbarlaw31_BlockDoes_L4 (n : Int) y r q) (i : Int) = some true := by
  intro m
  induction m with
  | zero =>
    intro i hi
    apply iter_inr
    unfold F_tollbarlaw31_BlockDoes_L4
    rw [if_neg (by rw [pilt]; omega)]
  | succ m ih =>
    intro i hi
    rw [← ih (i + 1) (by omega)]
    apply iter_inl
    have hm : mayV false q.length (i : Int) = 0 := by unfold mayV; simp; omega
    have hr : readV false q (i : Int) = D.toS (getD q (toN (i : Int))) := by unfold readV; rw [if_pos hm]
    unfold F_tollbarlaw31_BlockDoes_L4
    rw [if_pos (by rw [pilt]; omega), p_read hR, hm, hr]
    dsimp only
    rw [if_pos (by rw [pieq]), if_pos (by simp only [ofN, xlen]; omega), if_pos (by rw [pseq]), pnext (by omega)]
theorem does_end5 {n : Nat} {r q : List D} {y : Int} (hR : Rel r q) (hq : q.length = n) (hn : n ≤ 2000) (i : Nat) (hi : i ≤ n) : iter (F_tollbarlaw31_BlockDoes_L5 (n : Int) y r q) (i : Int) = some true := by
  have e : F_tollbarlaw31_BlockDoes_L5 (n : Int) y r q = F_tollbarlaw31_BlockDoes_L4 (n : Int) y r q := rfl
  rw [e]
  exact does_end4 hR hq hn (n - i) i (by omega)

theorem armV (b : Bool) (x1 x2 x3 x4 x5 : Int) (q : List D) : F_tollbarref31_Arm b x1 x2 x3 x4 x5 q = if x4 < 0 ∨ x5 < 0 ∨ 64 < x5 then some (x1, x2, 1) else some (x4, x5, 0) := by
  unfold F_tollbarref31_Arm
  by_cases c1 : x4 < 0
  · rw [if_pos (by rw [pilt]; exact c1), if_pos (.inl c1)]
  · rw [if_neg (by rw [pilt]; exact c1)]
    by_cases c2 : x5 < 0
    · rw [if_pos (by rw [pilt]; exact c2), if_pos (.inr (.inl c2))]
    · rw [if_neg (by rw [pilt]; exact c2)]
      by_cases c3 : 64 < x5
      · rw [if_pos (by rw [pilt]; exact c3), if_pos (.inr (.inr c3))]
      · rw [if_neg (by rw [pilt]; exact c3), if_neg (by omega)]
theorem armD (x1 x2 : Int) (b : Bool) (x3 : Int) (r : List D) : F_block_Device_Arm x1 x2 b x3 r = if x1 < 0 ∨ x2 < 0 ∨ 64 < x2 then some (.inl ()) else some (.inr ()) := by
  unfold F_block_Device_Arm
  by_cases c1 : x1 < 0
  · rw [if_pos (by rw [pilt]; exact c1), if_pos (.inl c1)]
  · rw [if_neg (by rw [pilt]; exact c1)]
    by_cases c2 : x2 < 0
    · rw [if_pos (by rw [pilt]; exact c2), if_pos (.inr (.inl c2))]
    · rw [if_neg (by rw [pilt]; exact c2)]
      by_cases c3 : 64 < x2
      · rw [if_pos (by rw [pilt]; exact c3), if_pos (.inr (.inr c3))]
      · rw [if_neg (by rw [pilt]; exact c3), if_neg (by omega)]
theorem armD3 (x1 x2 : Int) (b : Bool) (x3 : Int) (r : List D) (x4 x5 : Int) : F_block_Device_Arm_3 x1 x2 b x3 r x4 x5 = if x1 < 0 ∨ x2 < 0 ∨ 64 < x2 then some (1, x4, x5) else some (0, x1, x2) := by
  unfold F_block_Device_Arm_3
  by_cases c1 : x1 < 0
  · rw [if_pos (by rw [pilt]; exact c1), if_pos (.inl c1)]
  · rw [if_neg (by rw [pilt]; exact c1)]
    by_cases c2 : x2 < 0
    · rw [if_pos (by rw [pilt]; exact c2), if_pos (.inr (.inl c2))]
    · rw [if_neg (by rw [pilt]; exact c2)]
      by_cases c3 : 64 < x2
      · rw [if_pos (by rw [pilt]; exact c3), if_pos (.inr (.inr c3))]
      · rw [if_neg (by rw [pilt]; exact c3), if_neg (by omega)]

/-- A step's number of writes fits. -/
def StepsOk (r1 : List D) : Prop := ∀ k, k < r1.length → D.toI (D.fld (getD r1 k) 1) ≤ 9223372036854775807
theorem does_loop {r1 : List D} (hs : StepsOk r1) (hr1 : r1.length ≤ 1000) {n : Nat} (hn : n ≤ 2000) : ∀ (m i : Nat), i + m = r1.length →
    (∀ (b : Bool) (x y : Int) (r q : List D), Rel r q → q.length = n → iter (F_tollbarlaw31_BlockDoes_L3 r1) (.inl ((n : Int), (i : Int), b, x, b, -1, y, x, r, q)) = some true) ∧
    (∀ (b : Bool) (x z u : Int) (r q : List D), Rel r q → q.length = n → 0 ≤ z → z ≤ 9223372036854775807 → 0 ≤ u → u ≤ 64 → iter (F_tollbarlaw31_BlockDoes_L3 r1) (.inr ((n : Int), (i : Int), b, x, b, z, u, x, r, z, u, q)) = some true) := by
  intro m
  have he : ∀ x : Int, ieq x x = true := fun x => by rw [pieq]
  have hb2 : ∀ x : Bool, beq2 x x = true := fun x => by rw [pbeq2]
  have hsq : ∀ x : List UInt8, seq x x = true := fun x => by rw [pseq]
  induction m with
  | zero =>
    intro i hi
    constructor
    · intro b x y r q hR hq
      apply iter_inr
      unfold F_tollbarlaw31_BlockDoes_L3
      dsimp only
      rw [if_neg (by rw [pilt]; simp only [ofN, xlen]; omega)]
      unfold F_block_Device_Up
      dsimp only
      rw [show (0 : Int) = ((0 : Nat) : Int) from rfl, does_end4 hR hq hn n 0 (by omega)]
      rfl
    · intro b x z u r q hR hq _ _ _ _
      apply iter_inr
      unfold F_tollbarlaw31_BlockDoes_L3
      dsimp only
      rw [if_neg (by rw [pilt]; simp only [ofN, xlen]; omega)]
      unfold F_block_Device_Up_2
      dsimp only
      rw [show (0 : Int) = ((0 : Nat) : Int) from rfl, does_end5 hR hq hn 0 (by omega)]
      rfl
  | succ m ih =>
    intro i hi
    obtain ⟨ih1, ih2⟩ := ih (i + 1) (by omega)
    have hS := hs i (by omega)
    obtain ⟨S, eS⟩ : ∃ S, S = getD r1 i := ⟨_, rfl⟩
    rw [← eS] at hS
    obtain ⟨K, eK⟩ : ∃ K, K = D.toI (D.fld S 0) := ⟨_, rfl⟩
    obtain ⟨A, eA⟩ : ∃ A, A = D.toI (D.fld S 1) := ⟨_, rfl⟩
    obtain ⟨P, eP⟩ : ∃ P, P = D.toI (D.fld S 2) := ⟨_, rfl⟩
    obtain ⟨B, eB⟩ : ∃ B, B = D.toS (D.fld S 3) := ⟨_, rfl⟩
    rw [← eA] at hS
    have eN : iadd .i64 (i : Int) 1 = ((i + 1 : Nat) : Int) := pnext (by omega)
    constructor
    · intro b x y r q hR hq
      have hrl : r.length = q.length := hR.len
      by_cases c0 : 100 < (B.length : Int)
      · apply iter_inr
        unfold F_tollbarlaw31_BlockDoes_L3
        dsimp only
        rw [ptoN, ← eS, ← eB, if_pos (by rw [pilt]; simp only [ofN, xlen]; omega), if_pos (by simp only [ofN, xlen]; omega), if_pos (by rw [pilt]; simp only [ofN, xlen]; omega)]
      · by_cases k0 : K = 0
        · -- a write
          by_cases cw : wV b q.length A B = 0
          · obtain ⟨g1, g2, g3, g4⟩ := wV0 cw
            rw [← ih1 b (iadd .i64 x 1) y (setD r (toN A) (arr64 B)) (setD q (toN A) (.s B)) (hR.set (by simp only [toN]; omega) (Is.arr g4)) (by simp [setD, hq])]
            apply iter_inl
            unfold F_tollbarlaw31_BlockDoes_L3
            dsimp only
            rw [ptoN, ← eS, ← eB, ← eK, ← eA, if_pos (by rw [pilt]; simp only [ofN, xlen]; omega), if_pos (by simp only [ofN, xlen]; omega), if_neg (by rw [pilt]; simp only [ofN, xlen]; omega), if_pos (by rw [pieq]; exact k0),
              p_rwrite _ _ _ _ _ _ (by omega) hR.l64 (fun h => by omega), if_pos cw, if_neg (by omega), if_neg (by omega)]
            dsimp only
            rw [p_write, hrl, if_pos cw]
            dsimp only
            unfold F_block_Device_Down F_block_Device_Writes
            dsimp only
            rw [if_pos (he _), if_pos (hb2 _), if_pos (he _), eN]
          · rw [← ih1 b x y r q hR hq]
            apply iter_inl
            unfold F_tollbarlaw31_BlockDoes_L3
            dsimp only
            rw [ptoN, ← eS, ← eB, ← eK, ← eA, if_pos (by rw [pilt]; simp only [ofN, xlen]; omega), if_pos (by simp only [ofN, xlen]; omega), if_neg (by rw [pilt]; simp only [ofN, xlen]; omega), if_pos (by rw [pieq]; exact k0),
              p_rwrite _ _ _ _ _ _ (by omega) hR.l64 (fun h => by omega), if_neg cw]
            dsimp only
            rw [p_write, hrl, if_neg cw]
            dsimp only
            unfold F_block_Device_Down F_block_Device_Writes
            dsimp only
            rw [if_pos (he _), if_pos (hb2 _), if_pos (he _), eN]
        · by_cases k1 : K = 1
          · rw [← ih1 b x y r q hR hq]
            apply iter_inl
            unfold F_tollbarlaw31_BlockDoes_L3
            dsimp only
            rw [ptoN, ← eS, ← eB, ← eK, ← eA, if_pos (by rw [pilt]; simp only [ofN, xlen]; omega), if_pos (by simp only [ofN, xlen]; omega), if_neg (by rw [pilt]; simp only [ofN, xlen]; omega), if_neg (by rw [pieq]; exact k0), if_pos (by rw [pieq]; exact k1), p_read hR, p_rread]
            dsimp only
            unfold F_block_Device_Down F_block_Device_Writes
            dsimp only
            rw [if_pos (hsq _), if_pos (he _), if_pos (hb2 _), if_pos (he _), eN]
          · by_cases k2 : K = 2
            · by_cases ca : A < 0 ∨ P < 0 ∨ 64 < P
              · rw [← ih1 b x y r q hR hq]
                apply iter_inl
                unfold F_tollbarlaw31_BlockDoes_L3
                dsimp only
                rw [ptoN, ← eS, ← eB, ← eK, ← eA, ← eP, if_pos (by rw [pilt]; simp only [ofN, xlen]; omega), if_pos (by simp only [ofN, xlen]; omega), if_neg (by rw [pilt]; simp only [ofN, xlen]; omega), if_neg (by rw [pieq]; exact k0), if_neg (by rw [pieq]; exact k1), if_pos (by rw [pieq]; exact k2), armV, if_pos ca]
                dsimp only
                rw [armD, if_pos ca]
                dsimp only
                unfold F_block_Device_Down F_block_Device_Writes
                dsimp only
                rw [if_pos (he _), if_pos (hb2 _), if_pos (he _), eN]
              · rw [← ih2 b x A P r q hR hq (by omega) hS (by omega) (by omega)]
                apply iter_inl
                unfold F_tollbarlaw31_BlockDoes_L3
                dsimp only
                rw [ptoN, ← eS, ← eB, ← eK, ← eA, ← eP, if_pos (by rw [pilt]; simp only [ofN, xlen]; omega), if_pos (by simp only [ofN, xlen]; omega), if_neg (by rw [pilt]; simp only [ofN, xlen]; omega), if_neg (by rw [pieq]; exact k0), if_neg (by rw [pieq]; exact k1), if_pos (by rw [pieq]; exact k2), armV, if_neg ca]
                dsimp only
                rw [armD, if_neg ca]
                dsimp only
                unfold F_block_Device_Down_2 F_block_Device_Writes_3
                dsimp only
                rw [if_pos (he _), if_pos (hb2 _), if_pos (he _), eN]
            · by_cases k3 : K = 3
              · rw [← ih1 false x 0 r q hR hq]
                apply iter_inl
                unfold F_tollbarlaw31_BlockDoes_L3
                dsimp only
                rw [ptoN, ← eS, ← eB, ← eK, ← eA, ← eP, if_pos (by rw [pilt]; simp only [ofN, xlen]; omega), if_pos (by simp only [ofN, xlen]; omega), if_neg (by rw [pilt]; simp only [ofN, xlen]; omega), if_neg (by rw [pieq]; exact k0), if_neg (by rw [pieq]; exact k1), if_neg (by rw [pieq]; exact k2), if_pos (by rw [pieq]; exact k3)]
                unfold F_block_Device_Up F_tollbarref31_Up F_block_Device_Down F_block_Device_Writes
                dsimp only
                rw [if_pos (hb2 _), if_pos (he _), eN]
              · rw [← ih1 b x y r q hR hq]
                apply iter_inl
                unfold F_tollbarlaw31_BlockDoes_L3
                dsimp only
                rw [ptoN, ← eS, ← eB, ← eK, ← eA, ← eP, if_pos (by rw [pilt]; simp only [ofN, xlen]; omega), if_pos (by simp only [ofN, xlen]; omega), if_neg (by rw [pilt]; simp only [ofN, xlen]; omega), if_neg (by rw [pieq]; exact k0), if_neg (by rw [pieq]; exact k1), if_neg (by rw [pieq]; exact k2), if_neg (by rw [pieq]; exact k3)]
                unfold F_block_Device_Down F_block_Device_Writes
                dsimp only
                rw [if_pos (hb2 _), if_pos (he _), eN]
    · intro b x z u r q hR hq hz hz2 hu hu2
      have hrl : r.length = q.length := hR.len
      by_cases c0 : 100 < (B.length : Int)
      · apply iter_inr
        unfold F_tollbarlaw31_BlockDoes_L3
        dsimp only
        rw [ptoN, ← eS, ← eB, if_pos (by rw [pilt]; simp only [ofN, xlen]; omega), if_pos (by simp only [ofN, xlen]; omega), if_pos (by rw [pilt]; simp only [ofN, xlen]; omega)]
      · by_cases k0 : K = 0
        · -- a write
          by_cases cw : wV b q.length A B = 0
          · obtain ⟨g1, g2, g3, g4⟩ := wV0 cw
            by_cases cz : z = 0
            · have hk : toN A < q.length := by simp only [toN]; omega
              have hI := (hR.at_ _ hk).cp (s := B.take (toN u)) (by rw [List.length_take]; omega)
              have hlen : (B.take (toN u)).length = toN u := by rw [List.length_take]; simp only [toN]; omega
              rw [hlen] at hI
              rw [← ih1 true x 0 (setD r (toN A) (cpA 64 (getD r (toN A)) (B.take (toN u)))) (setD q (toN A) (.s (B.take (toN u) ++ (D.toS (getD q (toN A))).drop (toN u)))) (hR.set hk hI) (by simp [setD, hq])]
              apply iter_inl
              unfold F_tollbarlaw31_BlockDoes_L3
              dsimp only
              rw [ptoN, ← eS, ← eB, ← eK, ← eA, if_pos (by rw [pilt]; simp only [ofN, xlen]; omega), if_pos (by simp only [ofN, xlen]; omega), if_neg (by rw [pilt]; simp only [ofN, xlen]; omega), if_pos (by rw [pieq]; exact k0),
                p_rwrite _ _ _ _ _ _ (by omega) hR.l64 (fun h => ⟨hu, hu2⟩), if_pos cw, if_pos cz]
              dsimp only
              rw [p_write2 _ _ _ _ _ _ _ ⟨hu, hu2⟩, hrl, if_pos cw, if_pos cz]
              dsimp only
              unfold F_block_Device_Down F_block_Device_Writes
              dsimp only
              rw [if_pos (he _), if_pos (hb2 _), if_pos (he _), eN]
            · have hz3 : isub .i64 z 1 = z - 1 := by simp only [isub]; rw [pwi64 (by omega) (by omega)]
              rw [← ih2 b (iadd .i64 x 1) (isub .i64 z 1) u (setD r (toN A) (arr64 B)) (setD q (toN A) (.s B)) (hR.set (by simp only [toN]; omega) (Is.arr g4)) (by simp [setD, hq]) (by omega) (by omega) hu hu2]
              apply iter_inl
              unfold F_tollbarlaw31_BlockDoes_L3
              dsimp only
              rw [ptoN, ← eS, ← eB, ← eK, ← eA, if_pos (by rw [pilt]; simp only [ofN, xlen]; omega), if_pos (by simp only [ofN, xlen]; omega), if_neg (by rw [pilt]; simp only [ofN, xlen]; omega), if_pos (by rw [pieq]; exact k0),
                p_rwrite _ _ _ _ _ _ (by omega) hR.l64 (fun h => ⟨hu, hu2⟩), if_pos cw, if_neg cz, if_pos (by omega)]
              dsimp only
              rw [p_write2 _ _ _ _ _ _ _ ⟨hu, hu2⟩, hrl, if_pos cw, if_neg cz]
              dsimp only
              unfold F_block_Device_Down_2 F_block_Device_Writes_3
              dsimp only
              rw [if_pos (he _), if_pos (hb2 _), if_pos (he _), eN]
          · rw [← ih2 b x z u r q hR hq hz hz2 hu hu2]
            apply iter_inl
            unfold F_tollbarlaw31_BlockDoes_L3
            dsimp only
            rw [ptoN, ← eS, ← eB, ← eK, ← eA, if_pos (by rw [pilt]; simp only [ofN, xlen]; omega), if_pos (by simp only [ofN, xlen]; omega), if_neg (by rw [pilt]; simp only [ofN, xlen]; omega), if_pos (by rw [pieq]; exact k0),
              p_rwrite _ _ _ _ _ _ (by omega) hR.l64 (fun h => ⟨hu, hu2⟩), if_neg cw]
            dsimp only
            rw [p_write2 _ _ _ _ _ _ _ ⟨hu, hu2⟩, hrl, if_neg cw]
            dsimp only
            unfold F_block_Device_Down_2 F_block_Device_Writes_3
            dsimp only
            rw [if_pos (he _), if_pos (hb2 _), if_pos (he _), eN]
        · by_cases k1 : K = 1
          · rw [← ih2 b x z u r q hR hq hz hz2 hu hu2]
            apply iter_inl
            unfold F_tollbarlaw31_BlockDoes_L3
            dsimp only
            rw [ptoN, ← eS, ← eB, ← eK, ← eA, if_pos (by rw [pilt]; simp only [ofN, xlen]; omega), if_pos (by simp only [ofN, xlen]; omega), if_neg (by rw [pilt]; simp only [ofN, xlen]; omega), if_neg (by rw [pieq]; exact k0), if_pos (by rw [pieq]; exact k1), p_read3 hR, p_rread]
            dsimp only
            unfold F_block_Device_Down_2 F_block_Device_Writes_3
            dsimp only
            rw [if_pos (hsq _), if_pos (he _), if_pos (hb2 _), if_pos (he _), eN]
          · by_cases k2 : K = 2
            · by_cases ca : A < 0 ∨ P < 0 ∨ 64 < P
              · rw [← ih2 b x z u r q hR hq hz hz2 hu hu2]
                apply iter_inl
                unfold F_tollbarlaw31_BlockDoes_L3
                dsimp only
                rw [ptoN, ← eS, ← eB, ← eK, ← eA, ← eP, if_pos (by rw [pilt]; simp only [ofN, xlen]; omega), if_pos (by simp only [ofN, xlen]; omega), if_neg (by rw [pilt]; simp only [ofN, xlen]; omega), if_neg (by rw [pieq]; exact k0), if_neg (by rw [pieq]; exact k1), if_pos (by rw [pieq]; exact k2), armV, if_pos ca]
                dsimp only
                rw [armD3, if_pos ca]
                dsimp only
                unfold F_block_Device_Down_2 F_block_Device_Writes_3
                dsimp only
                rw [if_pos (he _), if_pos (hb2 _), if_pos (he _), eN]
              · rw [← ih2 b x A P r q hR hq (by omega) hS (by omega) (by omega)]
                apply iter_inl
                unfold F_tollbarlaw31_BlockDoes_L3
                dsimp only
                rw [ptoN, ← eS, ← eB, ← eK, ← eA, ← eP, if_pos (by rw [pilt]; simp only [ofN, xlen]; omega), if_pos (by simp only [ofN, xlen]; omega), if_neg (by rw [pilt]; simp only [ofN, xlen]; omega), if_neg (by rw [pieq]; exact k0), if_neg (by rw [pieq]; exact k1), if_pos (by rw [pieq]; exact k2), armV, if_neg ca]
                dsimp only
                rw [armD3, if_neg ca]
                dsimp only
                unfold F_block_Device_Down_2 F_block_Device_Writes_3
                dsimp only
                rw [if_pos (he _), if_pos (hb2 _), if_pos (he _), eN]
            · by_cases k3 : K = 3
              · rw [← ih1 false x 0 r q hR hq]
                apply iter_inl
                unfold F_tollbarlaw31_BlockDoes_L3
                dsimp only
                rw [ptoN, ← eS, ← eB, ← eK, ← eA, ← eP, if_pos (by rw [pilt]; simp only [ofN, xlen]; omega), if_pos (by simp only [ofN, xlen]; omega), if_neg (by rw [pilt]; simp only [ofN, xlen]; omega), if_neg (by rw [pieq]; exact k0), if_neg (by rw [pieq]; exact k1), if_neg (by rw [pieq]; exact k2), if_pos (by rw [pieq]; exact k3)]
                unfold F_block_Device_Up_2 F_tollbarref31_Up F_block_Device_Down F_block_Device_Writes
                dsimp only
                rw [if_pos (hb2 _), if_pos (he _), eN]
              · rw [← ih2 b x z u r q hR hq hz hz2 hu hu2]
                apply iter_inl
                unfold F_tollbarlaw31_BlockDoes_L3
                dsimp only
                rw [ptoN, ← eS, ← eB, ← eK, ← eA, ← eP, if_pos (by rw [pilt]; simp only [ofN, xlen]; omega), if_pos (by simp only [ofN, xlen]; omega), if_neg (by rw [pilt]; simp only [ofN, xlen]; omega), if_neg (by rw [pieq]; exact k0), if_neg (by rw [pieq]; exact k1), if_neg (by rw [pieq]; exact k2), if_neg (by rw [pieq]; exact k3)]
                unfold F_block_Device_Down_2 F_block_Device_Writes_3
                dsimp only
                rw [if_pos (hb2 _), if_pos (he _), eN]

theorem does_law {x : Int} {r1 : List D} (hx : 0 ≤ x ∧ x < 256) (hs : StepsOk r1) : F_tollbarlaw31_BlockDoes x r1 = some true := by
  obtain ⟨n, rfl⟩ : ∃ n : Nat, x = (n : Int) := ⟨x.toNat, by omega⟩
  have ec : iconv .i64 (n : Int) = (n : Int) := by simp only [iconv]; rw [pwi64 (by omega) (by omega)]
  unfold F_tollbarlaw31_BlockDoes
  rw [p_awake, ec]
  dsimp only
  rw [if_pos rfl]
  by_cases hl : 100 < r1.length
  · rw [if_pos (by rw [pilt]; simp only [ofN, xlen]; omega)]
  · rw [if_neg (by rw [pilt]; simp only [ofN, xlen]; omega)]
    by_cases h0 : n = 0
    · subst h0
      have e : F_block_New ((0 : Nat) : Int) = some (.inl ()) := by rw [new_eq, if_pos (by rw [pilt]; decide)]
      have e2 : F_block_New 1025 = some (.inl ()) := by rw [new_eq, if_neg (by rw [pilt]; decide), if_pos (by rw [pilt]; decide)]
      have e3 : F_block_Device_Write_3 0 [] = some () := by decide +kernel
      rw [e]
      dsimp only
      rw [if_pos (by decide), e3]
      dsimp only
      rw [if_pos (by decide)]
      unfold F_block_Device_Arm_2
      dsimp only
      rw [if_pos (by decide)]
      unfold F_block_Device_Down_3 F_block_Device_Writes_2 F_block_Device_Blocks_2
      dsimp only
      rw [if_pos (by decide), e2]
    · obtain ⟨q, e1, e2, e3⟩ := p_rnew (n := n) (by omega)
      rw [p_new (by omega), e1]
      dsimp only
      rw [if_neg (by rw [pieq]; omega)]
      exact (does_loop hs (by omega) (by omega) r1.length 0 (by omega)).1 false 0 0 _ _ (Rel.start e2 e3) e2
theorem p_BlockDoes (x : Int) (r : List D) (h1 : (Lit.int .u8 x).wf = true) (h2 : (Ty.row 35 (.st [.int .i64, .int .i64, .int .i64, .str])).rng (.l r)) : F_tollbarlaw31_BlockDoes x r = some true := by
  refine does_law (wf_u8 h1) fun k hk => ?_
  simp only [Ty.rng, Ty.rngL, D.toL] at h2
  have e : getD r k = r[k] := pgetD hk
  rw [e]
  exact (wf_i64 (h2.2 _ (List.getElem_mem hk)).2.1).2
end Go.Proofs.Ytcdjpciocamkiaa
end
