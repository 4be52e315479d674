/-
  Texts that the row of this claim stands on, one behind the other.
-/
import Derived.Test.YtcdjpciocamkiaaKBlockTears1
import Derived.Test.YtcdjpciocamkiaaKBlockTears2
import Derived.Test.YtcdjpciocamkiaaKBlockTears3
import Derived.Test.YtcdjpciocamkiaaKBlockTears4
section
/-
  The walk of tollbar/tollbarlaw31.BlockTears (printed by a program of ours).
-/
set_option linter.unusedVariables false
set_option linter.unusedSimpArgs false
namespace Go.Proofs.Ytcdjpciocamkiaa
open Go.RowKit

noncomputable def tab_tollbarlaw31_BlockTears : Nat → Option Con := look [(6, con_tollbarlaw31_awake), (7, con_block_New), (20, con_tollbarlaw31_filled), (8, con_block_Device_Write), (9, con_block_Device_Arm), (10, con_block_Device_Down), (18, con_block_Device_Up), (15, con_block_Device_Read)]
set_option maxHeartbeats 4000000 in
set_option maxRecDepth 100000 in
theorem vc_tollbarlaw31_BlockTears (P : Program) (T : Tab P tab_tollbarlaw31_BlockTears) (hm : P.follows .mixedOrders = true) : FnVC P tab_tollbarlaw31_BlockTears ic_4 [.t 6] 198 con_tollbarlaw31_BlockTears := by
  intro cargs ccks ce hce hob C hk
  apply Hidden.out
  replace hce : con_tollbarlaw31_BlockTears_1 cargs ccks = some ce := hce
  · unfold con_tollbarlaw31_BlockTears_1 at hce
    split at hce
    rotate_left
    · cases hce
    obtain rfl := Option.some.inj hce
    rename_i s1 s2 x1
    have hb1 := hob _ (List.mem_singleton.2 rfl)
    have hb2 := obl.1 hb1
    clear hb1 hob hce
    refine hb2.elim fun r hF => ?_
    clear hb2
    simp only [List.length_cons, List.length_nil, Nat.zero_add, Nat.reduceAdd] at hk
    have hr : F_tollbarlaw31_BlockTears s1 s2 x1 = some r := by rw [lock_eq] at hF; exact hF
    unfold F_tollbarlaw31_BlockTears at hr
    constructor
    (try cbv)
    have hqe : ∃ qq, F_tollbarlaw31_awake = some qq := by
      cases hq : F_tollbarlaw31_awake with
      | none => rw [hq] at hr; cases hr
      | some qq => exact ⟨qq, rfl⟩
    refine ⟨obl.2 (by simp only [choice_lk, lock_eq]; exact hqe), (by rintro (_) _ <;> cbv), ?_⟩
    clear hqe
    intro c1 hx1
    simp only [choice_lk, lock_eq] at hx1
    all_goals (rw [hx1] at hr; dsimp only at hr; constructor; (try cbv))
    refine sel_intro (fun h => ?_) (fun h => ?_)
    · have h1 : c1 = false := by first | exact (bnot_t.1 h) | (have h2 := (bnot_t.1 h); simp only [choice_lk, lock_eq] at h2; exact h2) | (simp only [choice_lk, lock_eq] at h; exact (bnot_t.1 h))
      rw [if_neg (by rw [h1]; exact Bool.false_ne_true)] at hr
      (try cbv)
      apply Hidden.out
      have e := Option.some.inj hr
      constructor
      refine ⟨_, hF, ?_⟩
      (try cbv); (try simp only [choice_lk, lock_eq, and_self, and_true, true_and]); (try first | exact e | exact e.symm | (and_intros <;> first | assumption | rfl | exact Eq.symm (by assumption)))
    · as_aux_lemma =>
      have h1 : c1 = true := by first | exact (bnot_f.1 h) | (have h2 := (bnot_f.1 h); simp only [choice_lk, lock_eq] at h2; exact h2) | (simp only [choice_lk, lock_eq] at h; exact (bnot_f.1 h))
      rw [if_pos h1] at hr
      (try cbv)
      refine sel_intro (fun h => ?_) (fun h => ?_)
      · have h1 : (ilt (40 : Int) (ofN (xlen s1))) = true := by first | exact h | (have h2 := h; simp only [choice_lk, lock_eq] at h2; exact h2) | (simp only [choice_lk, lock_eq] at h; exact h)
        rw [if_pos h1] at hr
        (try cbv)
        apply Hidden.out
        have e := Option.some.inj hr
        constructor
        refine ⟨_, hF, ?_⟩
        (try cbv); (try simp only [choice_lk, lock_eq, and_self, and_true, true_and]); (try first | exact e | exact e.symm | (and_intros <;> first | assumption | rfl | exact Eq.symm (by assumption)))
      · as_aux_lemma =>
        have h1 : (ilt (40 : Int) (ofN (xlen s1))) = false := by first | exact h | (have h2 := h; simp only [choice_lk, lock_eq] at h2; exact h2) | (simp only [choice_lk, lock_eq] at h; exact h)
        rw [if_neg (by rw [h1]; exact Bool.false_ne_true)] at hr
        (try cbv)
        refine sel_intro (fun h => ?_) (fun h => ?_)
        · have h1 : (ilt (40 : Int) (ofN (xlen s2))) = true := by first | exact h | (have h2 := h; simp only [choice_lk, lock_eq] at h2; exact h2) | (simp only [choice_lk, lock_eq] at h; exact h)
          rw [if_pos h1] at hr
          (try cbv)
          apply Hidden.out
          have e := Option.some.inj hr
          constructor
          refine ⟨_, hF, ?_⟩
          (try cbv); (try simp only [choice_lk, lock_eq, and_self, and_true, true_and]); (try first | exact e | exact e.symm | (and_intros <;> first | assumption | rfl | exact Eq.symm (by assumption)))
        · as_aux_lemma =>
          have h1 : (ilt (40 : Int) (ofN (xlen s2))) = false := by first | exact h | (have h2 := h; simp only [choice_lk, lock_eq] at h2; exact h2) | (simp only [choice_lk, lock_eq] at h; exact h)
          rw [if_neg (by rw [h1]; exact Bool.false_ne_true)] at hr
          (try cbv)
          have hqe : ∃ qq, F_block_New (40 : Int) = some qq := by
            cases hq : F_block_New (40 : Int) with
            | none => rw [hq] at hr; cases hr
            | some qq => exact ⟨qq, rfl⟩
          refine ⟨obl.2 (by simp only [choice_lk, lock_eq]; exact hqe), (by rintro (_ | _) _ <;> cbv), ?_⟩
          clear hqe
          intro qq hx2
          simp only [choice_lk, lock_eq] at hx2
          rcases qq with _ | q1
          all_goals (rw [hx2] at hr; dsimp only at hr; constructor; (try cbv))
          · refine LoopOK.iter T (drawOK T hm) (B := (F_tollbarlaw31_BlockTears_L1 s1 x1 s2)) hr (fun | i1 => ⟨mkFr [(0, (.rsl (.bs 5 s1))), (1, (.rsl (.bs 5 s2))), (2, (.v (.int .u16 x1))), (8, (.v (.pointer none))), (9, (.v (.int .i64 i1)))] 198 0, [], 0⟩) ?_ ?_
            · rintro u0 e
              refine le_auto hk ?_
              (try cbv); (try simp only [choice_lk, lock_eq, and_self, and_true, true_and]); (try first | exact e | exact e.symm | (and_intros <;> first | assumption | rfl | exact Eq.symm (by assumption)))
            · clear hr
              intro x bb1 hr ht1
              obtain ⟨i1, hz⟩ : ∃ z, z = x := ⟨x, rfl⟩
              subst hz
              as_aux_lemma =>
              constructor
              unfold F_tollbarlaw31_BlockTears_L1 at hr
              (try dsimp only at hr)
              (try cbv)
              refine sel_intro (fun h => ?_) (fun h => ?_)
              · have h1 : (ilt i1 (ofN (xlen s1))) = true := by first | exact h | (have h2 := h; simp only [choice_lk, lock_eq] at h2; exact h2) | (simp only [choice_lk, lock_eq] at h; exact h)
                rw [if_pos h1] at hr
                (try cbv)
                have gg := guard_inv hr
                have g := gg.1
                replace hr := gg.2
                clear gg
                refine ⟨obl.2 (by first | (simp only [choice_lk, lock_eq, R.len, R.sub]; exact g) | exact g), ?_⟩
                have hqe : ∃ qq, F_tollbarlaw31_filled (getB s1 (toN i1)) = some qq := by
                  cases hq : F_tollbarlaw31_filled (getB s1 (toN i1)) with
                  | none => rw [hq] at hr; cases hr
                  | some qq => exact ⟨qq, rfl⟩
                refine ⟨obl.2 (by simp only [choice_lk, lock_eq]; exact hqe), (by rintro (_) _ <;> cbv), ?_⟩
                clear hqe
                intro t3 hx7
                simp only [choice_lk, lock_eq] at hx7
                all_goals (rw [hx7] at hr; dsimp only at hr; constructor; (try cbv))
                have hqe : ∃ qq, F_block_Device_Write_3 i1 t3 = some qq := by
                  cases hq : F_block_Device_Write_3 i1 t3 with
                  | none => rw [hq] at hr; cases hr
                  | some qq => exact ⟨qq, rfl⟩
                refine ⟨obl.2 (by simp only [choice_lk, lock_eq]; exact hqe), (by rintro (_) _ <;> cbv), ?_⟩
                clear hqe
                intro qq hx8
                simp only [choice_lk, lock_eq] at hx8
                rcases qq with _
                all_goals (rw [hx8] at hr; dsimp only at hr; constructor; (try cbv))
                refine sel_intro (fun h => ?_) (fun h => ?_)
                · have h1 : (ieq (1 : Int) (0 : Int)) = false := by first | exact (bnot_t.1 h) | (have h2 := (bnot_t.1 h); simp only [choice_lk, lock_eq] at h2; exact h2) | (simp only [choice_lk, lock_eq] at h; exact (bnot_t.1 h))
                  rw [if_neg (by rw [h1]; exact Bool.false_ne_true)] at hr
                  (try cbv)
                  apply Hidden.out
                  obtain rfl := Option.some.inj hr
                  have e := ht1 _ rfl
                  constructor
                  refine ⟨_, hF, ?_⟩
                  (try cbv); (try simp only [choice_lk, lock_eq, and_self, and_true, true_and]); (try first | exact e | exact e.symm | (and_intros <;> first | assumption | rfl | exact Eq.symm (by assumption)))
                · have h1 : (ieq (1 : Int) (0 : Int)) = true := by first | exact (bnot_f.1 h) | (have h2 := (bnot_f.1 h); simp only [choice_lk, lock_eq] at h2; exact h2) | (simp only [choice_lk, lock_eq] at h; exact (bnot_f.1 h))
                  rw [if_pos h1] at hr
                  (try cbv)
                  apply Hidden.out
                  obtain rfl := Option.some.inj hr
                  constructor
                  refine ⟨⟨_, rfl⟩, ?_⟩
                  rintro u0 e
                  replace e := Sum.inl.inj e
                  refine le_auto hk ?_
                  (try cbv); (try simp only [choice_lk, lock_eq, and_self, and_true, true_and]); (try first | exact e | exact e.symm | (and_intros <;> first | assumption | rfl | exact Eq.symm (by assumption)))
              · as_aux_lemma =>
                have h1 : (ilt i1 (ofN (xlen s1))) = false := by first | exact h | (have h2 := h; simp only [choice_lk, lock_eq] at h2; exact h2) | (simp only [choice_lk, lock_eq] at h; exact h)
                rw [if_neg (by rw [h1]; exact Bool.false_ne_true)] at hr
                (try cbv)
                have hqe : ∃ qq, F_block_Device_Arm_2 (iconv .i64 (irem x1 (256 : Int))) (irem (iconv .i64 (iquo .u16 x1 (256 : Int))) (65 : Int)) = some qq := by
                  cases hq : F_block_Device_Arm_2 (iconv .i64 (irem x1 (256 : Int))) (irem (iconv .i64 (iquo .u16 x1 (256 : Int))) (65 : Int)) with
                  | none => rw [hq] at hr; cases hr
                  | some qq => exact ⟨qq, rfl⟩
                refine ⟨obl.2 (by simp only [choice_lk, lock_eq]; exact hqe), (by rintro (_) _ <;> cbv), ?_⟩
                clear hqe
                intro qq hx9
                simp only [choice_lk, lock_eq] at hx9
                rcases qq with _
                all_goals (rw [hx9] at hr; dsimp only at hr; constructor; (try cbv))
                apply Hidden.out
                obtain ⟨t, hr2, hw⟩ := map_inv hr
                clear hr
                subst hw
                have e := (ht1 _ rfl).symm
                subst e
                have hr := hr2
                clear hr2
                constructor
                refine LoopOK.iter T (drawOK T hm) (B := (F_tollbarlaw31_BlockTears_L2 s2 x1)) hr (fun | i2 => ⟨mkFr [(0, (.rsl (.bs 5 s1))), (1, (.rsl (.bs 5 s2))), (8, (.v (.pointer none))), (10, (.v (.int .i64 (lock irem (lock iconv .i64 (lock iquo .u16 x1 (256 : Int))) (65 : Int))))), (11, (.v (.int .i64 (lock iconv .i64 (lock irem x1 (256 : Int)))))), (12, (.v (.int .i64 i2)))] 198 0, [], 0⟩) ?_ ?_
                · rintro u0 e
                  refine le_auto hk ?_
                  (try cbv); (try simp only [choice_lk, lock_eq, and_self, and_true, true_and]); (try first | exact e | exact e.symm | (and_intros <;> first | assumption | rfl | exact Eq.symm (by assumption)))
                · clear hr
                  intro x bb1 hr ht1
                  obtain ⟨i2, hz⟩ : ∃ z, z = x := ⟨x, rfl⟩
                  subst hz
                  as_aux_lemma =>
                  constructor
                  unfold F_tollbarlaw31_BlockTears_L2 at hr
                  (try dsimp only at hr)
                  (try cbv)
                  refine sel_intro (fun h => ?_) (fun h => ?_)
                  · as_aux_lemma =>
                    have h1 : (ilt i2 (ofN (xlen s2))) = true := by first | exact h | (have h2 := h; simp only [choice_lk, lock_eq] at h2; exact h2) | (simp only [choice_lk, lock_eq] at h; exact h)
                    rw [if_pos h1] at hr
                    (try cbv)
                    have gg := guard_inv hr
                    have g := gg.1
                    replace hr := gg.2
                    clear gg
                    refine ⟨obl.2 (by first | (simp only [choice_lk, lock_eq, R.len, R.sub]; exact g) | exact g), ?_⟩
                    have hqe : ∃ qq, F_tollbarlaw31_filled (getB s2 (toN i2)) = some qq := by
                      cases hq : F_tollbarlaw31_filled (getB s2 (toN i2)) with
                      | none => rw [hq] at hr; cases hr
                      | some qq => exact ⟨qq, rfl⟩
                    refine ⟨obl.2 (by simp only [choice_lk, lock_eq]; exact hqe), (by rintro (_) _ <;> cbv), ?_⟩
                    clear hqe
                    intro t6 hx14
                    simp only [choice_lk, lock_eq] at hx14
                    all_goals (rw [hx14] at hr; dsimp only at hr; constructor; (try cbv))
                    have hqe : ∃ qq, F_block_Device_Write_3 i2 t6 = some qq := by
                      cases hq : F_block_Device_Write_3 i2 t6 with
                      | none => rw [hq] at hr; cases hr
                      | some qq => exact ⟨qq, rfl⟩
                    refine ⟨obl.2 (by simp only [choice_lk, lock_eq]; exact hqe), (by rintro (_) _ <;> cbv), ?_⟩
                    clear hqe
                    intro qq hx15
                    simp only [choice_lk, lock_eq] at hx15
                    rcases qq with _
                    all_goals (rw [hx15] at hr; dsimp only at hr; constructor; (try cbv))
                    refine sel_intro (fun h => ?_) (fun h => ?_)
                    · have h1 : (beq2 (ieq (1 : Int) (0 : Int)) (ilt i2 (iconv .i64 (irem x1 (256 : Int))))) = false := by first | exact (bnot_t.1 h) | (have h2 := (bnot_t.1 h); simp only [choice_lk, lock_eq] at h2; exact h2) | (simp only [choice_lk, lock_eq] at h; exact (bnot_t.1 h))
                      rw [if_neg (by rw [h1]; exact Bool.false_ne_true)] at hr
                      (try cbv)
                      apply Hidden.out
                      obtain rfl := Option.some.inj hr
                      have e := ht1 _ rfl
                      constructor
                      refine ⟨_, hF, ?_⟩
                      (try cbv); (try simp only [choice_lk, lock_eq, and_self, and_true, true_and]); (try first | exact e | exact e.symm | (and_intros <;> first | assumption | rfl | exact Eq.symm (by assumption)))
                    · have h1 : (beq2 (ieq (1 : Int) (0 : Int)) (ilt i2 (iconv .i64 (irem x1 (256 : Int))))) = true := by first | exact (bnot_f.1 h) | (have h2 := (bnot_f.1 h); simp only [choice_lk, lock_eq] at h2; exact h2) | (simp only [choice_lk, lock_eq] at h; exact (bnot_f.1 h))
                      rw [if_pos h1] at hr
                      (try cbv)
                      refine sel_intro (fun h => ?_) (fun h => ?_)
                      · have h1 : (ieq (1 : Int) (0 : Int)) = false := by first | exact (bnot_t.1 h) | (have h2 := (bnot_t.1 h); simp only [choice_lk, lock_eq] at h2; exact h2) | (simp only [choice_lk, lock_eq] at h; exact (bnot_t.1 h))
                        rw [if_neg (by rw [h1]; exact Bool.false_ne_true)] at hr
                        (try cbv)
                        refine sel_intro (fun h => ?_) (fun h => ?_)
                        · have h1 : (ieq (1 : Int) (3 : Int)) = false := by first | exact (bnot_t.1 h) | (have h2 := (bnot_t.1 h); simp only [choice_lk, lock_eq] at h2; exact h2) | (simp only [choice_lk, lock_eq] at h; exact (bnot_t.1 h))
                          rw [if_neg (by rw [h1]; exact Bool.false_ne_true)] at hr
                          (try cbv)
                          apply Hidden.out
                          obtain rfl := Option.some.inj hr
                          have e := ht1 _ rfl
                          constructor
                          refine ⟨_, hF, ?_⟩
                          (try cbv); (try simp only [choice_lk, lock_eq, and_self, and_true, true_and]); (try first | exact e | exact e.symm | (and_intros <;> first | assumption | rfl | exact Eq.symm (by assumption)))
                        · have h1 : (ieq (1 : Int) (3 : Int)) = true := by first | exact (bnot_f.1 h) | (have h2 := (bnot_f.1 h); simp only [choice_lk, lock_eq] at h2; exact h2) | (simp only [choice_lk, lock_eq] at h; exact (bnot_f.1 h))
                          rw [if_pos h1] at hr
                          (try cbv)
                          apply Hidden.out
                          obtain rfl := Option.some.inj hr
                          constructor
                          refine ⟨⟨_, rfl⟩, ?_⟩
                          rintro u0 e
                          replace e := Sum.inl.inj e
                          refine le_auto hk ?_
                          (try cbv); (try simp only [choice_lk, lock_eq, and_self, and_true, true_and]); (try first | exact e | exact e.symm | (and_intros <;> first | assumption | rfl | exact Eq.symm (by assumption)))
                      · have h1 : (ieq (1 : Int) (0 : Int)) = true := by first | exact (bnot_f.1 h) | (have h2 := (bnot_f.1 h); simp only [choice_lk, lock_eq] at h2; exact h2) | (simp only [choice_lk, lock_eq] at h; exact (bnot_f.1 h))
                        rw [if_pos h1] at hr
                        (try cbv)
                        apply Hidden.out
                        obtain rfl := Option.some.inj hr
                        constructor
                        refine ⟨⟨_, rfl⟩, ?_⟩
                        rintro u0 e
                        replace e := Sum.inl.inj e
                        refine le_auto hk ?_
                        (try cbv); (try simp only [choice_lk, lock_eq, and_self, and_true, true_and]); (try first | exact e | exact e.symm | (and_intros <;> first | assumption | rfl | exact Eq.symm (by assumption)))
                  · as_aux_lemma =>
                    have h1 : (ilt i2 (ofN (xlen s2))) = false := by first | exact h | (have h2 := h; simp only [choice_lk, lock_eq] at h2; exact h2) | (simp only [choice_lk, lock_eq] at h; exact h)
                    rw [if_neg (by rw [h1]; exact Bool.false_ne_true)] at hr
                    (try cbv)
                    have hqe : ∃ qq, F_block_Device_Down_3 = some qq := by
                      cases hq : F_block_Device_Down_3 with
                      | none => rw [hq] at hr; cases hr
                      | some qq => exact ⟨qq, rfl⟩
                    refine ⟨obl.2 (by simp only [choice_lk, lock_eq]; exact hqe), (by rintro (_) _ <;> cbv), ?_⟩
                    clear hqe
                    intro qq hx16
                    simp only [choice_lk, lock_eq] at hx16
                    rcases qq with _
                    all_goals (rw [hx16] at hr; dsimp only at hr; constructor; (try cbv))
                    refine sel_intro (fun h => ?_) (fun h => ?_)
                    · have h1 : (beq2 false (ilt (iconv .i64 (irem x1 (256 : Int))) (ofN (xlen s2)))) = false := by first | exact (bnot_t.1 h) | (have h2 := (bnot_t.1 h); simp only [choice_lk, lock_eq] at h2; exact h2) | (simp only [choice_lk, lock_eq] at h; exact (bnot_t.1 h))
                      rw [if_neg (by rw [h1]; exact Bool.false_ne_true)] at hr
                      (try cbv)
                      apply Hidden.out
                      obtain rfl := Option.some.inj hr
                      have e := ht1 _ rfl
                      constructor
                      refine ⟨_, hF, ?_⟩
                      (try cbv); (try simp only [choice_lk, lock_eq, and_self, and_true, true_and]); (try first | exact e | exact e.symm | (and_intros <;> first | assumption | rfl | exact Eq.symm (by assumption)))
                    · as_aux_lemma =>
                      have h1 : (beq2 false (ilt (iconv .i64 (irem x1 (256 : Int))) (ofN (xlen s2)))) = true := by first | exact (bnot_f.1 h) | (have h2 := (bnot_f.1 h); simp only [choice_lk, lock_eq] at h2; exact h2) | (simp only [choice_lk, lock_eq] at h; exact (bnot_f.1 h))
                      rw [if_pos h1] at hr
                      (try cbv)
                      have hqe : ∃ qq, F_block_Device_Up_3 = some qq := by
                        cases hq : F_block_Device_Up_3 with
                        | none => rw [hq] at hr; cases hr
                        | some qq => exact ⟨qq, rfl⟩
                      refine ⟨obl.2 (by simp only [choice_lk, lock_eq]; exact hqe), (by rintro (_) _ <;> cbv), ?_⟩
                      clear hqe
                      intro qq hx17
                      simp only [choice_lk, lock_eq] at hx17
                      rcases qq with _
                      all_goals (rw [hx17] at hr; dsimp only at hr; constructor; (try cbv))
                      apply Hidden.out
                      obtain ⟨t, hr2, hw⟩ := map_inv hr
                      clear hr
                      subst hw
                      have e := (ht1 _ rfl).symm
                      subst e
                      have hr := hr2
                      clear hr2
                      constructor
                      refine LoopOK.iter T (drawOK T hm) (B := F_tollbarlaw31_BlockTears_L3) hr (fun | _ => ⟨mkFr [(0, (.rsl (.bs 5 s1))), (1, (.rsl (.bs 5 s2))), (8, (.v (.pointer none))), (10, (.v (.int .i64 (lock irem (lock iconv .i64 (lock iquo .u16 x1 (256 : Int))) (65 : Int))))), (11, (.v (.int .i64 (lock iconv .i64 (lock irem x1 (256 : Int)))))), (14, (.v (.int .i64 (0 : Int))))] 198 0, [], 0⟩) ?_ ?_
                      · rintro _ e
                        refine le_auto hk ?_
                        (try cbv); (try simp only [choice_lk, lock_eq, and_self, and_true, true_and]); (try first | exact e | exact e.symm | (and_intros <;> first | assumption | rfl | exact Eq.symm (by assumption)))
                      · clear hr
                        intro x bb1 hr ht1
                        as_aux_lemma =>
                        constructor
                        unfold F_tollbarlaw31_BlockTears_L3 at hr
                        (try dsimp only at hr)
                        (try cbv)
                        refine sel_intro (fun h => ?_) (fun h => ?_)
                        · as_aux_lemma =>
                          have h1 : (ilt (0 : Int) (40 : Int)) = true := by first | exact h | (have h2 := h; simp only [choice_lk, lock_eq] at h2; exact h2) | (simp only [choice_lk, lock_eq] at h; exact h)
                          rw [if_pos h1] at hr
                          (try cbv)
                          have hqe : ∃ qq, F_block_Device_Read_2 (0 : Int) = some qq := by
                            cases hq : F_block_Device_Read_2 (0 : Int) with
                            | none => rw [hq] at hr; cases hr
                            | some qq => exact ⟨qq, rfl⟩
                          refine ⟨obl.2 (by simp only [choice_lk, lock_eq]; exact hqe), (by rintro (_) _ <;> cbv), ?_⟩
                          clear hqe
                          intro qq hx20
                          simp only [choice_lk, lock_eq] at hx20
                          rcases qq with _
                          all_goals (rw [hx20] at hr; dsimp only at hr; constructor; (try cbv))
                          refine sel_intro (fun h => ?_) (fun h => ?_)
                          · have h1 : (ieq (1 : Int) (0 : Int)) = false := by first | exact (bnot_t.1 h) | (have h2 := (bnot_t.1 h); simp only [choice_lk, lock_eq] at h2; exact h2) | (simp only [choice_lk, lock_eq] at h; exact (bnot_t.1 h))
                            rw [if_neg (by rw [h1]; exact Bool.false_ne_true)] at hr
                            (try cbv)
                            apply Hidden.out
                            obtain rfl := Option.some.inj hr
                            have e := ht1 _ rfl
                            constructor
                            refine ⟨_, hF, ?_⟩
                            (try cbv); (try simp only [choice_lk, lock_eq, and_self, and_true, true_and]); (try first | exact e | exact e.symm | (and_intros <;> first | assumption | rfl | exact Eq.symm (by assumption)))
                          · have h1 : (ieq (1 : Int) (0 : Int)) = true := by first | exact (bnot_f.1 h) | (have h2 := (bnot_f.1 h); simp only [choice_lk, lock_eq] at h2; exact h2) | (simp only [choice_lk, lock_eq] at h; exact (bnot_f.1 h))
                            rw [if_pos h1] at hr
                            (try cbv)
                            refine sel_intro (fun h => ?_) (fun h => ?_)
                            · have h1 : (ieq (ofN 0) (64 : Int)) = false := by first | exact (bnot_t.1 h) | (have h2 := (bnot_t.1 h); simp only [choice_lk, lock_eq] at h2; exact h2) | (simp only [choice_lk, lock_eq] at h; exact (bnot_t.1 h))
                              rw [if_neg (by rw [h1]; exact Bool.false_ne_true)] at hr
                              (try cbv)
                              apply Hidden.out
                              obtain rfl := Option.some.inj hr
                              have e := ht1 _ rfl
                              constructor
                              refine ⟨_, hF, ?_⟩
                              (try cbv); (try simp only [choice_lk, lock_eq, and_self, and_true, true_and]); (try first | exact e | exact e.symm | (and_intros <;> first | assumption | rfl | exact Eq.symm (by assumption)))
                            · have h1 : (ieq (ofN 0) (64 : Int)) = true := by first | exact (bnot_f.1 h) | (have h2 := (bnot_f.1 h); simp only [choice_lk, lock_eq] at h2; exact h2) | (simp only [choice_lk, lock_eq] at h; exact (bnot_f.1 h))
                              rw [if_pos h1] at hr
                              (try cbv)
                              refine LoopOK.iter T (drawOK T hm) (B := F_tollbarlaw31_BlockTears_L4) hr (fun | _ => ⟨mkFr [(0, (.rsl (.bs 5 s1))), (1, (.rsl (.bs 5 s2))), (8, (.v (.pointer none))), (10, (.v (.int .i64 (lock irem (lock iconv .i64 (lock iquo .u16 x1 (256 : Int))) (65 : Int))))), (11, (.v (.int .i64 (lock iconv .i64 (lock irem x1 (256 : Int)))))), (14, (.v (.int .i64 (0 : Int)))), (15, .nsl), (17, (.v (.int .i64 (0 : Int))))] 198 0, [], 0⟩) ?_ ?_
                              · rintro _ e
                                refine le_auto hk ?_
                                (try cbv); (try simp only [choice_lk, lock_eq, and_self, and_true, true_and]); (try first | exact e | exact e.symm | (and_intros <;> first | assumption | rfl | exact Eq.symm (by assumption)))
                              · clear hr
                                intro x bb2 hr ht2
                                as_aux_lemma =>
                                constructor
                                unfold F_tollbarlaw31_BlockTears_L4 at hr
                                (try dsimp only at hr)
                                (try cbv)
                                refine sel_intro (fun h => ?_) (fun h => ?_)
                                · have h1 : (ilt (0 : Int) (64 : Int)) = true := by first | exact h | (have h2 := h; simp only [choice_lk, lock_eq] at h2; exact h2) | (simp only [choice_lk, lock_eq] at h; exact h)
                                  rw [if_pos h1] at hr
                                  (try cbv)
                                  cases hr
                                · have h1 : (ilt (0 : Int) (64 : Int)) = false := by first | exact h | (have h2 := h; simp only [choice_lk, lock_eq] at h2; exact h2) | (simp only [choice_lk, lock_eq] at h; exact h)
                                  rw [if_neg (by rw [h1]; exact Bool.false_ne_true)] at hr
                                  (try cbv)
                                  have hqe : ∃ qq, F_block_Device_Read_2 (0 : Int) = some qq := by
                                    cases hq : F_block_Device_Read_2 (0 : Int) with
                                    | none => rw [hq] at hr; cases hr
                                    | some qq => exact ⟨qq, rfl⟩
                                  refine ⟨obl.2 (by simp only [choice_lk, lock_eq]; exact hqe), (by rintro (_) _ <;> cbv), ?_⟩
                                  clear hqe
                                  intro qq hx21
                                  simp only [choice_lk, lock_eq] at hx21
                                  rcases qq with _
                                  all_goals (rw [hx21] at hr; dsimp only at hr; constructor; (try cbv))
                                  refine sel_intro (fun h => ?_) (fun h => ?_)
                                  · have h1 : (ieq (ofN 0) (64 : Int)) = false := by first | exact (bnot_t.1 h) | (have h2 := (bnot_t.1 h); simp only [choice_lk, lock_eq] at h2; exact h2) | (simp only [choice_lk, lock_eq] at h; exact (bnot_t.1 h))
                                    rw [if_neg (by rw [h1]; exact Bool.false_ne_true)] at hr
                                    (try cbv)
                                    apply Hidden.out
                                    obtain rfl := Option.some.inj hr
                                    have e := (ht2 _ rfl).symm
                                    subst e
                                    have e := ht1 _ rfl
                                    constructor
                                    refine ⟨_, hF, ?_⟩
                                    (try cbv); (try simp only [choice_lk, lock_eq, and_self, and_true, true_and]); (try first | exact e | exact e.symm | (and_intros <;> first | assumption | rfl | exact Eq.symm (by assumption)))
                                  · have h1 : (ieq (ofN 0) (64 : Int)) = true := by first | exact (bnot_f.1 h) | (have h2 := (bnot_f.1 h); simp only [choice_lk, lock_eq] at h2; exact h2) | (simp only [choice_lk, lock_eq] at h; exact (bnot_f.1 h))
                                    rw [if_pos h1] at hr
                                    (try cbv)
                                    cases hr
                        · have h1 : (ilt (0 : Int) (40 : Int)) = false := by first | exact h | (have h2 := h; simp only [choice_lk, lock_eq] at h2; exact h2) | (simp only [choice_lk, lock_eq] at h; exact h)
                          rw [if_neg (by rw [h1]; exact Bool.false_ne_true)] at hr
                          (try cbv)
                          apply Hidden.out
                          obtain rfl := Option.some.inj hr
                          have e := ht1 _ rfl
                          constructor
                          refine ⟨_, hF, ?_⟩
                          (try cbv); (try simp only [choice_lk, lock_eq, and_self, and_true, true_and]); (try first | exact e | exact e.symm | (and_intros <;> first | assumption | rfl | exact Eq.symm (by assumption)))
          · refine LoopOK.iter T (drawOK T hm) (B := (F_tollbarlaw31_BlockTears_L5 s1 x1 s2)) hr (fun | (i3, i4, r1) => ⟨mkFr [(0, (.rsl (.bs 5 s1))), (1, (.rsl (.bs 5 s2))), (2, (.v (.int .u16 x1))), (8, (.ptr 0 0)), (9, (.v (.int .i64 i3)))] 198 0, [(0, .blk 53 [(.wsl 1), (.v (.bool false)), (.v (.pointer none)), (.v (.int .i64 i4))]), (1, .row (.row 57 (.u8s 64) r1))], 2⟩) ?_ ?_
            · rintro ⟨u0, u1, u2⟩ e
              simp only [Prod.mk.injEq] at e
              obtain ⟨e0, e1, e2⟩ := e
              refine le_auto hk ?_
              (try cbv); (try simp only [choice_lk, lock_eq, and_self, and_true, true_and]); (try first | exact e | exact e.symm | (and_intros <;> first | assumption | rfl | exact Eq.symm (by assumption)))
            · clear hr
              intro x bb1 hr ht1
              obtain ⟨i3, i4, r1⟩ := x
              as_aux_lemma =>
              constructor
              unfold F_tollbarlaw31_BlockTears_L5 at hr
              (try dsimp only at hr)
              (try cbv)
              refine sel_intro (fun h => ?_) (fun h => ?_)
              · have h1 : (ilt i3 (ofN (xlen s1))) = true := by first | exact h | (have h2 := h; simp only [choice_lk, lock_eq] at h2; exact h2) | (simp only [choice_lk, lock_eq] at h; exact h)
                rw [if_pos h1] at hr
                (try cbv)
                have gg := guard_inv hr
                have g := gg.1
                replace hr := gg.2
                clear gg
                refine ⟨obl.2 (by first | (simp only [choice_lk, lock_eq, R.len, R.sub]; exact g) | exact g), ?_⟩
                have hqe : ∃ qq, F_tollbarlaw31_filled (getB s1 (toN i3)) = some qq := by
                  cases hq : F_tollbarlaw31_filled (getB s1 (toN i3)) with
                  | none => rw [hq] at hr; cases hr
                  | some qq => exact ⟨qq, rfl⟩
                refine ⟨obl.2 (by simp only [choice_lk, lock_eq]; exact hqe), (by rintro (_) _ <;> cbv), ?_⟩
                clear hqe
                intro t9 hx26
                simp only [choice_lk, lock_eq] at hx26
                all_goals (rw [hx26] at hr; dsimp only at hr; constructor; (try cbv))
                have hqe : ∃ qq, F_block_Device_Write i3 t9 false i4 r1 = some qq := by
                  cases hq : F_block_Device_Write i3 t9 false i4 r1 with
                  | none => rw [hq] at hr; cases hr
                  | some qq => exact ⟨qq, rfl⟩
                refine ⟨obl.2 (by simp only [choice_lk, lock_eq]; exact hqe), (by rintro (⟨_, _, _⟩) _ <;> cbv), ?_⟩
                clear hqe
                intro qq hx27
                simp only [choice_lk, lock_eq] at hx27
                rcases qq with ⟨y5, y6, q4⟩
                all_goals (rw [hx27] at hr; dsimp only at hr; constructor; (try cbv))
                refine sel_intro (fun h => ?_) (fun h => ?_)
                · have h1 : (ieq y5 (0 : Int)) = false := by first | exact (bnot_t.1 h) | (have h2 := (bnot_t.1 h); simp only [choice_lk, lock_eq] at h2; exact h2) | (simp only [choice_lk, lock_eq] at h; exact (bnot_t.1 h))
                  rw [if_neg (by rw [h1]; exact Bool.false_ne_true)] at hr
                  (try cbv)
                  apply Hidden.out
                  obtain rfl := Option.some.inj hr
                  have e := ht1 _ rfl
                  constructor
                  refine ⟨_, hF, ?_⟩
                  (try cbv); (try simp only [choice_lk, lock_eq, and_self, and_true, true_and]); (try first | exact e | exact e.symm | (and_intros <;> first | assumption | rfl | exact Eq.symm (by assumption)))
                · have h1 : (ieq y5 (0 : Int)) = true := by first | exact (bnot_f.1 h) | (have h2 := (bnot_f.1 h); simp only [choice_lk, lock_eq] at h2; exact h2) | (simp only [choice_lk, lock_eq] at h; exact (bnot_f.1 h))
                  rw [if_pos h1] at hr
                  (try cbv)
                  apply Hidden.out
                  obtain rfl := Option.some.inj hr
                  constructor
                  refine ⟨⟨_, rfl⟩, ?_⟩
                  rintro ⟨u0, u1, u2⟩ e
                  replace e := Sum.inl.inj e
                  simp only [Prod.mk.injEq] at e
                  obtain ⟨e0, e1, e2⟩ := e
                  refine le_auto hk ?_
                  (try cbv); (try simp only [choice_lk, lock_eq, and_self, and_true, true_and]); (try first | exact e | exact e.symm | (and_intros <;> first | assumption | rfl | exact Eq.symm (by assumption)))
              · as_aux_lemma =>
                have h1 : (ilt i3 (ofN (xlen s1))) = false := by first | exact h | (have h2 := h; simp only [choice_lk, lock_eq] at h2; exact h2) | (simp only [choice_lk, lock_eq] at h; exact h)
                rw [if_neg (by rw [h1]; exact Bool.false_ne_true)] at hr
                (try cbv)
                have hqe : ∃ qq, F_block_Device_Arm (iconv .i64 (irem x1 (256 : Int))) (irem (iconv .i64 (iquo .u16 x1 (256 : Int))) (65 : Int)) false i4 r1 = some qq := by
                  cases hq : F_block_Device_Arm (iconv .i64 (irem x1 (256 : Int))) (irem (iconv .i64 (iquo .u16 x1 (256 : Int))) (65 : Int)) false i4 r1 with
                  | none => rw [hq] at hr; cases hr
                  | some qq => exact ⟨qq, rfl⟩
                refine ⟨obl.2 (by simp only [choice_lk, lock_eq]; exact hqe), (by rintro (_ | _) _ <;> cbv), ?_⟩
                clear hqe
                intro qq hx28
                simp only [choice_lk, lock_eq] at hx28
                rcases qq with _ | _
                all_goals (rw [hx28] at hr; dsimp only at hr; constructor; (try cbv))
                · apply Hidden.out
                  obtain ⟨t, hr2, hw⟩ := map_inv hr
                  clear hr
                  subst hw
                  have e := (ht1 _ rfl).symm
                  subst e
                  have hr := hr2
                  clear hr2
                  constructor
                  refine LoopOK.iter T (drawOK T hm) (B := (F_tollbarlaw31_BlockTears_L6 s2 x1 s1)) hr (fun | (i5, i6, r2) => ⟨mkFr [(0, (.rsl (.bs 5 s1))), (1, (.rsl (.bs 5 s2))), (8, (.ptr 0 0)), (10, (.v (.int .i64 (lock irem (lock iconv .i64 (lock iquo .u16 x1 (256 : Int))) (65 : Int))))), (11, (.v (.int .i64 (lock iconv .i64 (lock irem x1 (256 : Int)))))), (12, (.v (.int .i64 i5)))] 198 0, [(0, .blk 53 [(.wsl 1), (.v (.bool false)), (.v (.pointer none)), (.v (.int .i64 i6))]), (1, .row (.row 57 (.u8s 64) r2))], 2⟩) ?_ ?_
                  · rintro ⟨u0, u1, u2⟩ e
                    simp only [Prod.mk.injEq] at e
                    obtain ⟨e0, e1, e2⟩ := e
                    refine le_auto hk ?_
                    (try cbv); (try simp only [choice_lk, lock_eq, and_self, and_true, true_and]); (try first | exact e | exact e.symm | (and_intros <;> first | assumption | rfl | exact Eq.symm (by assumption)))
                  · clear hr
                    intro x bb1 hr ht1
                    obtain ⟨i5, i6, r2⟩ := x
                    as_aux_lemma =>
                    constructor
                    unfold F_tollbarlaw31_BlockTears_L6 at hr
                    (try dsimp only at hr)
                    (try cbv)
                    refine sel_intro (fun h => ?_) (fun h => ?_)
                    · as_aux_lemma =>
                      have h1 : (ilt i5 (ofN (xlen s2))) = true := by first | exact h | (have h2 := h; simp only [choice_lk, lock_eq] at h2; exact h2) | (simp only [choice_lk, lock_eq] at h; exact h)
                      rw [if_pos h1] at hr
                      (try cbv)
                      have gg := guard_inv hr
                      have g := gg.1
                      replace hr := gg.2
                      clear gg
                      refine ⟨obl.2 (by first | (simp only [choice_lk, lock_eq, R.len, R.sub]; exact g) | exact g), ?_⟩
                      have hqe : ∃ qq, F_tollbarlaw31_filled (getB s2 (toN i5)) = some qq := by
                        cases hq : F_tollbarlaw31_filled (getB s2 (toN i5)) with
                        | none => rw [hq] at hr; cases hr
                        | some qq => exact ⟨qq, rfl⟩
                      refine ⟨obl.2 (by simp only [choice_lk, lock_eq]; exact hqe), (by rintro (_) _ <;> cbv), ?_⟩
                      clear hqe
                      intro t12 hx33
                      simp only [choice_lk, lock_eq] at hx33
                      all_goals (rw [hx33] at hr; dsimp only at hr; constructor; (try cbv))
                      have hqe : ∃ qq, F_block_Device_Write i5 t12 false i6 r2 = some qq := by
                        cases hq : F_block_Device_Write i5 t12 false i6 r2 with
                        | none => rw [hq] at hr; cases hr
                        | some qq => exact ⟨qq, rfl⟩
                      refine ⟨obl.2 (by simp only [choice_lk, lock_eq]; exact hqe), (by rintro (⟨_, _, _⟩) _ <;> cbv), ?_⟩
                      clear hqe
                      intro qq hx34
                      simp only [choice_lk, lock_eq] at hx34
                      rcases qq with ⟨y11, y12, q7⟩
                      all_goals (rw [hx34] at hr; dsimp only at hr; constructor; (try cbv))
                      refine sel_intro (fun h => ?_) (fun h => ?_)
                      · have h1 : (beq2 (ieq y11 (0 : Int)) (ilt i5 (iconv .i64 (irem x1 (256 : Int))))) = false := by first | exact (bnot_t.1 h) | (have h2 := (bnot_t.1 h); simp only [choice_lk, lock_eq] at h2; exact h2) | (simp only [choice_lk, lock_eq] at h; exact (bnot_t.1 h))
                        rw [if_neg (by rw [h1]; exact Bool.false_ne_true)] at hr
                        (try cbv)
                        apply Hidden.out
                        obtain rfl := Option.some.inj hr
                        have e := ht1 _ rfl
                        constructor
                        refine ⟨_, hF, ?_⟩
                        (try cbv); (try simp only [choice_lk, lock_eq, and_self, and_true, true_and]); (try first | exact e | exact e.symm | (and_intros <;> first | assumption | rfl | exact Eq.symm (by assumption)))
                      · have h1 : (beq2 (ieq y11 (0 : Int)) (ilt i5 (iconv .i64 (irem x1 (256 : Int))))) = true := by first | exact (bnot_f.1 h) | (have h2 := (bnot_f.1 h); simp only [choice_lk, lock_eq] at h2; exact h2) | (simp only [choice_lk, lock_eq] at h; exact (bnot_f.1 h))
                        rw [if_pos h1] at hr
                        (try cbv)
                        refine sel_intro (fun h => ?_) (fun h => ?_)
                        · have h1 : (ieq y11 (0 : Int)) = false := by first | exact (bnot_t.1 h) | (have h2 := (bnot_t.1 h); simp only [choice_lk, lock_eq] at h2; exact h2) | (simp only [choice_lk, lock_eq] at h; exact (bnot_t.1 h))
                          rw [if_neg (by rw [h1]; exact Bool.false_ne_true)] at hr
                          (try cbv)
                          refine sel_intro (fun h => ?_) (fun h => ?_)
                          · have h1 : (ieq y11 (3 : Int)) = false := by first | exact (bnot_t.1 h) | (have h2 := (bnot_t.1 h); simp only [choice_lk, lock_eq] at h2; exact h2) | (simp only [choice_lk, lock_eq] at h; exact (bnot_t.1 h))
                            rw [if_neg (by rw [h1]; exact Bool.false_ne_true)] at hr
                            (try cbv)
                            apply Hidden.out
                            obtain rfl := Option.some.inj hr
                            have e := ht1 _ rfl
                            constructor
                            refine ⟨_, hF, ?_⟩
                            (try cbv); (try simp only [choice_lk, lock_eq, and_self, and_true, true_and]); (try first | exact e | exact e.symm | (and_intros <;> first | assumption | rfl | exact Eq.symm (by assumption)))
                          · have h1 : (ieq y11 (3 : Int)) = true := by first | exact (bnot_f.1 h) | (have h2 := (bnot_f.1 h); simp only [choice_lk, lock_eq] at h2; exact h2) | (simp only [choice_lk, lock_eq] at h; exact (bnot_f.1 h))
                            rw [if_pos h1] at hr
                            (try cbv)
                            apply Hidden.out
                            obtain rfl := Option.some.inj hr
                            constructor
                            refine ⟨⟨_, rfl⟩, ?_⟩
                            rintro ⟨u0, u1, u2⟩ e
                            replace e := Sum.inl.inj e
                            simp only [Prod.mk.injEq] at e
                            obtain ⟨e0, e1, e2⟩ := e
                            refine le_auto hk ?_
                            (try cbv); (try simp only [choice_lk, lock_eq, and_self, and_true, true_and]); (try first | exact e | exact e.symm | (and_intros <;> first | assumption | rfl | exact Eq.symm (by assumption)))
                        · have h1 : (ieq y11 (0 : Int)) = true := by first | exact (bnot_f.1 h) | (have h2 := (bnot_f.1 h); simp only [choice_lk, lock_eq] at h2; exact h2) | (simp only [choice_lk, lock_eq] at h; exact (bnot_f.1 h))
                          rw [if_pos h1] at hr
                          (try cbv)
                          apply Hidden.out
                          obtain rfl := Option.some.inj hr
                          constructor
                          refine ⟨⟨_, rfl⟩, ?_⟩
                          rintro ⟨u0, u1, u2⟩ e
                          replace e := Sum.inl.inj e
                          simp only [Prod.mk.injEq] at e
                          obtain ⟨e0, e1, e2⟩ := e
                          refine le_auto hk ?_
                          (try cbv); (try simp only [choice_lk, lock_eq, and_self, and_true, true_and]); (try first | exact e | exact e.symm | (and_intros <;> first | assumption | rfl | exact Eq.symm (by assumption)))
                    · as_aux_lemma =>
                      have h1 : (ilt i5 (ofN (xlen s2))) = false := by first | exact h | (have h2 := h; simp only [choice_lk, lock_eq] at h2; exact h2) | (simp only [choice_lk, lock_eq] at h; exact h)
                      rw [if_neg (by rw [h1]; exact Bool.false_ne_true)] at hr
                      (try cbv)
                      have hqe : ∃ qq, F_block_Device_Down false i6 r2 = some qq := by
                        cases hq : F_block_Device_Down false i6 r2 with
                        | none => rw [hq] at hr; cases hr
                        | some qq => exact ⟨qq, rfl⟩
                      refine ⟨obl.2 (by simp only [choice_lk, lock_eq]; exact hqe), (by rintro (_) _ <;> cbv), ?_⟩
                      clear hqe
                      intro qq hx35
                      simp only [choice_lk, lock_eq] at hx35
                      rcases qq with _
                      all_goals (rw [hx35] at hr; dsimp only at hr; constructor; (try cbv))
                      refine sel_intro (fun h => ?_) (fun h => ?_)
                      · have h1 : (beq2 false (ilt (iconv .i64 (irem x1 (256 : Int))) (ofN (xlen s2)))) = false := by first | exact (bnot_t.1 h) | (have h2 := (bnot_t.1 h); simp only [choice_lk, lock_eq] at h2; exact h2) | (simp only [choice_lk, lock_eq] at h; exact (bnot_t.1 h))
                        rw [if_neg (by rw [h1]; exact Bool.false_ne_true)] at hr
                        (try cbv)
                        apply Hidden.out
                        obtain rfl := Option.some.inj hr
                        have e := ht1 _ rfl
                        constructor
                        refine ⟨_, hF, ?_⟩
                        (try cbv); (try simp only [choice_lk, lock_eq, and_self, and_true, true_and]); (try first | exact e | exact e.symm | (and_intros <;> first | assumption | rfl | exact Eq.symm (by assumption)))
                      · as_aux_lemma =>
                        have h1 : (beq2 false (ilt (iconv .i64 (irem x1 (256 : Int))) (ofN (xlen s2)))) = true := by first | exact (bnot_f.1 h) | (have h2 := (bnot_f.1 h); simp only [choice_lk, lock_eq] at h2; exact h2) | (simp only [choice_lk, lock_eq] at h; exact (bnot_f.1 h))
                        rw [if_pos h1] at hr
                        (try cbv)
                        have hqe : ∃ qq, F_block_Device_Up false i6 r2 = some qq := by
                          cases hq : F_block_Device_Up false i6 r2 with
                          | none => rw [hq] at hr; cases hr
                          | some qq => exact ⟨qq, rfl⟩
                        refine ⟨obl.2 (by simp only [choice_lk, lock_eq]; exact hqe), (by rintro (_) _ <;> cbv), ?_⟩
                        clear hqe
                        intro qq hx36
                        simp only [choice_lk, lock_eq] at hx36
                        rcases qq with _
                        all_goals (rw [hx36] at hr; dsimp only at hr; constructor; (try cbv))
                        apply Hidden.out
                        obtain ⟨t, hr2, hw⟩ := map_inv hr
                        clear hr
                        subst hw
                        have e := (ht1 _ rfl).symm
                        subst e
                        have hr := hr2
                        clear hr2
                        constructor
                        refine LoopOK.iter T (drawOK T hm) (B := (F_tollbarlaw31_BlockTears_L7 i6 r2 s1 s2 x1)) hr (fun | i8 => ⟨mkFr [(0, (.rsl (.bs 5 s1))), (1, (.rsl (.bs 5 s2))), (8, (.ptr 0 0)), (10, (.v (.int .i64 (lock irem (lock iconv .i64 (lock iquo .u16 x1 (256 : Int))) (65 : Int))))), (11, (.v (.int .i64 (lock iconv .i64 (lock irem x1 (256 : Int)))))), (14, (.v (.int .i64 i8)))] 198 0, [(0, .blk 53 [(.wsl 1), (.v (.bool false)), (.v (.pointer none)), (.v (.int .i64 i6))]), (1, .row (.row 57 (.u8s 64) r2))], 2⟩) ?_ ?_
                        · rintro u0 e
                          refine le_auto hk ?_
                          (try cbv); (try simp only [choice_lk, lock_eq, and_self, and_true, true_and]); (try first | exact e | exact e.symm | (and_intros <;> first | assumption | rfl | exact Eq.symm (by assumption)))
                        · clear hr
                          intro x bb1 hr ht1
                          obtain ⟨i8, hz⟩ : ∃ z, z = x := ⟨x, rfl⟩
                          subst hz
                          as_aux_lemma =>
                          constructor
                          unfold F_tollbarlaw31_BlockTears_L7 at hr
                          (try dsimp only at hr)
                          (try cbv)
                          refine sel_intro (fun h => ?_) (fun h => ?_)
                          · as_aux_lemma =>
                            have h1 : (ilt i8 (40 : Int)) = true := by first | exact h | (have h2 := h; simp only [choice_lk, lock_eq] at h2; exact h2) | (simp only [choice_lk, lock_eq] at h; exact h)
                            rw [if_pos h1] at hr
                            (try cbv)
                            have hqe : ∃ qq, F_block_Device_Read i8 false i6 r2 = some qq := by
                              cases hq : F_block_Device_Read i8 false i6 r2 with
                              | none => rw [hq] at hr; cases hr
                              | some qq => exact ⟨qq, rfl⟩
                            refine ⟨obl.2 (by simp only [choice_lk, lock_eq]; exact hqe), (by rintro (⟨_, _⟩) _ <;> cbv), ?_⟩
                            clear hqe
                            intro qq hx41
                            simp only [choice_lk, lock_eq] at hx41
                            rcases qq with ⟨y17, t17⟩
                            all_goals (rw [hx41] at hr; dsimp only at hr; constructor; (try cbv))
                            refine sel_intro (fun h => ?_) (fun h => ?_)
                            · have h1 : (ieq y17 (0 : Int)) = false := by first | exact (bnot_t.1 h) | (have h2 := (bnot_t.1 h); simp only [choice_lk, lock_eq] at h2; exact h2) | (simp only [choice_lk, lock_eq] at h; exact (bnot_t.1 h))
                              rw [if_neg (by rw [h1]; exact Bool.false_ne_true)] at hr
                              (try cbv)
                              apply Hidden.out
                              obtain rfl := Option.some.inj hr
                              have e := ht1 _ rfl
                              constructor
                              refine ⟨_, hF, ?_⟩
                              (try cbv); (try simp only [choice_lk, lock_eq, and_self, and_true, true_and]); (try first | exact e | exact e.symm | (and_intros <;> first | assumption | rfl | exact Eq.symm (by assumption)))
                            · as_aux_lemma =>
                              have h1 : (ieq y17 (0 : Int)) = true := by first | exact (bnot_f.1 h) | (have h2 := (bnot_f.1 h); simp only [choice_lk, lock_eq] at h2; exact h2) | (simp only [choice_lk, lock_eq] at h; exact (bnot_f.1 h))
                              rw [if_pos h1] at hr
                              (try cbv)
                              refine sel_intro (fun h => ?_) (fun h => ?_)
                              · have h1 : (ieq (ofN (xlen t17)) (64 : Int)) = false := by first | exact (bnot_t.1 h) | (have h2 := (bnot_t.1 h); simp only [choice_lk, lock_eq] at h2; exact h2) | (simp only [choice_lk, lock_eq] at h; exact (bnot_t.1 h))
                                rw [if_neg (by rw [h1]; exact Bool.false_ne_true)] at hr
                                (try cbv)
                                apply Hidden.out
                                obtain rfl := Option.some.inj hr
                                have e := ht1 _ rfl
                                constructor
                                refine ⟨_, hF, ?_⟩
                                (try cbv); (try simp only [choice_lk, lock_eq, and_self, and_true, true_and]); (try first | exact e | exact e.symm | (and_intros <;> first | assumption | rfl | exact Eq.symm (by assumption)))
                              · as_aux_lemma =>
                                have h1 : (ieq (ofN (xlen t17)) (64 : Int)) = true := by first | exact (bnot_f.1 h) | (have h2 := (bnot_f.1 h); simp only [choice_lk, lock_eq] at h2; exact h2) | (simp only [choice_lk, lock_eq] at h; exact (bnot_f.1 h))
                                rw [if_pos h1] at hr
                                (try cbv)
                                refine LoopOK.iter T (drawOK T hm) (B := (F_tollbarlaw31_BlockTears_L8 i8 s1 s2 x1 i6 r2)) hr (fun | (i10, s5) => ⟨mkFr [(0, (.rsl (.bs 5 s1))), (1, (.rsl (.bs 5 s2))), (8, (.ptr 0 0)), (10, (.v (.int .i64 (lock irem (lock iconv .i64 (lock iquo .u16 x1 (256 : Int))) (65 : Int))))), (11, (.v (.int .i64 (lock iconv .i64 (lock irem x1 (256 : Int)))))), (14, (.v (.int .i64 i8))), (15, (.wsl 1)), (17, (.v (.int .i64 i10)))] 198 0, [(0, .blk 53 [(.wsl 2), (.v (.bool false)), (.v (.pointer none)), (.v (.int .i64 i6))]), (1, .row (.bs 57 s5)), (2, .row (.row 57 (.u8s 64) r2))], 3⟩) ?_ ?_
                                · rintro ⟨u0, u1⟩ e
                                  simp only [Prod.mk.injEq] at e
                                  obtain ⟨e0, e1⟩ := e
                                  refine le_auto hk ?_
                                  (try cbv); (try simp only [choice_lk, lock_eq, and_self, and_true, true_and]); (try first | exact e | exact e.symm | (and_intros <;> first | assumption | rfl | exact Eq.symm (by assumption)))
                                · clear hr
                                  intro x bb2 hr ht2
                                  obtain ⟨i10, s5⟩ := x
                                  as_aux_lemma =>
                                  constructor
                                  unfold F_tollbarlaw31_BlockTears_L8 at hr
                                  (try dsimp only at hr)
                                  (try cbv)
                                  refine sel_intro (fun h => ?_) (fun h => ?_)
                                  · as_aux_lemma =>
                                    have h1 : (ilt i10 (64 : Int)) = true := by first | exact h | (have h2 := h; simp only [choice_lk, lock_eq] at h2; exact h2) | (simp only [choice_lk, lock_eq] at h; exact h)
                                    rw [if_pos h1] at hr
                                    (try cbv)
                                    refine sel_intro (fun h => ?_) (fun h => ?_)
                                    · as_aux_lemma =>
                                      have h1 : (ilt i8 (ofN (xlen s1))) = true := by first | exact h | (have h2 := h; simp only [choice_lk, lock_eq] at h2; exact h2) | (simp only [choice_lk, lock_eq] at h; exact h)
                                      rw [if_pos h1] at hr
                                      (try cbv)
                                      have gg := guard_inv hr
                                      have g := gg.1
                                      replace hr := gg.2
                                      clear gg
                                      refine ⟨obl.2 (by first | (simp only [choice_lk, lock_eq, R.len, R.sub]; exact g) | exact g), ?_⟩
                                      refine sel_intro (fun h => ?_) (fun h => ?_)
                                      · as_aux_lemma =>
                                        have h1 : (ilt i8 (ofN (xlen s2))) = true := by first | exact h | (have h2 := h; simp only [choice_lk, lock_eq] at h2; exact h2) | (simp only [choice_lk, lock_eq] at h; exact h)
                                        rw [if_pos h1] at hr
                                        (try cbv)
                                        refine sel_intro (fun h => ?_) (fun h => ?_)
                                        · have h1 : (ilt i8 (iconv .i64 (irem x1 (256 : Int)))) = true := by first | exact h | (have h2 := h; simp only [choice_lk, lock_eq] at h2; exact h2) | (simp only [choice_lk, lock_eq] at h; exact h)
                                          rw [if_pos h1] at hr
                                          (try cbv)
                                          have gg := guard_inv hr
                                          have g := gg.1
                                          replace hr := gg.2
                                          clear gg
                                          refine ⟨obl.2 (by first | (simp only [choice_lk, lock_eq, R.len, R.sub]; exact g) | exact g), ?_⟩
                                          have gg := guard_inv hr
                                          have g := gg.1
                                          replace hr := gg.2
                                          clear gg
                                          refine ⟨obl.2 (by first | (simp only [choice_lk, lock_eq, R.len, R.sub]; exact g) | exact g), ?_⟩
                                          refine sel_intro (fun h => ?_) (fun h => ?_)
                                          · have h1 : (ieq (getB s5 (toN i10)) (getB s2 (toN i8))) = false := by first | exact (bnot_t.1 h) | (have h2 := (bnot_t.1 h); simp only [choice_lk, lock_eq] at h2; exact h2) | (simp only [choice_lk, lock_eq] at h; exact (bnot_t.1 h))
                                            rw [if_neg (by rw [h1]; exact Bool.false_ne_true)] at hr
                                            (try cbv)
                                            apply Hidden.out
                                            obtain rfl := Option.some.inj hr
                                            have e := (ht2 _ rfl).symm
                                            subst e
                                            have e := ht1 _ rfl
                                            constructor
                                            refine ⟨_, hF, ?_⟩
                                            (try cbv); (try simp only [choice_lk, lock_eq, and_self, and_true, true_and]); (try first | exact e | exact e.symm | (and_intros <;> first | assumption | rfl | exact Eq.symm (by assumption)))
                                          · have h1 : (ieq (getB s5 (toN i10)) (getB s2 (toN i8))) = true := by first | exact (bnot_f.1 h) | (have h2 := (bnot_f.1 h); simp only [choice_lk, lock_eq] at h2; exact h2) | (simp only [choice_lk, lock_eq] at h; exact (bnot_f.1 h))
                                            rw [if_pos h1] at hr
                                            (try cbv)
                                            have gg := guard_inv hr
                                            have g := gg.1
                                            replace hr := gg.2
                                            clear gg
                                            refine ⟨obl.2 (by first | (simp only [choice_lk, lock_eq, R.len, R.sub]; exact g) | exact g), ?_⟩
                                            have gg := guard_inv hr
                                            have g := gg.1
                                            replace hr := gg.2
                                            clear gg
                                            refine ⟨obl.2 (by first | (simp only [choice_lk, lock_eq, R.len, R.sub]; exact g) | exact g), ?_⟩
                                            apply Hidden.out
                                            obtain rfl := Option.some.inj hr
                                            constructor
                                            refine ⟨⟨_, rfl⟩, ?_⟩
                                            rintro ⟨u0, u1⟩ e
                                            replace e := Sum.inl.inj e
                                            simp only [Prod.mk.injEq] at e
                                            obtain ⟨e0, e1⟩ := e
                                            refine le_auto hk ?_
                                            (try cbv); (try simp only [choice_lk, lock_eq, and_self, and_true, true_and]); (try first | exact e | exact e.symm | (and_intros <;> first | assumption | rfl | exact Eq.symm (by assumption)))
                                        · as_aux_lemma =>
                                          have h1 : (ilt i8 (iconv .i64 (irem x1 (256 : Int)))) = false := by first | exact h | (have h2 := h; simp only [choice_lk, lock_eq] at h2; exact h2) | (simp only [choice_lk, lock_eq] at h; exact h)
                                          rw [if_neg (by rw [h1]; exact Bool.false_ne_true)] at hr
                                          (try cbv)
                                          refine sel_intro (fun h => ?_) (fun h => ?_)
                                          · as_aux_lemma =>
                                            have h1 : (ieq i8 (iconv .i64 (irem x1 (256 : Int)))) = true := by first | exact h | (have h2 := h; simp only [choice_lk, lock_eq] at h2; exact h2) | (simp only [choice_lk, lock_eq] at h; exact h)
                                            rw [if_pos h1] at hr
                                            (try cbv)
                                            refine sel_intro (fun h => ?_) (fun h => ?_)
                                            · have h1 : (ilt i10 (irem (iconv .i64 (iquo .u16 x1 (256 : Int))) (65 : Int))) = true := by first | exact h | (have h2 := h; simp only [choice_lk, lock_eq] at h2; exact h2) | (simp only [choice_lk, lock_eq] at h; exact h)
                                              rw [if_pos h1] at hr
                                              (try cbv)
                                              have gg := guard_inv hr
                                              have g := gg.1
                                              replace hr := gg.2
                                              clear gg
                                              refine ⟨obl.2 (by first | (simp only [choice_lk, lock_eq, R.len, R.sub]; exact g) | exact g), ?_⟩
                                              have gg := guard_inv hr
                                              have g := gg.1
                                              replace hr := gg.2
                                              clear gg
                                              refine ⟨obl.2 (by first | (simp only [choice_lk, lock_eq, R.len, R.sub]; exact g) | exact g), ?_⟩
                                              refine sel_intro (fun h => ?_) (fun h => ?_)
                                              · have h1 : (ieq (getB s5 (toN i10)) (getB s2 (toN i8))) = false := by first | exact (bnot_t.1 h) | (have h2 := (bnot_t.1 h); simp only [choice_lk, lock_eq] at h2; exact h2) | (simp only [choice_lk, lock_eq] at h; exact (bnot_t.1 h))
                                                rw [if_neg (by rw [h1]; exact Bool.false_ne_true)] at hr
                                                (try cbv)
                                                apply Hidden.out
                                                obtain rfl := Option.some.inj hr
                                                have e := (ht2 _ rfl).symm
                                                subst e
                                                have e := ht1 _ rfl
                                                constructor
                                                refine ⟨_, hF, ?_⟩
                                                (try cbv); (try simp only [choice_lk, lock_eq, and_self, and_true, true_and]); (try first | exact e | exact e.symm | (and_intros <;> first | assumption | rfl | exact Eq.symm (by assumption)))
                                              · have h1 : (ieq (getB s5 (toN i10)) (getB s2 (toN i8))) = true := by first | exact (bnot_f.1 h) | (have h2 := (bnot_f.1 h); simp only [choice_lk, lock_eq] at h2; exact h2) | (simp only [choice_lk, lock_eq] at h; exact (bnot_f.1 h))
                                                rw [if_pos h1] at hr
                                                (try cbv)
                                                have gg := guard_inv hr
                                                have g := gg.1
                                                replace hr := gg.2
                                                clear gg
                                                refine ⟨obl.2 (by first | (simp only [choice_lk, lock_eq, R.len, R.sub]; exact g) | exact g), ?_⟩
                                                have gg := guard_inv hr
                                                have g := gg.1
                                                replace hr := gg.2
                                                clear gg
                                                refine ⟨obl.2 (by first | (simp only [choice_lk, lock_eq, R.len, R.sub]; exact g) | exact g), ?_⟩
                                                apply Hidden.out
                                                obtain rfl := Option.some.inj hr
                                                constructor
                                                refine ⟨⟨_, rfl⟩, ?_⟩
                                                rintro ⟨u0, u1⟩ e
                                                replace e := Sum.inl.inj e
                                                simp only [Prod.mk.injEq] at e
                                                obtain ⟨e0, e1⟩ := e
                                                refine le_auto hk ?_
                                                (try cbv); (try simp only [choice_lk, lock_eq, and_self, and_true, true_and]); (try first | exact e | exact e.symm | (and_intros <;> first | assumption | rfl | exact Eq.symm (by assumption)))
                                            · have h1 : (ilt i10 (irem (iconv .i64 (iquo .u16 x1 (256 : Int))) (65 : Int))) = false := by first | exact h | (have h2 := h; simp only [choice_lk, lock_eq] at h2; exact h2) | (simp only [choice_lk, lock_eq] at h; exact h)
                                              rw [if_neg (by rw [h1]; exact Bool.false_ne_true)] at hr
                                              (try cbv)
                                              have gg := guard_inv hr
                                              have g := gg.1
                                              replace hr := gg.2
                                              clear gg
                                              refine ⟨obl.2 (by first | (simp only [choice_lk, lock_eq, R.len, R.sub]; exact g) | exact g), ?_⟩
                                              refine sel_intro (fun h => ?_) (fun h => ?_)
                                              · have h1 : (ieq (getB s5 (toN i10)) (getB s1 (toN i8))) = false := by first | exact (bnot_t.1 h) | (have h2 := (bnot_t.1 h); simp only [choice_lk, lock_eq] at h2; exact h2) | (simp only [choice_lk, lock_eq] at h; exact (bnot_t.1 h))
                                                rw [if_neg (by rw [h1]; exact Bool.false_ne_true)] at hr
                                                (try cbv)
                                                apply Hidden.out
                                                obtain rfl := Option.some.inj hr
                                                have e := (ht2 _ rfl).symm
                                                subst e
                                                have e := ht1 _ rfl
                                                constructor
                                                refine ⟨_, hF, ?_⟩
                                                (try cbv); (try simp only [choice_lk, lock_eq, and_self, and_true, true_and]); (try first | exact e | exact e.symm | (and_intros <;> first | assumption | rfl | exact Eq.symm (by assumption)))
                                              · have h1 : (ieq (getB s5 (toN i10)) (getB s1 (toN i8))) = true := by first | exact (bnot_f.1 h) | (have h2 := (bnot_f.1 h); simp only [choice_lk, lock_eq] at h2; exact h2) | (simp only [choice_lk, lock_eq] at h; exact (bnot_f.1 h))
                                                rw [if_pos h1] at hr
                                                (try cbv)
                                                have gg := guard_inv hr
                                                have g := gg.1
                                                replace hr := gg.2
                                                clear gg
                                                refine ⟨obl.2 (by first | (simp only [choice_lk, lock_eq, R.len, R.sub]; exact g) | exact g), ?_⟩
                                                have gg := guard_inv hr
                                                have g := gg.1
                                                replace hr := gg.2
                                                clear gg
                                                refine ⟨obl.2 (by first | (simp only [choice_lk, lock_eq, R.len, R.sub]; exact g) | exact g), ?_⟩
                                                apply Hidden.out
                                                obtain rfl := Option.some.inj hr
                                                constructor
                                                refine ⟨⟨_, rfl⟩, ?_⟩
                                                rintro ⟨u0, u1⟩ e
                                                replace e := Sum.inl.inj e
                                                simp only [Prod.mk.injEq] at e
                                                obtain ⟨e0, e1⟩ := e
                                                refine le_auto hk ?_
                                                (try cbv); (try simp only [choice_lk, lock_eq, and_self, and_true, true_and]); (try first | exact e | exact e.symm | (and_intros <;> first | assumption | rfl | exact Eq.symm (by assumption)))
                                          · have h1 : (ieq i8 (iconv .i64 (irem x1 (256 : Int)))) = false := by first | exact h | (have h2 := h; simp only [choice_lk, lock_eq] at h2; exact h2) | (simp only [choice_lk, lock_eq] at h; exact h)
                                            rw [if_neg (by rw [h1]; exact Bool.false_ne_true)] at hr
                                            (try cbv)
                                            have gg := guard_inv hr
                                            have g := gg.1
                                            replace hr := gg.2
                                            clear gg
                                            refine ⟨obl.2 (by first | (simp only [choice_lk, lock_eq, R.len, R.sub]; exact g) | exact g), ?_⟩
                                            refine sel_intro (fun h => ?_) (fun h => ?_)
                                            · have h1 : (ieq (getB s5 (toN i10)) (getB s1 (toN i8))) = false := by first | exact (bnot_t.1 h) | (have h2 := (bnot_t.1 h); simp only [choice_lk, lock_eq] at h2; exact h2) | (simp only [choice_lk, lock_eq] at h; exact (bnot_t.1 h))
                                              rw [if_neg (by rw [h1]; exact Bool.false_ne_true)] at hr
                                              (try cbv)
                                              apply Hidden.out
                                              obtain rfl := Option.some.inj hr
                                              have e := (ht2 _ rfl).symm
                                              subst e
                                              have e := ht1 _ rfl
                                              constructor
                                              refine ⟨_, hF, ?_⟩
                                              (try cbv); (try simp only [choice_lk, lock_eq, and_self, and_true, true_and]); (try first | exact e | exact e.symm | (and_intros <;> first | assumption | rfl | exact Eq.symm (by assumption)))
                                            · have h1 : (ieq (getB s5 (toN i10)) (getB s1 (toN i8))) = true := by first | exact (bnot_f.1 h) | (have h2 := (bnot_f.1 h); simp only [choice_lk, lock_eq] at h2; exact h2) | (simp only [choice_lk, lock_eq] at h; exact (bnot_f.1 h))
                                              rw [if_pos h1] at hr
                                              (try cbv)
                                              have gg := guard_inv hr
                                              have g := gg.1
                                              replace hr := gg.2
                                              clear gg
                                              refine ⟨obl.2 (by first | (simp only [choice_lk, lock_eq, R.len, R.sub]; exact g) | exact g), ?_⟩
                                              have gg := guard_inv hr
                                              have g := gg.1
                                              replace hr := gg.2
                                              clear gg
                                              refine ⟨obl.2 (by first | (simp only [choice_lk, lock_eq, R.len, R.sub]; exact g) | exact g), ?_⟩
                                              apply Hidden.out
                                              obtain rfl := Option.some.inj hr
                                              constructor
                                              refine ⟨⟨_, rfl⟩, ?_⟩
                                              rintro ⟨u0, u1⟩ e
                                              replace e := Sum.inl.inj e
                                              simp only [Prod.mk.injEq] at e
                                              obtain ⟨e0, e1⟩ := e
                                              refine le_auto hk ?_
                                              (try cbv); (try simp only [choice_lk, lock_eq, and_self, and_true, true_and]); (try first | exact e | exact e.symm | (and_intros <;> first | assumption | rfl | exact Eq.symm (by assumption)))
                                      · have h1 : (ilt i8 (ofN (xlen s2))) = false := by first | exact h | (have h2 := h; simp only [choice_lk, lock_eq] at h2; exact h2) | (simp only [choice_lk, lock_eq] at h; exact h)
                                        rw [if_neg (by rw [h1]; exact Bool.false_ne_true)] at hr
                                        (try cbv)
                                        have gg := guard_inv hr
                                        have g := gg.1
                                        replace hr := gg.2
                                        clear gg
                                        refine ⟨obl.2 (by first | (simp only [choice_lk, lock_eq, R.len, R.sub]; exact g) | exact g), ?_⟩
                                        refine sel_intro (fun h => ?_) (fun h => ?_)
                                        · have h1 : (ieq (getB s5 (toN i10)) (getB s1 (toN i8))) = false := by first | exact (bnot_t.1 h) | (have h2 := (bnot_t.1 h); simp only [choice_lk, lock_eq] at h2; exact h2) | (simp only [choice_lk, lock_eq] at h; exact (bnot_t.1 h))
                                          rw [if_neg (by rw [h1]; exact Bool.false_ne_true)] at hr
                                          (try cbv)
                                          apply Hidden.out
                                          obtain rfl := Option.some.inj hr
                                          have e := (ht2 _ rfl).symm
                                          subst e
                                          have e := ht1 _ rfl
                                          constructor
                                          refine ⟨_, hF, ?_⟩
                                          (try cbv); (try simp only [choice_lk, lock_eq, and_self, and_true, true_and]); (try first | exact e | exact e.symm | (and_intros <;> first | assumption | rfl | exact Eq.symm (by assumption)))
                                        · have h1 : (ieq (getB s5 (toN i10)) (getB s1 (toN i8))) = true := by first | exact (bnot_f.1 h) | (have h2 := (bnot_f.1 h); simp only [choice_lk, lock_eq] at h2; exact h2) | (simp only [choice_lk, lock_eq] at h; exact (bnot_f.1 h))
                                          rw [if_pos h1] at hr
                                          (try cbv)
                                          have gg := guard_inv hr
                                          have g := gg.1
                                          replace hr := gg.2
                                          clear gg
                                          refine ⟨obl.2 (by first | (simp only [choice_lk, lock_eq, R.len, R.sub]; exact g) | exact g), ?_⟩
                                          have gg := guard_inv hr
                                          have g := gg.1
                                          replace hr := gg.2
                                          clear gg
                                          refine ⟨obl.2 (by first | (simp only [choice_lk, lock_eq, R.len, R.sub]; exact g) | exact g), ?_⟩
                                          apply Hidden.out
                                          obtain rfl := Option.some.inj hr
                                          constructor
                                          refine ⟨⟨_, rfl⟩, ?_⟩
                                          rintro ⟨u0, u1⟩ e
                                          replace e := Sum.inl.inj e
                                          simp only [Prod.mk.injEq] at e
                                          obtain ⟨e0, e1⟩ := e
                                          refine le_auto hk ?_
                                          (try cbv); (try simp only [choice_lk, lock_eq, and_self, and_true, true_and]); (try first | exact e | exact e.symm | (and_intros <;> first | assumption | rfl | exact Eq.symm (by assumption)))
                                    · as_aux_lemma =>
                                      have h1 : (ilt i8 (ofN (xlen s1))) = false := by first | exact h | (have h2 := h; simp only [choice_lk, lock_eq] at h2; exact h2) | (simp only [choice_lk, lock_eq] at h; exact h)
                                      rw [if_neg (by rw [h1]; exact Bool.false_ne_true)] at hr
                                      (try cbv)
                                      refine sel_intro (fun h => ?_) (fun h => ?_)
                                      · as_aux_lemma =>
                                        have h1 : (ilt i8 (ofN (xlen s2))) = true := by first | exact h | (have h2 := h; simp only [choice_lk, lock_eq] at h2; exact h2) | (simp only [choice_lk, lock_eq] at h; exact h)
                                        rw [if_pos h1] at hr
                                        (try cbv)
                                        refine sel_intro (fun h => ?_) (fun h => ?_)
                                        · have h1 : (ilt i8 (iconv .i64 (irem x1 (256 : Int)))) = true := by first | exact h | (have h2 := h; simp only [choice_lk, lock_eq] at h2; exact h2) | (simp only [choice_lk, lock_eq] at h; exact h)
                                          rw [if_pos h1] at hr
                                          (try cbv)
                                          have gg := guard_inv hr
                                          have g := gg.1
                                          replace hr := gg.2
                                          clear gg
                                          refine ⟨obl.2 (by first | (simp only [choice_lk, lock_eq, R.len, R.sub]; exact g) | exact g), ?_⟩
                                          have gg := guard_inv hr
                                          have g := gg.1
                                          replace hr := gg.2
                                          clear gg
                                          refine ⟨obl.2 (by first | (simp only [choice_lk, lock_eq, R.len, R.sub]; exact g) | exact g), ?_⟩
                                          refine sel_intro (fun h => ?_) (fun h => ?_)
                                          · have h1 : (ieq (getB s5 (toN i10)) (getB s2 (toN i8))) = false := by first | exact (bnot_t.1 h) | (have h2 := (bnot_t.1 h); simp only [choice_lk, lock_eq] at h2; exact h2) | (simp only [choice_lk, lock_eq] at h; exact (bnot_t.1 h))
                                            rw [if_neg (by rw [h1]; exact Bool.false_ne_true)] at hr
                                            (try cbv)
                                            apply Hidden.out
                                            obtain rfl := Option.some.inj hr
                                            have e := (ht2 _ rfl).symm
                                            subst e
                                            have e := ht1 _ rfl
                                            constructor
                                            refine ⟨_, hF, ?_⟩
                                            (try cbv); (try simp only [choice_lk, lock_eq, and_self, and_true, true_and]); (try first | exact e | exact e.symm | (and_intros <;> first | assumption | rfl | exact Eq.symm (by assumption)))
                                          · have h1 : (ieq (getB s5 (toN i10)) (getB s2 (toN i8))) = true := by first | exact (bnot_f.1 h) | (have h2 := (bnot_f.1 h); simp only [choice_lk, lock_eq] at h2; exact h2) | (simp only [choice_lk, lock_eq] at h; exact (bnot_f.1 h))
                                            rw [if_pos h1] at hr
                                            (try cbv)
                                            have gg := guard_inv hr
                                            have g := gg.1
                                            replace hr := gg.2
                                            clear gg
                                            refine ⟨obl.2 (by first | (simp only [choice_lk, lock_eq, R.len, R.sub]; exact g) | exact g), ?_⟩
                                            have gg := guard_inv hr
                                            have g := gg.1
                                            replace hr := gg.2
                                            clear gg
                                            refine ⟨obl.2 (by first | (simp only [choice_lk, lock_eq, R.len, R.sub]; exact g) | exact g), ?_⟩
                                            apply Hidden.out
                                            obtain rfl := Option.some.inj hr
                                            constructor
                                            refine ⟨⟨_, rfl⟩, ?_⟩
                                            rintro ⟨u0, u1⟩ e
                                            replace e := Sum.inl.inj e
                                            simp only [Prod.mk.injEq] at e
                                            obtain ⟨e0, e1⟩ := e
                                            refine le_auto hk ?_
                                            (try cbv); (try simp only [choice_lk, lock_eq, and_self, and_true, true_and]); (try first | exact e | exact e.symm | (and_intros <;> first | assumption | rfl | exact Eq.symm (by assumption)))
                                        · as_aux_lemma =>
                                          have h1 : (ilt i8 (iconv .i64 (irem x1 (256 : Int)))) = false := by first | exact h | (have h2 := h; simp only [choice_lk, lock_eq] at h2; exact h2) | (simp only [choice_lk, lock_eq] at h; exact h)
                                          rw [if_neg (by rw [h1]; exact Bool.false_ne_true)] at hr
                                          (try cbv)
                                          refine sel_intro (fun h => ?_) (fun h => ?_)
                                          · as_aux_lemma =>
                                            have h1 : (ieq i8 (iconv .i64 (irem x1 (256 : Int)))) = true := by first | exact h | (have h2 := h; simp only [choice_lk, lock_eq] at h2; exact h2) | (simp only [choice_lk, lock_eq] at h; exact h)
                                            rw [if_pos h1] at hr
                                            (try cbv)
                                            refine sel_intro (fun h => ?_) (fun h => ?_)
                                            · have h1 : (ilt i10 (irem (iconv .i64 (iquo .u16 x1 (256 : Int))) (65 : Int))) = true := by first | exact h | (have h2 := h; simp only [choice_lk, lock_eq] at h2; exact h2) | (simp only [choice_lk, lock_eq] at h; exact h)
                                              rw [if_pos h1] at hr
                                              (try cbv)
                                              have gg := guard_inv hr
                                              have g := gg.1
                                              replace hr := gg.2
                                              clear gg
                                              refine ⟨obl.2 (by first | (simp only [choice_lk, lock_eq, R.len, R.sub]; exact g) | exact g), ?_⟩
                                              have gg := guard_inv hr
                                              have g := gg.1
                                              replace hr := gg.2
                                              clear gg
                                              refine ⟨obl.2 (by first | (simp only [choice_lk, lock_eq, R.len, R.sub]; exact g) | exact g), ?_⟩
                                              refine sel_intro (fun h => ?_) (fun h => ?_)
                                              · have h1 : (ieq (getB s5 (toN i10)) (getB s2 (toN i8))) = false := by first | exact (bnot_t.1 h) | (have h2 := (bnot_t.1 h); simp only [choice_lk, lock_eq] at h2; exact h2) | (simp only [choice_lk, lock_eq] at h; exact (bnot_t.1 h))
                                                rw [if_neg (by rw [h1]; exact Bool.false_ne_true)] at hr
                                                (try cbv)
                                                apply Hidden.out
                                                obtain rfl := Option.some.inj hr
                                                have e := (ht2 _ rfl).symm
                                                subst e
                                                have e := ht1 _ rfl
                                                constructor
                                                refine ⟨_, hF, ?_⟩
                                                (try cbv); (try simp only [choice_lk, lock_eq, and_self, and_true, true_and]); (try first | exact e | exact e.symm | (and_intros <;> first | assumption | rfl | exact Eq.symm (by assumption)))
                                              · have h1 : (ieq (getB s5 (toN i10)) (getB s2 (toN i8))) = true := by first | exact (bnot_f.1 h) | (have h2 := (bnot_f.1 h); simp only [choice_lk, lock_eq] at h2; exact h2) | (simp only [choice_lk, lock_eq] at h; exact (bnot_f.1 h))
                                                rw [if_pos h1] at hr
                                                (try cbv)
                                                have gg := guard_inv hr
                                                have g := gg.1
                                                replace hr := gg.2
                                                clear gg
                                                refine ⟨obl.2 (by first | (simp only [choice_lk, lock_eq, R.len, R.sub]; exact g) | exact g), ?_⟩
                                                have gg := guard_inv hr
                                                have g := gg.1
                                                replace hr := gg.2
                                                clear gg
                                                refine ⟨obl.2 (by first | (simp only [choice_lk, lock_eq, R.len, R.sub]; exact g) | exact g), ?_⟩
                                                apply Hidden.out
                                                obtain rfl := Option.some.inj hr
                                                constructor
                                                refine ⟨⟨_, rfl⟩, ?_⟩
                                                rintro ⟨u0, u1⟩ e
                                                replace e := Sum.inl.inj e
                                                simp only [Prod.mk.injEq] at e
                                                obtain ⟨e0, e1⟩ := e
                                                refine le_auto hk ?_
                                                (try cbv); (try simp only [choice_lk, lock_eq, and_self, and_true, true_and]); (try first | exact e | exact e.symm | (and_intros <;> first | assumption | rfl | exact Eq.symm (by assumption)))
                                            · have h1 : (ilt i10 (irem (iconv .i64 (iquo .u16 x1 (256 : Int))) (65 : Int))) = false := by first | exact h | (have h2 := h; simp only [choice_lk, lock_eq] at h2; exact h2) | (simp only [choice_lk, lock_eq] at h; exact h)
                                              rw [if_neg (by rw [h1]; exact Bool.false_ne_true)] at hr
                                              (try cbv)
                                              have gg := guard_inv hr
                                              have g := gg.1
                                              replace hr := gg.2
                                              clear gg
                                              refine ⟨obl.2 (by first | (simp only [choice_lk, lock_eq, R.len, R.sub]; exact g) | exact g), ?_⟩
                                              refine sel_intro (fun h => ?_) (fun h => ?_)
                                              · have h1 : (ieq (getB s5 (toN i10)) (0 : Int)) = false := by first | exact (bnot_t.1 h) | (have h2 := (bnot_t.1 h); simp only [choice_lk, lock_eq] at h2; exact h2) | (simp only [choice_lk, lock_eq] at h; exact (bnot_t.1 h))
                                                rw [if_neg (by rw [h1]; exact Bool.false_ne_true)] at hr
                                                (try cbv)
                                                apply Hidden.out
                                                obtain rfl := Option.some.inj hr
                                                have e := (ht2 _ rfl).symm
                                                subst e
                                                have e := ht1 _ rfl
                                                constructor
                                                refine ⟨_, hF, ?_⟩
                                                (try cbv); (try simp only [choice_lk, lock_eq, and_self, and_true, true_and]); (try first | exact e | exact e.symm | (and_intros <;> first | assumption | rfl | exact Eq.symm (by assumption)))
                                              · have h1 : (ieq (getB s5 (toN i10)) (0 : Int)) = true := by first | exact (bnot_f.1 h) | (have h2 := (bnot_f.1 h); simp only [choice_lk, lock_eq] at h2; exact h2) | (simp only [choice_lk, lock_eq] at h; exact (bnot_f.1 h))
                                                rw [if_pos h1] at hr
                                                (try cbv)
                                                have gg := guard_inv hr
                                                have g := gg.1
                                                replace hr := gg.2
                                                clear gg
                                                refine ⟨obl.2 (by first | (simp only [choice_lk, lock_eq, R.len, R.sub]; exact g) | exact g), ?_⟩
                                                have gg := guard_inv hr
                                                have g := gg.1
                                                replace hr := gg.2
                                                clear gg
                                                refine ⟨obl.2 (by first | (simp only [choice_lk, lock_eq, R.len, R.sub]; exact g) | exact g), ?_⟩
                                                apply Hidden.out
                                                obtain rfl := Option.some.inj hr
                                                constructor
                                                refine ⟨⟨_, rfl⟩, ?_⟩
                                                rintro ⟨u0, u1⟩ e
                                                replace e := Sum.inl.inj e
                                                simp only [Prod.mk.injEq] at e
                                                obtain ⟨e0, e1⟩ := e
                                                refine le_auto hk ?_
                                                (try cbv); (try simp only [choice_lk, lock_eq, and_self, and_true, true_and]); (try first | exact e | exact e.symm | (and_intros <;> first | assumption | rfl | exact Eq.symm (by assumption)))
                                          · have h1 : (ieq i8 (iconv .i64 (irem x1 (256 : Int)))) = false := by first | exact h | (have h2 := h; simp only [choice_lk, lock_eq] at h2; exact h2) | (simp only [choice_lk, lock_eq] at h; exact h)
                                            rw [if_neg (by rw [h1]; exact Bool.false_ne_true)] at hr
                                            (try cbv)
                                            have gg := guard_inv hr
                                            have g := gg.1
                                            replace hr := gg.2
                                            clear gg
                                            refine ⟨obl.2 (by first | (simp only [choice_lk, lock_eq, R.len, R.sub]; exact g) | exact g), ?_⟩
                                            refine sel_intro (fun h => ?_) (fun h => ?_)
                                            · have h1 : (ieq (getB s5 (toN i10)) (0 : Int)) = false := by first | exact (bnot_t.1 h) | (have h2 := (bnot_t.1 h); simp only [choice_lk, lock_eq] at h2; exact h2) | (simp only [choice_lk, lock_eq] at h; exact (bnot_t.1 h))
                                              rw [if_neg (by rw [h1]; exact Bool.false_ne_true)] at hr
                                              (try cbv)
                                              apply Hidden.out
                                              obtain rfl := Option.some.inj hr
                                              have e := (ht2 _ rfl).symm
                                              subst e
                                              have e := ht1 _ rfl
                                              constructor
                                              refine ⟨_, hF, ?_⟩
                                              (try cbv); (try simp only [choice_lk, lock_eq, and_self, and_true, true_and]); (try first | exact e | exact e.symm | (and_intros <;> first | assumption | rfl | exact Eq.symm (by assumption)))
                                            · have h1 : (ieq (getB s5 (toN i10)) (0 : Int)) = true := by first | exact (bnot_f.1 h) | (have h2 := (bnot_f.1 h); simp only [choice_lk, lock_eq] at h2; exact h2) | (simp only [choice_lk, lock_eq] at h; exact (bnot_f.1 h))
                                              rw [if_pos h1] at hr
                                              (try cbv)
                                              have gg := guard_inv hr
                                              have g := gg.1
                                              replace hr := gg.2
                                              clear gg
                                              refine ⟨obl.2 (by first | (simp only [choice_lk, lock_eq, R.len, R.sub]; exact g) | exact g), ?_⟩
                                              have gg := guard_inv hr
                                              have g := gg.1
                                              replace hr := gg.2
                                              clear gg
                                              refine ⟨obl.2 (by first | (simp only [choice_lk, lock_eq, R.len, R.sub]; exact g) | exact g), ?_⟩
                                              apply Hidden.out
                                              obtain rfl := Option.some.inj hr
                                              constructor
                                              refine ⟨⟨_, rfl⟩, ?_⟩
                                              rintro ⟨u0, u1⟩ e
                                              replace e := Sum.inl.inj e
                                              simp only [Prod.mk.injEq] at e
                                              obtain ⟨e0, e1⟩ := e
                                              refine le_auto hk ?_
                                              (try cbv); (try simp only [choice_lk, lock_eq, and_self, and_true, true_and]); (try first | exact e | exact e.symm | (and_intros <;> first | assumption | rfl | exact Eq.symm (by assumption)))
                                      · have h1 : (ilt i8 (ofN (xlen s2))) = false := by first | exact h | (have h2 := h; simp only [choice_lk, lock_eq] at h2; exact h2) | (simp only [choice_lk, lock_eq] at h; exact h)
                                        rw [if_neg (by rw [h1]; exact Bool.false_ne_true)] at hr
                                        (try cbv)
                                        have gg := guard_inv hr
                                        have g := gg.1
                                        replace hr := gg.2
                                        clear gg
                                        refine ⟨obl.2 (by first | (simp only [choice_lk, lock_eq, R.len, R.sub]; exact g) | exact g), ?_⟩
                                        refine sel_intro (fun h => ?_) (fun h => ?_)
                                        · have h1 : (ieq (getB s5 (toN i10)) (0 : Int)) = false := by first | exact (bnot_t.1 h) | (have h2 := (bnot_t.1 h); simp only [choice_lk, lock_eq] at h2; exact h2) | (simp only [choice_lk, lock_eq] at h; exact (bnot_t.1 h))
                                          rw [if_neg (by rw [h1]; exact Bool.false_ne_true)] at hr
                                          (try cbv)
                                          apply Hidden.out
                                          obtain rfl := Option.some.inj hr
                                          have e := (ht2 _ rfl).symm
                                          subst e
                                          have e := ht1 _ rfl
                                          constructor
                                          refine ⟨_, hF, ?_⟩
                                          (try cbv); (try simp only [choice_lk, lock_eq, and_self, and_true, true_and]); (try first | exact e | exact e.symm | (and_intros <;> first | assumption | rfl | exact Eq.symm (by assumption)))
                                        · have h1 : (ieq (getB s5 (toN i10)) (0 : Int)) = true := by first | exact (bnot_f.1 h) | (have h2 := (bnot_f.1 h); simp only [choice_lk, lock_eq] at h2; exact h2) | (simp only [choice_lk, lock_eq] at h; exact (bnot_f.1 h))
                                          rw [if_pos h1] at hr
                                          (try cbv)
                                          have gg := guard_inv hr
                                          have g := gg.1
                                          replace hr := gg.2
                                          clear gg
                                          refine ⟨obl.2 (by first | (simp only [choice_lk, lock_eq, R.len, R.sub]; exact g) | exact g), ?_⟩
                                          have gg := guard_inv hr
                                          have g := gg.1
                                          replace hr := gg.2
                                          clear gg
                                          refine ⟨obl.2 (by first | (simp only [choice_lk, lock_eq, R.len, R.sub]; exact g) | exact g), ?_⟩
                                          apply Hidden.out
                                          obtain rfl := Option.some.inj hr
                                          constructor
                                          refine ⟨⟨_, rfl⟩, ?_⟩
                                          rintro ⟨u0, u1⟩ e
                                          replace e := Sum.inl.inj e
                                          simp only [Prod.mk.injEq] at e
                                          obtain ⟨e0, e1⟩ := e
                                          refine le_auto hk ?_
                                          (try cbv); (try simp only [choice_lk, lock_eq, and_self, and_true, true_and]); (try first | exact e | exact e.symm | (and_intros <;> first | assumption | rfl | exact Eq.symm (by assumption)))
                                  · as_aux_lemma =>
                                    have h1 : (ilt i10 (64 : Int)) = false := by first | exact h | (have h2 := h; simp only [choice_lk, lock_eq] at h2; exact h2) | (simp only [choice_lk, lock_eq] at h; exact h)
                                    rw [if_neg (by rw [h1]; exact Bool.false_ne_true)] at hr
                                    (try cbv)
                                    have hqe : ∃ qq, F_block_Device_Read i8 false i6 r2 = some qq := by
                                      cases hq : F_block_Device_Read i8 false i6 r2 with
                                      | none => rw [hq] at hr; cases hr
                                      | some qq => exact ⟨qq, rfl⟩
                                    refine ⟨obl.2 (by simp only [choice_lk, lock_eq]; exact hqe), (by rintro (⟨_, _⟩) _ <;> cbv), ?_⟩
                                    clear hqe
                                    intro qq hx42
                                    simp only [choice_lk, lock_eq] at hx42
                                    rcases qq with ⟨y18, t18⟩
                                    all_goals (rw [hx42] at hr; dsimp only at hr; constructor; (try cbv))
                                    refine sel_intro (fun h => ?_) (fun h => ?_)
                                    · have h1 : (ieq (ofN (xlen t18)) (64 : Int)) = false := by first | exact (bnot_t.1 h) | (have h2 := (bnot_t.1 h); simp only [choice_lk, lock_eq] at h2; exact h2) | (simp only [choice_lk, lock_eq] at h; exact (bnot_t.1 h))
                                      rw [if_neg (by rw [h1]; exact Bool.false_ne_true)] at hr
                                      (try cbv)
                                      apply Hidden.out
                                      obtain rfl := Option.some.inj hr
                                      have e := (ht2 _ rfl).symm
                                      subst e
                                      have e := ht1 _ rfl
                                      constructor
                                      refine ⟨_, hF, ?_⟩
                                      (try cbv); (try simp only [choice_lk, lock_eq, and_self, and_true, true_and]); (try first | exact e | exact e.symm | (and_intros <;> first | assumption | rfl | exact Eq.symm (by assumption)))
                                    · as_aux_lemma =>
                                      have h1 : (ieq (ofN (xlen t18)) (64 : Int)) = true := by first | exact (bnot_f.1 h) | (have h2 := (bnot_f.1 h); simp only [choice_lk, lock_eq] at h2; exact h2) | (simp only [choice_lk, lock_eq] at h; exact (bnot_f.1 h))
                                      rw [if_pos h1] at hr
                                      (try cbv)
                                      have gg := guard_inv hr
                                      have g := gg.1
                                      replace hr := gg.2
                                      clear gg
                                      refine ⟨obl.2 (by first | (simp only [choice_lk, lock_eq, R.len, R.sub]; exact g) | exact g), ?_⟩
                                      refine sel_intro (fun h => ?_) (fun h => ?_)
                                      · as_aux_lemma =>
                                        have h1 : (ieq (getB t18 (toN (63 : Int))) (77 : Int)) = true := by first | exact h | (have h2 := h; simp only [choice_lk, lock_eq] at h2; exact h2) | (simp only [choice_lk, lock_eq] at h; exact h)
                                        rw [if_pos h1] at hr
                                        (try cbv)
                                        refine sel_intro (fun h => ?_) (fun h => ?_)
                                        · have h1 : (ile (ofN (xlen s1)) i8) = true := by first | exact h | (have h2 := h; simp only [choice_lk, lock_eq] at h2; exact h2) | (simp only [choice_lk, lock_eq] at h; exact h)
                                          rw [if_pos h1] at hr
                                          (try cbv)
                                          refine sel_intro (fun h => ?_) (fun h => ?_)
                                          · have h1 : (ile (ofN (xlen s2)) i8) = true := by first | exact h | (have h2 := h; simp only [choice_lk, lock_eq] at h2; exact h2) | (simp only [choice_lk, lock_eq] at h; exact h)
                                            rw [if_pos h1] at hr
                                            (try cbv)
                                            apply Hidden.out
                                            obtain rfl := Option.some.inj hr
                                            have e := (ht2 _ rfl).symm
                                            subst e
                                            have e := ht1 _ rfl
                                            constructor
                                            refine ⟨_, hF, ?_⟩
                                            (try cbv); (try simp only [choice_lk, lock_eq, and_self, and_true, true_and]); (try first | exact e | exact e.symm | (and_intros <;> first | assumption | rfl | exact Eq.symm (by assumption)))
                                          · have h1 : (ile (ofN (xlen s2)) i8) = false := by first | exact h | (have h2 := h; simp only [choice_lk, lock_eq] at h2; exact h2) | (simp only [choice_lk, lock_eq] at h; exact h)
                                            rw [if_neg (by rw [h1]; exact Bool.false_ne_true)] at hr
                                            (try cbv)
                                            have gg := guard_inv hr
                                            have g := gg.1
                                            replace hr := gg.2
                                            clear gg
                                            refine ⟨obl.2 (by first | (simp only [choice_lk, lock_eq, R.len, R.sub]; exact g) | exact g), ?_⟩
                                            refine sel_intro (fun h => ?_) (fun h => ?_)
                                            · have h1 : (ieq (getB s2 (toN i8)) (77 : Int)) = false := by first | exact (bnot_t.1 h) | (have h2 := (bnot_t.1 h); simp only [choice_lk, lock_eq] at h2; exact h2) | (simp only [choice_lk, lock_eq] at h; exact (bnot_t.1 h))
                                              rw [if_neg (by rw [h1]; exact Bool.false_ne_true)] at hr
                                              (try cbv)
                                              apply Hidden.out
                                              obtain rfl := Option.some.inj hr
                                              have e := (ht2 _ rfl).symm
                                              subst e
                                              have e := ht1 _ rfl
                                              constructor
                                              refine ⟨_, hF, ?_⟩
                                              (try cbv); (try simp only [choice_lk, lock_eq, and_self, and_true, true_and]); (try first | exact e | exact e.symm | (and_intros <;> first | assumption | rfl | exact Eq.symm (by assumption)))
                                            · have h1 : (ieq (getB s2 (toN i8)) (77 : Int)) = true := by first | exact (bnot_f.1 h) | (have h2 := (bnot_f.1 h); simp only [choice_lk, lock_eq] at h2; exact h2) | (simp only [choice_lk, lock_eq] at h; exact (bnot_f.1 h))
                                              rw [if_pos h1] at hr
                                              (try cbv)
                                              apply Hidden.out
                                              obtain rfl := Option.some.inj hr
                                              have e := (ht2 _ rfl).symm
                                              subst e
                                              constructor
                                              refine ⟨⟨_, rfl⟩, ?_⟩
                                              rintro u0 e
                                              replace e := Sum.inl.inj e
                                              refine le_auto hk ?_
                                              (try cbv); (try simp only [choice_lk, lock_eq, and_self, and_true, true_and]); (try first | exact e | exact e.symm | (and_intros <;> first | assumption | rfl | exact Eq.symm (by assumption)))
                                        · as_aux_lemma =>
                                          have h1 : (ile (ofN (xlen s1)) i8) = false := by first | exact h | (have h2 := h; simp only [choice_lk, lock_eq] at h2; exact h2) | (simp only [choice_lk, lock_eq] at h; exact h)
                                          rw [if_neg (by rw [h1]; exact Bool.false_ne_true)] at hr
                                          (try cbv)
                                          have gg := guard_inv hr
                                          have g := gg.1
                                          replace hr := gg.2
                                          clear gg
                                          refine ⟨obl.2 (by first | (simp only [choice_lk, lock_eq, R.len, R.sub]; exact g) | exact g), ?_⟩
                                          refine sel_intro (fun h => ?_) (fun h => ?_)
                                          · have h1 : (ieq (getB s1 (toN i8)) (77 : Int)) = false := by first | exact (bnot_t.1 h) | (have h2 := (bnot_t.1 h); simp only [choice_lk, lock_eq] at h2; exact h2) | (simp only [choice_lk, lock_eq] at h; exact (bnot_t.1 h))
                                            rw [if_neg (by rw [h1]; exact Bool.false_ne_true)] at hr
                                            (try cbv)
                                            refine sel_intro (fun h => ?_) (fun h => ?_)
                                            · have h1 : (ile (ofN (xlen s2)) i8) = true := by first | exact h | (have h2 := h; simp only [choice_lk, lock_eq] at h2; exact h2) | (simp only [choice_lk, lock_eq] at h; exact h)
                                              rw [if_pos h1] at hr
                                              (try cbv)
                                              apply Hidden.out
                                              obtain rfl := Option.some.inj hr
                                              have e := (ht2 _ rfl).symm
                                              subst e
                                              have e := ht1 _ rfl
                                              constructor
                                              refine ⟨_, hF, ?_⟩
                                              (try cbv); (try simp only [choice_lk, lock_eq, and_self, and_true, true_and]); (try first | exact e | exact e.symm | (and_intros <;> first | assumption | rfl | exact Eq.symm (by assumption)))
                                            · have h1 : (ile (ofN (xlen s2)) i8) = false := by first | exact h | (have h2 := h; simp only [choice_lk, lock_eq] at h2; exact h2) | (simp only [choice_lk, lock_eq] at h; exact h)
                                              rw [if_neg (by rw [h1]; exact Bool.false_ne_true)] at hr
                                              (try cbv)
                                              have gg := guard_inv hr
                                              have g := gg.1
                                              replace hr := gg.2
                                              clear gg
                                              refine ⟨obl.2 (by first | (simp only [choice_lk, lock_eq, R.len, R.sub]; exact g) | exact g), ?_⟩
                                              refine sel_intro (fun h => ?_) (fun h => ?_)
                                              · have h1 : (ieq (getB s2 (toN i8)) (77 : Int)) = false := by first | exact (bnot_t.1 h) | (have h2 := (bnot_t.1 h); simp only [choice_lk, lock_eq] at h2; exact h2) | (simp only [choice_lk, lock_eq] at h; exact (bnot_t.1 h))
                                                rw [if_neg (by rw [h1]; exact Bool.false_ne_true)] at hr
                                                (try cbv)
                                                apply Hidden.out
                                                obtain rfl := Option.some.inj hr
                                                have e := (ht2 _ rfl).symm
                                                subst e
                                                have e := ht1 _ rfl
                                                constructor
                                                refine ⟨_, hF, ?_⟩
                                                (try cbv); (try simp only [choice_lk, lock_eq, and_self, and_true, true_and]); (try first | exact e | exact e.symm | (and_intros <;> first | assumption | rfl | exact Eq.symm (by assumption)))
                                              · have h1 : (ieq (getB s2 (toN i8)) (77 : Int)) = true := by first | exact (bnot_f.1 h) | (have h2 := (bnot_f.1 h); simp only [choice_lk, lock_eq] at h2; exact h2) | (simp only [choice_lk, lock_eq] at h; exact (bnot_f.1 h))
                                                rw [if_pos h1] at hr
                                                (try cbv)
                                                apply Hidden.out
                                                obtain rfl := Option.some.inj hr
                                                have e := (ht2 _ rfl).symm
                                                subst e
                                                constructor
                                                refine ⟨⟨_, rfl⟩, ?_⟩
                                                rintro u0 e
                                                replace e := Sum.inl.inj e
                                                refine le_auto hk ?_
                                                (try cbv); (try simp only [choice_lk, lock_eq, and_self, and_true, true_and]); (try first | exact e | exact e.symm | (and_intros <;> first | assumption | rfl | exact Eq.symm (by assumption)))
                                          · have h1 : (ieq (getB s1 (toN i8)) (77 : Int)) = true := by first | exact (bnot_f.1 h) | (have h2 := (bnot_f.1 h); simp only [choice_lk, lock_eq] at h2; exact h2) | (simp only [choice_lk, lock_eq] at h; exact (bnot_f.1 h))
                                            rw [if_pos h1] at hr
                                            (try cbv)
                                            apply Hidden.out
                                            obtain rfl := Option.some.inj hr
                                            have e := (ht2 _ rfl).symm
                                            subst e
                                            constructor
                                            refine ⟨⟨_, rfl⟩, ?_⟩
                                            rintro u0 e
                                            replace e := Sum.inl.inj e
                                            refine le_auto hk ?_
                                            (try cbv); (try simp only [choice_lk, lock_eq, and_self, and_true, true_and]); (try first | exact e | exact e.symm | (and_intros <;> first | assumption | rfl | exact Eq.symm (by assumption)))
                                      · have h1 : (ieq (getB t18 (toN (63 : Int))) (77 : Int)) = false := by first | exact h | (have h2 := h; simp only [choice_lk, lock_eq] at h2; exact h2) | (simp only [choice_lk, lock_eq] at h; exact h)
                                        rw [if_neg (by rw [h1]; exact Bool.false_ne_true)] at hr
                                        (try cbv)
                                        apply Hidden.out
                                        obtain rfl := Option.some.inj hr
                                        have e := (ht2 _ rfl).symm
                                        subst e
                                        constructor
                                        refine ⟨⟨_, rfl⟩, ?_⟩
                                        rintro u0 e
                                        replace e := Sum.inl.inj e
                                        refine le_auto hk ?_
                                        (try cbv); (try simp only [choice_lk, lock_eq, and_self, and_true, true_and]); (try first | exact e | exact e.symm | (and_intros <;> first | assumption | rfl | exact Eq.symm (by assumption)))
                          · have h1 : (ilt i8 (40 : Int)) = false := by first | exact h | (have h2 := h; simp only [choice_lk, lock_eq] at h2; exact h2) | (simp only [choice_lk, lock_eq] at h; exact h)
                            rw [if_neg (by rw [h1]; exact Bool.false_ne_true)] at hr
                            (try cbv)
                            apply Hidden.out
                            obtain rfl := Option.some.inj hr
                            have e := ht1 _ rfl
                            constructor
                            refine ⟨_, hF, ?_⟩
                            (try cbv); (try simp only [choice_lk, lock_eq, and_self, and_true, true_and]); (try first | exact e | exact e.symm | (and_intros <;> first | assumption | rfl | exact Eq.symm (by assumption)))
                · apply Hidden.out
                  obtain ⟨t, hr2, hw⟩ := map_inv hr
                  clear hr
                  subst hw
                  have e := (ht1 _ rfl).symm
                  subst e
                  have hr := hr2
                  clear hr2
                  constructor
                  refine LoopOK.iter T (drawOK T hm) (B := (F_tollbarlaw31_BlockTears_L9 s2 x1 s1)) hr (fun | (.inl (i11, i12, r3, i13)) => ⟨mkFr [(0, (.rsl (.bs 5 s1))), (1, (.rsl (.bs 5 s2))), (8, (.ptr 0 0)), (10, (.v (.int .i64 (lock irem (lock iconv .i64 (lock iquo .u16 x1 (256 : Int))) (65 : Int))))), (11, (.v (.int .i64 (lock iconv .i64 (lock irem x1 (256 : Int)))))), (12, (.v (.int .i64 i11)))] 198 0, [(0, .blk 53 [(.wsl 1), (.v (.bool false)), (.ptr 2 0), (.v (.int .i64 i12))]), (1, .row (.row 57 (.u8s 64) r3)), (2, .blk 56 [(.v (.int .i64 i13)), (.v (.int .i64 (lock irem (lock iconv .i64 (lock iquo .u16 x1 (256 : Int))) (65 : Int))))])], 3⟩ | (.inr (i14, i15, i16, i17, r4)) => ⟨mkFr [(0, (.rsl (.bs 5 s1))), (1, (.rsl (.bs 5 s2))), (8, (.ptr 0 0)), (10, (.v (.int .i64 i14))), (11, (.v (.int .i64 i15))), (12, (.v (.int .i64 i16)))] 198 0, [(0, .blk 53 [(.wsl 1), (.v (.bool true)), (.v (.pointer none)), (.v (.int .i64 i17))]), (1, .row (.row 57 (.u8s 64) r4))], 2⟩) ?_ ?_
                  · rintro x1 e
                    apply Hidden.out
                    revert e
                    rcases x1 with ⟨u0, u1, u2, u3⟩ | _ <;> intro e
                    · replace e := Sum.inl.inj e
                      simp only [Prod.mk.injEq] at e
                      obtain ⟨e0, e1, e2, e3⟩ := e
                      constructor
                      refine le_auto hk ?_
                      (try cbv); (try simp only [choice_lk, lock_eq, and_self, and_true, true_and]); (try first | exact e | exact e.symm | (and_intros <;> first | assumption | rfl | exact Eq.symm (by assumption)))
                    · cases e
                  · clear hr
                    intro x bb1 hr ht1
                    rcases x with ⟨i11, i12, r3, i13⟩ | ⟨i14, i15, i16, i17, r4⟩
                    · as_aux_lemma =>
                      constructor
                      unfold F_tollbarlaw31_BlockTears_L9 at hr
                      (try dsimp only at hr)
                      (try cbv)
                      refine sel_intro (fun h => ?_) (fun h => ?_)
                      · as_aux_lemma =>
                        have h1 : (ilt i11 (ofN (xlen s2))) = true := by first | exact h | (have h2 := h; simp only [choice_lk, lock_eq] at h2; exact h2) | (simp only [choice_lk, lock_eq] at h; exact h)
                        rw [if_pos h1] at hr
                        (try cbv)
                        have gg := guard_inv hr
                        have g := gg.1
                        replace hr := gg.2
                        clear gg
                        refine ⟨obl.2 (by first | (simp only [choice_lk, lock_eq, R.len, R.sub]; exact g) | exact g), ?_⟩
                        have hqe : ∃ qq, F_tollbarlaw31_filled (getB s2 (toN i11)) = some qq := by
                          cases hq : F_tollbarlaw31_filled (getB s2 (toN i11)) with
                          | none => rw [hq] at hr; cases hr
                          | some qq => exact ⟨qq, rfl⟩
                        refine ⟨obl.2 (by simp only [choice_lk, lock_eq]; exact hqe), (by rintro (_) _ <;> cbv), ?_⟩
                        clear hqe
                        intro t23 hx51
                        simp only [choice_lk, lock_eq] at hx51
                        all_goals (rw [hx51] at hr; dsimp only at hr; constructor; (try cbv))
                        have hqe : ∃ qq, F_block_Device_Write_2 i11 t23 false i12 r3 i13 (irem (iconv .i64 (iquo .u16 x1 (256 : Int))) (65 : Int)) = some qq := by
                          cases hq : F_block_Device_Write_2 i11 t23 false i12 r3 i13 (irem (iconv .i64 (iquo .u16 x1 (256 : Int))) (65 : Int)) with
                          | none => rw [hq] at hr; cases hr
                          | some qq => exact ⟨qq, rfl⟩
                        refine ⟨obl.2 (by simp only [choice_lk, lock_eq]; exact hqe), (by rintro (⟨_, _, _, _⟩ | _) _ <;> cbv), ?_⟩
                        clear hqe
                        intro qq hx52
                        simp only [choice_lk, lock_eq] at hx52
                        rcases qq with ⟨y30, y31, q15, y32⟩ | q16
                        all_goals (rw [hx52] at hr; dsimp only at hr; constructor; (try cbv))
                        · refine sel_intro (fun h => ?_) (fun h => ?_)
                          · have h1 : (beq2 (ieq y30 (0 : Int)) (ilt i11 (iconv .i64 (irem x1 (256 : Int))))) = false := by first | exact (bnot_t.1 h) | (have h2 := (bnot_t.1 h); simp only [choice_lk, lock_eq] at h2; exact h2) | (simp only [choice_lk, lock_eq] at h; exact (bnot_t.1 h))
                            rw [if_neg (by rw [h1]; exact Bool.false_ne_true)] at hr
                            (try cbv)
                            apply Hidden.out
                            obtain rfl := Option.some.inj hr
                            have e := ht1 _ rfl
                            constructor
                            refine ⟨_, hF, ?_⟩
                            (try cbv); (try simp only [choice_lk, lock_eq, and_self, and_true, true_and]); (try first | exact e | exact e.symm | (and_intros <;> first | assumption | rfl | exact Eq.symm (by assumption)))
                          · have h1 : (beq2 (ieq y30 (0 : Int)) (ilt i11 (iconv .i64 (irem x1 (256 : Int))))) = true := by first | exact (bnot_f.1 h) | (have h2 := (bnot_f.1 h); simp only [choice_lk, lock_eq] at h2; exact h2) | (simp only [choice_lk, lock_eq] at h; exact (bnot_f.1 h))
                            rw [if_pos h1] at hr
                            (try cbv)
                            refine sel_intro (fun h => ?_) (fun h => ?_)
                            · have h1 : (ieq y30 (0 : Int)) = false := by first | exact (bnot_t.1 h) | (have h2 := (bnot_t.1 h); simp only [choice_lk, lock_eq] at h2; exact h2) | (simp only [choice_lk, lock_eq] at h; exact (bnot_t.1 h))
                              rw [if_neg (by rw [h1]; exact Bool.false_ne_true)] at hr
                              (try cbv)
                              refine sel_intro (fun h => ?_) (fun h => ?_)
                              · have h1 : (ieq y30 (3 : Int)) = false := by first | exact (bnot_t.1 h) | (have h2 := (bnot_t.1 h); simp only [choice_lk, lock_eq] at h2; exact h2) | (simp only [choice_lk, lock_eq] at h; exact (bnot_t.1 h))
                                rw [if_neg (by rw [h1]; exact Bool.false_ne_true)] at hr
                                (try cbv)
                                apply Hidden.out
                                obtain rfl := Option.some.inj hr
                                have e := ht1 _ rfl
                                constructor
                                refine ⟨_, hF, ?_⟩
                                (try cbv); (try simp only [choice_lk, lock_eq, and_self, and_true, true_and]); (try first | exact e | exact e.symm | (and_intros <;> first | assumption | rfl | exact Eq.symm (by assumption)))
                              · have h1 : (ieq y30 (3 : Int)) = true := by first | exact (bnot_f.1 h) | (have h2 := (bnot_f.1 h); simp only [choice_lk, lock_eq] at h2; exact h2) | (simp only [choice_lk, lock_eq] at h; exact (bnot_f.1 h))
                                rw [if_pos h1] at hr
                                (try cbv)
                                apply Hidden.out
                                obtain rfl := Option.some.inj hr
                                constructor
                                refine ⟨⟨_, rfl⟩, ?_⟩
                                rintro x1 e
                                replace e := Sum.inl.inj e
                                apply Hidden.out
                                revert e
                                rcases x1 with ⟨u0, u1, u2, u3⟩ | _ <;> intro e
                                · replace e := Sum.inl.inj e
                                  simp only [Prod.mk.injEq] at e
                                  obtain ⟨e0, e1, e2, e3⟩ := e
                                  constructor
                                  refine le_auto hk ?_
                                  (try cbv); (try simp only [choice_lk, lock_eq, and_self, and_true, true_and]); (try first | exact e | exact e.symm | (and_intros <;> first | assumption | rfl | exact Eq.symm (by assumption)))
                                · cases e
                            · have h1 : (ieq y30 (0 : Int)) = true := by first | exact (bnot_f.1 h) | (have h2 := (bnot_f.1 h); simp only [choice_lk, lock_eq] at h2; exact h2) | (simp only [choice_lk, lock_eq] at h; exact (bnot_f.1 h))
                              rw [if_pos h1] at hr
                              (try cbv)
                              apply Hidden.out
                              obtain rfl := Option.some.inj hr
                              constructor
                              refine ⟨⟨_, rfl⟩, ?_⟩
                              rintro x1 e
                              replace e := Sum.inl.inj e
                              apply Hidden.out
                              revert e
                              rcases x1 with ⟨u0, u1, u2, u3⟩ | _ <;> intro e
                              · replace e := Sum.inl.inj e
                                simp only [Prod.mk.injEq] at e
                                obtain ⟨e0, e1, e2, e3⟩ := e
                                constructor
                                refine le_auto hk ?_
                                (try cbv); (try simp only [choice_lk, lock_eq, and_self, and_true, true_and]); (try first | exact e | exact e.symm | (and_intros <;> first | assumption | rfl | exact Eq.symm (by assumption)))
                              · cases e
                        · refine sel_intro (fun h => ?_) (fun h => ?_)
                          · have h1 : (beq2 (ieq (3 : Int) (0 : Int)) (ilt i11 (iconv .i64 (irem x1 (256 : Int))))) = false := by first | exact (bnot_t.1 h) | (have h2 := (bnot_t.1 h); simp only [choice_lk, lock_eq] at h2; exact h2) | (simp only [choice_lk, lock_eq] at h; exact (bnot_t.1 h))
                            rw [if_neg (by rw [h1]; exact Bool.false_ne_true)] at hr
                            (try cbv)
                            apply Hidden.out
                            obtain rfl := Option.some.inj hr
                            have e := ht1 _ rfl
                            constructor
                            refine ⟨_, hF, ?_⟩
                            (try cbv); (try simp only [choice_lk, lock_eq, and_self, and_true, true_and]); (try first | exact e | exact e.symm | (and_intros <;> first | assumption | rfl | exact Eq.symm (by assumption)))
                          · have h1 : (beq2 (ieq (3 : Int) (0 : Int)) (ilt i11 (iconv .i64 (irem x1 (256 : Int))))) = true := by first | exact (bnot_f.1 h) | (have h2 := (bnot_f.1 h); simp only [choice_lk, lock_eq] at h2; exact h2) | (simp only [choice_lk, lock_eq] at h; exact (bnot_f.1 h))
                            rw [if_pos h1] at hr
                            (try cbv)
                            refine sel_intro (fun h => ?_) (fun h => ?_)
                            · have h1 : (ieq (3 : Int) (0 : Int)) = false := by first | exact (bnot_t.1 h) | (have h2 := (bnot_t.1 h); simp only [choice_lk, lock_eq] at h2; exact h2) | (simp only [choice_lk, lock_eq] at h; exact (bnot_t.1 h))
                              rw [if_neg (by rw [h1]; exact Bool.false_ne_true)] at hr
                              (try cbv)
                              refine sel_intro (fun h => ?_) (fun h => ?_)
                              · have h1 : (ieq (3 : Int) (3 : Int)) = false := by first | exact (bnot_t.1 h) | (have h2 := (bnot_t.1 h); simp only [choice_lk, lock_eq] at h2; exact h2) | (simp only [choice_lk, lock_eq] at h; exact (bnot_t.1 h))
                                rw [if_neg (by rw [h1]; exact Bool.false_ne_true)] at hr
                                (try cbv)
                                apply Hidden.out
                                obtain rfl := Option.some.inj hr
                                have e := ht1 _ rfl
                                constructor
                                refine ⟨_, hF, ?_⟩
                                (try cbv); (try simp only [choice_lk, lock_eq, and_self, and_true, true_and]); (try first | exact e | exact e.symm | (and_intros <;> first | assumption | rfl | exact Eq.symm (by assumption)))
                              · have h1 : (ieq (3 : Int) (3 : Int)) = true := by first | exact (bnot_f.1 h) | (have h2 := (bnot_f.1 h); simp only [choice_lk, lock_eq] at h2; exact h2) | (simp only [choice_lk, lock_eq] at h; exact (bnot_f.1 h))
                                rw [if_pos h1] at hr
                                (try cbv)
                                apply Hidden.out
                                obtain rfl := Option.some.inj hr
                                constructor
                                refine ⟨⟨_, rfl⟩, ?_⟩
                                rintro x1 e
                                replace e := Sum.inl.inj e
                                apply Hidden.out
                                revert e
                                rcases x1 with _ | ⟨u0, u1, u2, u3, u4⟩ <;> intro e
                                · cases e
                                · replace e := Sum.inr.inj e
                                  simp only [Prod.mk.injEq] at e
                                  obtain ⟨e0, e1, e2, e3, e4⟩ := e
                                  constructor
                                  refine le_auto hk ?_
                                  (try cbv); (try simp only [choice_lk, lock_eq, and_self, and_true, true_and]); (try first | exact e | exact e.symm | (and_intros <;> first | assumption | rfl | exact Eq.symm (by assumption)))
                            · have h1 : (ieq (3 : Int) (0 : Int)) = true := by first | exact (bnot_f.1 h) | (have h2 := (bnot_f.1 h); simp only [choice_lk, lock_eq] at h2; exact h2) | (simp only [choice_lk, lock_eq] at h; exact (bnot_f.1 h))
                              rw [if_pos h1] at hr
                              (try cbv)
                              apply Hidden.out
                              obtain rfl := Option.some.inj hr
                              constructor
                              refine ⟨⟨_, rfl⟩, ?_⟩
                              rintro x1 e
                              replace e := Sum.inl.inj e
                              apply Hidden.out
                              revert e
                              rcases x1 with _ | ⟨u0, u1, u2, u3, u4⟩ <;> intro e
                              · cases e
                              · replace e := Sum.inr.inj e
                                simp only [Prod.mk.injEq] at e
                                obtain ⟨e0, e1, e2, e3, e4⟩ := e
                                constructor
                                refine le_auto hk ?_
                                (try cbv); (try simp only [choice_lk, lock_eq, and_self, and_true, true_and]); (try first | exact e | exact e.symm | (and_intros <;> first | assumption | rfl | exact Eq.symm (by assumption)))
                      · as_aux_lemma =>
                        have h1 : (ilt i11 (ofN (xlen s2))) = false := by first | exact h | (have h2 := h; simp only [choice_lk, lock_eq] at h2; exact h2) | (simp only [choice_lk, lock_eq] at h; exact h)
                        rw [if_neg (by rw [h1]; exact Bool.false_ne_true)] at hr
                        (try cbv)
                        have hqe : ∃ qq, F_block_Device_Down_2 false i12 r3 i13 (irem (iconv .i64 (iquo .u16 x1 (256 : Int))) (65 : Int)) = some qq := by
                          cases hq : F_block_Device_Down_2 false i12 r3 i13 (irem (iconv .i64 (iquo .u16 x1 (256 : Int))) (65 : Int)) with
                          | none => rw [hq] at hr; cases hr
                          | some qq => exact ⟨qq, rfl⟩
                        refine ⟨obl.2 (by simp only [choice_lk, lock_eq]; exact hqe), (by rintro (_) _ <;> cbv), ?_⟩
                        clear hqe
                        intro qq hx53
                        simp only [choice_lk, lock_eq] at hx53
                        rcases qq with _
                        all_goals (rw [hx53] at hr; dsimp only at hr; constructor; (try cbv))
                        refine sel_intro (fun h => ?_) (fun h => ?_)
                        · have h1 : (beq2 false (ilt (iconv .i64 (irem x1 (256 : Int))) (ofN (xlen s2)))) = false := by first | exact (bnot_t.1 h) | (have h2 := (bnot_t.1 h); simp only [choice_lk, lock_eq] at h2; exact h2) | (simp only [choice_lk, lock_eq] at h; exact (bnot_t.1 h))
                          rw [if_neg (by rw [h1]; exact Bool.false_ne_true)] at hr
                          (try cbv)
                          apply Hidden.out
                          obtain rfl := Option.some.inj hr
                          have e := ht1 _ rfl
                          constructor
                          refine ⟨_, hF, ?_⟩
                          (try cbv); (try simp only [choice_lk, lock_eq, and_self, and_true, true_and]); (try first | exact e | exact e.symm | (and_intros <;> first | assumption | rfl | exact Eq.symm (by assumption)))
                        · as_aux_lemma =>
                          have h1 : (beq2 false (ilt (iconv .i64 (irem x1 (256 : Int))) (ofN (xlen s2)))) = true := by first | exact (bnot_f.1 h) | (have h2 := (bnot_f.1 h); simp only [choice_lk, lock_eq] at h2; exact h2) | (simp only [choice_lk, lock_eq] at h; exact (bnot_f.1 h))
                          rw [if_pos h1] at hr
                          (try cbv)
                          have hqe : ∃ qq, F_block_Device_Up_2 false i12 r3 i13 (irem (iconv .i64 (iquo .u16 x1 (256 : Int))) (65 : Int)) = some qq := by
                            cases hq : F_block_Device_Up_2 false i12 r3 i13 (irem (iconv .i64 (iquo .u16 x1 (256 : Int))) (65 : Int)) with
                            | none => rw [hq] at hr; cases hr
                            | some qq => exact ⟨qq, rfl⟩
                          refine ⟨obl.2 (by simp only [choice_lk, lock_eq]; exact hqe), (by rintro (_) _ <;> cbv), ?_⟩
                          clear hqe
                          intro qq hx54
                          simp only [choice_lk, lock_eq] at hx54
                          rcases qq with _
                          all_goals (rw [hx54] at hr; dsimp only at hr; constructor; (try cbv))
                          apply Hidden.out
                          obtain ⟨t, hr2, hw⟩ := map_inv hr
                          clear hr
                          subst hw
                          have e := (ht1 _ rfl).symm
                          subst e
                          have hr := hr2
                          clear hr2
                          constructor
                          refine LoopOK.iter T (drawOK T hm) (B := (F_tollbarlaw31_BlockTears_L10 i12 r3 s1 s2 x1)) hr (fun | i19 => ⟨mkFr [(0, (.rsl (.bs 5 s1))), (1, (.rsl (.bs 5 s2))), (8, (.ptr 0 0)), (10, (.v (.int .i64 (lock irem (lock iconv .i64 (lock iquo .u16 x1 (256 : Int))) (65 : Int))))), (11, (.v (.int .i64 (lock iconv .i64 (lock irem x1 (256 : Int)))))), (14, (.v (.int .i64 i19)))] 198 0, [(0, .blk 53 [(.wsl 1), (.v (.bool false)), (.v (.pointer none)), (.v (.int .i64 i12))]), (1, .row (.row 57 (.u8s 64) r3))], 2⟩) ?_ ?_
                          · rintro u0 e
                            refine le_auto hk ?_
                            (try cbv); (try simp only [choice_lk, lock_eq, and_self, and_true, true_and]); (try first | exact e | exact e.symm | (and_intros <;> first | assumption | rfl | exact Eq.symm (by assumption)))
                          · clear hr
                            intro x bb1 hr ht1
                            obtain ⟨i19, hz⟩ : ∃ z, z = x := ⟨x, rfl⟩
                            subst hz
                            as_aux_lemma =>
                            constructor
                            unfold F_tollbarlaw31_BlockTears_L10 at hr
                            (try dsimp only at hr)
                            (try cbv)
                            refine sel_intro (fun h => ?_) (fun h => ?_)
                            · as_aux_lemma =>
                              have h1 : (ilt i19 (40 : Int)) = true := by first | exact h | (have h2 := h; simp only [choice_lk, lock_eq] at h2; exact h2) | (simp only [choice_lk, lock_eq] at h; exact h)
                              rw [if_pos h1] at hr
                              (try cbv)
                              have hqe : ∃ qq, F_block_Device_Read i19 false i12 r3 = some qq := by
                                cases hq : F_block_Device_Read i19 false i12 r3 with
                                | none => rw [hq] at hr; cases hr
                                | some qq => exact ⟨qq, rfl⟩
                              refine ⟨obl.2 (by simp only [choice_lk, lock_eq]; exact hqe), (by rintro (⟨_, _⟩) _ <;> cbv), ?_⟩
                              clear hqe
                              intro qq hx59
                              simp only [choice_lk, lock_eq] at hx59
                              rcases qq with ⟨y37, t28⟩
                              all_goals (rw [hx59] at hr; dsimp only at hr; constructor; (try cbv))
                              refine sel_intro (fun h => ?_) (fun h => ?_)
                              · have h1 : (ieq y37 (0 : Int)) = false := by first | exact (bnot_t.1 h) | (have h2 := (bnot_t.1 h); simp only [choice_lk, lock_eq] at h2; exact h2) | (simp only [choice_lk, lock_eq] at h; exact (bnot_t.1 h))
                                rw [if_neg (by rw [h1]; exact Bool.false_ne_true)] at hr
                                (try cbv)
                                apply Hidden.out
                                obtain rfl := Option.some.inj hr
                                have e := ht1 _ rfl
                                constructor
                                refine ⟨_, hF, ?_⟩
                                (try cbv); (try simp only [choice_lk, lock_eq, and_self, and_true, true_and]); (try first | exact e | exact e.symm | (and_intros <;> first | assumption | rfl | exact Eq.symm (by assumption)))
                              · as_aux_lemma =>
                                have h1 : (ieq y37 (0 : Int)) = true := by first | exact (bnot_f.1 h) | (have h2 := (bnot_f.1 h); simp only [choice_lk, lock_eq] at h2; exact h2) | (simp only [choice_lk, lock_eq] at h; exact (bnot_f.1 h))
                                rw [if_pos h1] at hr
                                (try cbv)
                                refine sel_intro (fun h => ?_) (fun h => ?_)
                                · have h1 : (ieq (ofN (xlen t28)) (64 : Int)) = false := by first | exact (bnot_t.1 h) | (have h2 := (bnot_t.1 h); simp only [choice_lk, lock_eq] at h2; exact h2) | (simp only [choice_lk, lock_eq] at h; exact (bnot_t.1 h))
                                  rw [if_neg (by rw [h1]; exact Bool.false_ne_true)] at hr
                                  (try cbv)
                                  apply Hidden.out
                                  obtain rfl := Option.some.inj hr
                                  have e := ht1 _ rfl
                                  constructor
                                  refine ⟨_, hF, ?_⟩
                                  (try cbv); (try simp only [choice_lk, lock_eq, and_self, and_true, true_and]); (try first | exact e | exact e.symm | (and_intros <;> first | assumption | rfl | exact Eq.symm (by assumption)))
                                · as_aux_lemma =>
                                  have h1 : (ieq (ofN (xlen t28)) (64 : Int)) = true := by first | exact (bnot_f.1 h) | (have h2 := (bnot_f.1 h); simp only [choice_lk, lock_eq] at h2; exact h2) | (simp only [choice_lk, lock_eq] at h; exact (bnot_f.1 h))
                                  rw [if_pos h1] at hr
                                  (try cbv)
                                  refine LoopOK.iter T (drawOK T hm) (B := (F_tollbarlaw31_BlockTears_L11 i19 s1 s2 x1 i12 r3)) hr (fun | (i21, s8) => ⟨mkFr [(0, (.rsl (.bs 5 s1))), (1, (.rsl (.bs 5 s2))), (8, (.ptr 0 0)), (10, (.v (.int .i64 (lock irem (lock iconv .i64 (lock iquo .u16 x1 (256 : Int))) (65 : Int))))), (11, (.v (.int .i64 (lock iconv .i64 (lock irem x1 (256 : Int)))))), (14, (.v (.int .i64 i19))), (15, (.wsl 1)), (17, (.v (.int .i64 i21)))] 198 0, [(0, .blk 53 [(.wsl 2), (.v (.bool false)), (.v (.pointer none)), (.v (.int .i64 i12))]), (1, .row (.bs 57 s8)), (2, .row (.row 57 (.u8s 64) r3))], 3⟩) ?_ ?_
                                  · rintro ⟨u0, u1⟩ e
                                    simp only [Prod.mk.injEq] at e
                                    obtain ⟨e0, e1⟩ := e
                                    refine le_auto hk ?_
                                    (try cbv); (try simp only [choice_lk, lock_eq, and_self, and_true, true_and]); (try first | exact e | exact e.symm | (and_intros <;> first | assumption | rfl | exact Eq.symm (by assumption)))
                                  · clear hr
                                    intro x bb2 hr ht2
                                    obtain ⟨i21, s8⟩ := x
                                    as_aux_lemma =>
                                    constructor
                                    unfold F_tollbarlaw31_BlockTears_L11 at hr
                                    (try dsimp only at hr)
                                    (try cbv)
                                    refine sel_intro (fun h => ?_) (fun h => ?_)
                                    · as_aux_lemma =>
                                      have h1 : (ilt i21 (64 : Int)) = true := by first | exact h | (have h2 := h; simp only [choice_lk, lock_eq] at h2; exact h2) | (simp only [choice_lk, lock_eq] at h; exact h)
                                      rw [if_pos h1] at hr
                                      (try cbv)
                                      refine sel_intro (fun h => ?_) (fun h => ?_)
                                      · as_aux_lemma =>
                                        have h1 : (ilt i19 (ofN (xlen s1))) = true := by first | exact h | (have h2 := h; simp only [choice_lk, lock_eq] at h2; exact h2) | (simp only [choice_lk, lock_eq] at h; exact h)
                                        rw [if_pos h1] at hr
                                        (try cbv)
                                        have gg := guard_inv hr
                                        have g := gg.1
                                        replace hr := gg.2
                                        clear gg
                                        refine ⟨obl.2 (by first | (simp only [choice_lk, lock_eq, R.len, R.sub]; exact g) | exact g), ?_⟩
                                        refine sel_intro (fun h => ?_) (fun h => ?_)
                                        · as_aux_lemma =>
                                          have h1 : (ilt i19 (ofN (xlen s2))) = true := by first | exact h | (have h2 := h; simp only [choice_lk, lock_eq] at h2; exact h2) | (simp only [choice_lk, lock_eq] at h; exact h)
                                          rw [if_pos h1] at hr
                                          (try cbv)
                                          refine sel_intro (fun h => ?_) (fun h => ?_)
                                          · have h1 : (ilt i19 (iconv .i64 (irem x1 (256 : Int)))) = true := by first | exact h | (have h2 := h; simp only [choice_lk, lock_eq] at h2; exact h2) | (simp only [choice_lk, lock_eq] at h; exact h)
                                            rw [if_pos h1] at hr
                                            (try cbv)
                                            have gg := guard_inv hr
                                            have g := gg.1
                                            replace hr := gg.2
                                            clear gg
                                            refine ⟨obl.2 (by first | (simp only [choice_lk, lock_eq, R.len, R.sub]; exact g) | exact g), ?_⟩
                                            have gg := guard_inv hr
                                            have g := gg.1
                                            replace hr := gg.2
                                            clear gg
                                            refine ⟨obl.2 (by first | (simp only [choice_lk, lock_eq, R.len, R.sub]; exact g) | exact g), ?_⟩
                                            refine sel_intro (fun h => ?_) (fun h => ?_)
                                            · have h1 : (ieq (getB s8 (toN i21)) (getB s2 (toN i19))) = false := by first | exact (bnot_t.1 h) | (have h2 := (bnot_t.1 h); simp only [choice_lk, lock_eq] at h2; exact h2) | (simp only [choice_lk, lock_eq] at h; exact (bnot_t.1 h))
                                              rw [if_neg (by rw [h1]; exact Bool.false_ne_true)] at hr
                                              (try cbv)
                                              apply Hidden.out
                                              obtain rfl := Option.some.inj hr
                                              have e := (ht2 _ rfl).symm
                                              subst e
                                              have e := ht1 _ rfl
                                              constructor
                                              refine ⟨_, hF, ?_⟩
                                              (try cbv); (try simp only [choice_lk, lock_eq, and_self, and_true, true_and]); (try first | exact e | exact e.symm | (and_intros <;> first | assumption | rfl | exact Eq.symm (by assumption)))
                                            · have h1 : (ieq (getB s8 (toN i21)) (getB s2 (toN i19))) = true := by first | exact (bnot_f.1 h) | (have h2 := (bnot_f.1 h); simp only [choice_lk, lock_eq] at h2; exact h2) | (simp only [choice_lk, lock_eq] at h; exact (bnot_f.1 h))
                                              rw [if_pos h1] at hr
                                              (try cbv)
                                              have gg := guard_inv hr
                                              have g := gg.1
                                              replace hr := gg.2
                                              clear gg
                                              refine ⟨obl.2 (by first | (simp only [choice_lk, lock_eq, R.len, R.sub]; exact g) | exact g), ?_⟩
                                              have gg := guard_inv hr
                                              have g := gg.1
                                              replace hr := gg.2
                                              clear gg
                                              refine ⟨obl.2 (by first | (simp only [choice_lk, lock_eq, R.len, R.sub]; exact g) | exact g), ?_⟩
                                              apply Hidden.out
                                              obtain rfl := Option.some.inj hr
                                              constructor
                                              refine ⟨⟨_, rfl⟩, ?_⟩
                                              rintro ⟨u0, u1⟩ e
                                              replace e := Sum.inl.inj e
                                              simp only [Prod.mk.injEq] at e
                                              obtain ⟨e0, e1⟩ := e
                                              refine le_auto hk ?_
                                              (try cbv); (try simp only [choice_lk, lock_eq, and_self, and_true, true_and]); (try first | exact e | exact e.symm | (and_intros <;> first | assumption | rfl | exact Eq.symm (by assumption)))
                                          · as_aux_lemma =>
                                            have h1 : (ilt i19 (iconv .i64 (irem x1 (256 : Int)))) = false := by first | exact h | (have h2 := h; simp only [choice_lk, lock_eq] at h2; exact h2) | (simp only [choice_lk, lock_eq] at h; exact h)
                                            rw [if_neg (by rw [h1]; exact Bool.false_ne_true)] at hr
                                            (try cbv)
                                            refine sel_intro (fun h => ?_) (fun h => ?_)
                                            · as_aux_lemma =>
                                              have h1 : (ieq i19 (iconv .i64 (irem x1 (256 : Int)))) = true := by first | exact h | (have h2 := h; simp only [choice_lk, lock_eq] at h2; exact h2) | (simp only [choice_lk, lock_eq] at h; exact h)
                                              rw [if_pos h1] at hr
                                              (try cbv)
                                              refine sel_intro (fun h => ?_) (fun h => ?_)
                                              · have h1 : (ilt i21 (irem (iconv .i64 (iquo .u16 x1 (256 : Int))) (65 : Int))) = true := by first | exact h | (have h2 := h; simp only [choice_lk, lock_eq] at h2; exact h2) | (simp only [choice_lk, lock_eq] at h; exact h)
                                                rw [if_pos h1] at hr
                                                (try cbv)
                                                have gg := guard_inv hr
                                                have g := gg.1
                                                replace hr := gg.2
                                                clear gg
                                                refine ⟨obl.2 (by first | (simp only [choice_lk, lock_eq, R.len, R.sub]; exact g) | exact g), ?_⟩
                                                have gg := guard_inv hr
                                                have g := gg.1
                                                replace hr := gg.2
                                                clear gg
                                                refine ⟨obl.2 (by first | (simp only [choice_lk, lock_eq, R.len, R.sub]; exact g) | exact g), ?_⟩
                                                refine sel_intro (fun h => ?_) (fun h => ?_)
                                                · have h1 : (ieq (getB s8 (toN i21)) (getB s2 (toN i19))) = false := by first | exact (bnot_t.1 h) | (have h2 := (bnot_t.1 h); simp only [choice_lk, lock_eq] at h2; exact h2) | (simp only [choice_lk, lock_eq] at h; exact (bnot_t.1 h))
                                                  rw [if_neg (by rw [h1]; exact Bool.false_ne_true)] at hr
                                                  (try cbv)
                                                  apply Hidden.out
                                                  obtain rfl := Option.some.inj hr
                                                  have e := (ht2 _ rfl).symm
                                                  subst e
                                                  have e := ht1 _ rfl
                                                  constructor
                                                  refine ⟨_, hF, ?_⟩
                                                  (try cbv); (try simp only [choice_lk, lock_eq, and_self, and_true, true_and]); (try first | exact e | exact e.symm | (and_intros <;> first | assumption | rfl | exact Eq.symm (by assumption)))
                                                · have h1 : (ieq (getB s8 (toN i21)) (getB s2 (toN i19))) = true := by first | exact (bnot_f.1 h) | (have h2 := (bnot_f.1 h); simp only [choice_lk, lock_eq] at h2; exact h2) | (simp only [choice_lk, lock_eq] at h; exact (bnot_f.1 h))
                                                  rw [if_pos h1] at hr
                                                  (try cbv)
                                                  have gg := guard_inv hr
                                                  have g := gg.1
                                                  replace hr := gg.2
                                                  clear gg
                                                  refine ⟨obl.2 (by first | (simp only [choice_lk, lock_eq, R.len, R.sub]; exact g) | exact g), ?_⟩
                                                  have gg := guard_inv hr
                                                  have g := gg.1
                                                  replace hr := gg.2
                                                  clear gg
                                                  refine ⟨obl.2 (by first | (simp only [choice_lk, lock_eq, R.len, R.sub]; exact g) | exact g), ?_⟩
                                                  apply Hidden.out
                                                  obtain rfl := Option.some.inj hr
                                                  constructor
                                                  refine ⟨⟨_, rfl⟩, ?_⟩
                                                  rintro ⟨u0, u1⟩ e
                                                  replace e := Sum.inl.inj e
                                                  simp only [Prod.mk.injEq] at e
                                                  obtain ⟨e0, e1⟩ := e
                                                  refine le_auto hk ?_
                                                  (try cbv); (try simp only [choice_lk, lock_eq, and_self, and_true, true_and]); (try first | exact e | exact e.symm | (and_intros <;> first | assumption | rfl | exact Eq.symm (by assumption)))
                                              · have h1 : (ilt i21 (irem (iconv .i64 (iquo .u16 x1 (256 : Int))) (65 : Int))) = false := by first | exact h | (have h2 := h; simp only [choice_lk, lock_eq] at h2; exact h2) | (simp only [choice_lk, lock_eq] at h; exact h)
                                                rw [if_neg (by rw [h1]; exact Bool.false_ne_true)] at hr
                                                (try cbv)
                                                have gg := guard_inv hr
                                                have g := gg.1
                                                replace hr := gg.2
                                                clear gg
                                                refine ⟨obl.2 (by first | (simp only [choice_lk, lock_eq, R.len, R.sub]; exact g) | exact g), ?_⟩
                                                refine sel_intro (fun h => ?_) (fun h => ?_)
                                                · have h1 : (ieq (getB s8 (toN i21)) (getB s1 (toN i19))) = false := by first | exact (bnot_t.1 h) | (have h2 := (bnot_t.1 h); simp only [choice_lk, lock_eq] at h2; exact h2) | (simp only [choice_lk, lock_eq] at h; exact (bnot_t.1 h))
                                                  rw [if_neg (by rw [h1]; exact Bool.false_ne_true)] at hr
                                                  (try cbv)
                                                  apply Hidden.out
                                                  obtain rfl := Option.some.inj hr
                                                  have e := (ht2 _ rfl).symm
                                                  subst e
                                                  have e := ht1 _ rfl
                                                  constructor
                                                  refine ⟨_, hF, ?_⟩
                                                  (try cbv); (try simp only [choice_lk, lock_eq, and_self, and_true, true_and]); (try first | exact e | exact e.symm | (and_intros <;> first | assumption | rfl | exact Eq.symm (by assumption)))
                                                · have h1 : (ieq (getB s8 (toN i21)) (getB s1 (toN i19))) = true := by first | exact (bnot_f.1 h) | (have h2 := (bnot_f.1 h); simp only [choice_lk, lock_eq] at h2; exact h2) | (simp only [choice_lk, lock_eq] at h; exact (bnot_f.1 h))
                                                  rw [if_pos h1] at hr
                                                  (try cbv)
                                                  have gg := guard_inv hr
                                                  have g := gg.1
                                                  replace hr := gg.2
                                                  clear gg
                                                  refine ⟨obl.2 (by first | (simp only [choice_lk, lock_eq, R.len, R.sub]; exact g) | exact g), ?_⟩
                                                  have gg := guard_inv hr
                                                  have g := gg.1
                                                  replace hr := gg.2
                                                  clear gg
                                                  refine ⟨obl.2 (by first | (simp only [choice_lk, lock_eq, R.len, R.sub]; exact g) | exact g), ?_⟩
                                                  apply Hidden.out
                                                  obtain rfl := Option.some.inj hr
                                                  constructor
                                                  refine ⟨⟨_, rfl⟩, ?_⟩
                                                  rintro ⟨u0, u1⟩ e
                                                  replace e := Sum.inl.inj e
                                                  simp only [Prod.mk.injEq] at e
                                                  obtain ⟨e0, e1⟩ := e
                                                  refine le_auto hk ?_
                                                  (try cbv); (try simp only [choice_lk, lock_eq, and_self, and_true, true_and]); (try first | exact e | exact e.symm | (and_intros <;> first | assumption | rfl | exact Eq.symm (by assumption)))
                                            · have h1 : (ieq i19 (iconv .i64 (irem x1 (256 : Int)))) = false := by first | exact h | (have h2 := h; simp only [choice_lk, lock_eq] at h2; exact h2) | (simp only [choice_lk, lock_eq] at h; exact h)
                                              rw [if_neg (by rw [h1]; exact Bool.false_ne_true)] at hr
                                              (try cbv)
                                              have gg := guard_inv hr
                                              have g := gg.1
                                              replace hr := gg.2
                                              clear gg
                                              refine ⟨obl.2 (by first | (simp only [choice_lk, lock_eq, R.len, R.sub]; exact g) | exact g), ?_⟩
                                              refine sel_intro (fun h => ?_) (fun h => ?_)
                                              · have h1 : (ieq (getB s8 (toN i21)) (getB s1 (toN i19))) = false := by first | exact (bnot_t.1 h) | (have h2 := (bnot_t.1 h); simp only [choice_lk, lock_eq] at h2; exact h2) | (simp only [choice_lk, lock_eq] at h; exact (bnot_t.1 h))
                                                rw [if_neg (by rw [h1]; exact Bool.false_ne_true)] at hr
                                                (try cbv)
                                                apply Hidden.out
                                                obtain rfl := Option.some.inj hr
                                                have e := (ht2 _ rfl).symm
                                                subst e
                                                have e := ht1 _ rfl
                                                constructor
                                                refine ⟨_, hF, ?_⟩
                                                (try cbv); (try simp only [choice_lk, lock_eq, and_self, and_true, true_and]); (try first | exact e | exact e.symm | (and_intros <;> first | assumption | rfl | exact Eq.symm (by assumption)))
                                              · have h1 : (ieq (getB s8 (toN i21)) (getB s1 (toN i19))) = true := by first | exact (bnot_f.1 h) | (have h2 := (bnot_f.1 h); simp only [choice_lk, lock_eq] at h2; exact h2) | (simp only [choice_lk, lock_eq] at h; exact (bnot_f.1 h))
                                                rw [if_pos h1] at hr
                                                (try cbv)
                                                have gg := guard_inv hr
                                                have g := gg.1
                                                replace hr := gg.2
                                                clear gg
                                                refine ⟨obl.2 (by first | (simp only [choice_lk, lock_eq, R.len, R.sub]; exact g) | exact g), ?_⟩
                                                have gg := guard_inv hr
                                                have g := gg.1
                                                replace hr := gg.2
                                                clear gg
                                                refine ⟨obl.2 (by first | (simp only [choice_lk, lock_eq, R.len, R.sub]; exact g) | exact g), ?_⟩
                                                apply Hidden.out
                                                obtain rfl := Option.some.inj hr
                                                constructor
                                                refine ⟨⟨_, rfl⟩, ?_⟩
                                                rintro ⟨u0, u1⟩ e
                                                replace e := Sum.inl.inj e
                                                simp only [Prod.mk.injEq] at e
                                                obtain ⟨e0, e1⟩ := e
                                                refine le_auto hk ?_
                                                (try cbv); (try simp only [choice_lk, lock_eq, and_self, and_true, true_and]); (try first | exact e | exact e.symm | (and_intros <;> first | assumption | rfl | exact Eq.symm (by assumption)))
                                        · have h1 : (ilt i19 (ofN (xlen s2))) = false := by first | exact h | (have h2 := h; simp only [choice_lk, lock_eq] at h2; exact h2) | (simp only [choice_lk, lock_eq] at h; exact h)
                                          rw [if_neg (by rw [h1]; exact Bool.false_ne_true)] at hr
                                          (try cbv)
                                          have gg := guard_inv hr
                                          have g := gg.1
                                          replace hr := gg.2
                                          clear gg
                                          refine ⟨obl.2 (by first | (simp only [choice_lk, lock_eq, R.len, R.sub]; exact g) | exact g), ?_⟩
                                          refine sel_intro (fun h => ?_) (fun h => ?_)
                                          · have h1 : (ieq (getB s8 (toN i21)) (getB s1 (toN i19))) = false := by first | exact (bnot_t.1 h) | (have h2 := (bnot_t.1 h); simp only [choice_lk, lock_eq] at h2; exact h2) | (simp only [choice_lk, lock_eq] at h; exact (bnot_t.1 h))
                                            rw [if_neg (by rw [h1]; exact Bool.false_ne_true)] at hr
                                            (try cbv)
                                            apply Hidden.out
                                            obtain rfl := Option.some.inj hr
                                            have e := (ht2 _ rfl).symm
                                            subst e
                                            have e := ht1 _ rfl
                                            constructor
                                            refine ⟨_, hF, ?_⟩
                                            (try cbv); (try simp only [choice_lk, lock_eq, and_self, and_true, true_and]); (try first | exact e | exact e.symm | (and_intros <;> first | assumption | rfl | exact Eq.symm (by assumption)))
                                          · have h1 : (ieq (getB s8 (toN i21)) (getB s1 (toN i19))) = true := by first | exact (bnot_f.1 h) | (have h2 := (bnot_f.1 h); simp only [choice_lk, lock_eq] at h2; exact h2) | (simp only [choice_lk, lock_eq] at h; exact (bnot_f.1 h))
                                            rw [if_pos h1] at hr
                                            (try cbv)
                                            have gg := guard_inv hr
                                            have g := gg.1
                                            replace hr := gg.2
                                            clear gg
                                            refine ⟨obl.2 (by first | (simp only [choice_lk, lock_eq, R.len, R.sub]; exact g) | exact g), ?_⟩
                                            have gg := guard_inv hr
                                            have g := gg.1
                                            replace hr := gg.2
                                            clear gg
                                            refine ⟨obl.2 (by first | (simp only [choice_lk, lock_eq, R.len, R.sub]; exact g) | exact g), ?_⟩
                                            apply Hidden.out
                                            obtain rfl := Option.some.inj hr
                                            constructor
                                            refine ⟨⟨_, rfl⟩, ?_⟩
                                            rintro ⟨u0, u1⟩ e
                                            replace e := Sum.inl.inj e
                                            simp only [Prod.mk.injEq] at e
                                            obtain ⟨e0, e1⟩ := e
                                            refine le_auto hk ?_
                                            (try cbv); (try simp only [choice_lk, lock_eq, and_self, and_true, true_and]); (try first | exact e | exact e.symm | (and_intros <;> first | assumption | rfl | exact Eq.symm (by assumption)))
                                      · as_aux_lemma =>
                                        have h1 : (ilt i19 (ofN (xlen s1))) = false := by first | exact h | (have h2 := h; simp only [choice_lk, lock_eq] at h2; exact h2) | (simp only [choice_lk, lock_eq] at h; exact h)
                                        rw [if_neg (by rw [h1]; exact Bool.false_ne_true)] at hr
                                        (try cbv)
                                        refine sel_intro (fun h => ?_) (fun h => ?_)
                                        · as_aux_lemma =>
                                          have h1 : (ilt i19 (ofN (xlen s2))) = true := by first | exact h | (have h2 := h; simp only [choice_lk, lock_eq] at h2; exact h2) | (simp only [choice_lk, lock_eq] at h; exact h)
                                          rw [if_pos h1] at hr
                                          (try cbv)
                                          refine sel_intro (fun h => ?_) (fun h => ?_)
                                          · have h1 : (ilt i19 (iconv .i64 (irem x1 (256 : Int)))) = true := by first | exact h | (have h2 := h; simp only [choice_lk, lock_eq] at h2; exact h2) | (simp only [choice_lk, lock_eq] at h; exact h)
                                            rw [if_pos h1] at hr
                                            (try cbv)
                                            have gg := guard_inv hr
                                            have g := gg.1
                                            replace hr := gg.2
                                            clear gg
                                            refine ⟨obl.2 (by first | (simp only [choice_lk, lock_eq, R.len, R.sub]; exact g) | exact g), ?_⟩
                                            have gg := guard_inv hr
                                            have g := gg.1
                                            replace hr := gg.2
                                            clear gg
                                            refine ⟨obl.2 (by first | (simp only [choice_lk, lock_eq, R.len, R.sub]; exact g) | exact g), ?_⟩
                                            refine sel_intro (fun h => ?_) (fun h => ?_)
                                            · have h1 : (ieq (getB s8 (toN i21)) (getB s2 (toN i19))) = false := by first | exact (bnot_t.1 h) | (have h2 := (bnot_t.1 h); simp only [choice_lk, lock_eq] at h2; exact h2) | (simp only [choice_lk, lock_eq] at h; exact (bnot_t.1 h))
                                              rw [if_neg (by rw [h1]; exact Bool.false_ne_true)] at hr
                                              (try cbv)
                                              apply Hidden.out
                                              obtain rfl := Option.some.inj hr
                                              have e := (ht2 _ rfl).symm
                                              subst e
                                              have e := ht1 _ rfl
                                              constructor
                                              refine ⟨_, hF, ?_⟩
                                              (try cbv); (try simp only [choice_lk, lock_eq, and_self, and_true, true_and]); (try first | exact e | exact e.symm | (and_intros <;> first | assumption | rfl | exact Eq.symm (by assumption)))
                                            · have h1 : (ieq (getB s8 (toN i21)) (getB s2 (toN i19))) = true := by first | exact (bnot_f.1 h) | (have h2 := (bnot_f.1 h); simp only [choice_lk, lock_eq] at h2; exact h2) | (simp only [choice_lk, lock_eq] at h; exact (bnot_f.1 h))
                                              rw [if_pos h1] at hr
                                              (try cbv)
                                              have gg := guard_inv hr
                                              have g := gg.1
                                              replace hr := gg.2
                                              clear gg
                                              refine ⟨obl.2 (by first | (simp only [choice_lk, lock_eq, R.len, R.sub]; exact g) | exact g), ?_⟩
                                              have gg := guard_inv hr
                                              have g := gg.1
                                              replace hr := gg.2
                                              clear gg
                                              refine ⟨obl.2 (by first | (simp only [choice_lk, lock_eq, R.len, R.sub]; exact g) | exact g), ?_⟩
                                              apply Hidden.out
                                              obtain rfl := Option.some.inj hr
                                              constructor
                                              refine ⟨⟨_, rfl⟩, ?_⟩
                                              rintro ⟨u0, u1⟩ e
                                              replace e := Sum.inl.inj e
                                              simp only [Prod.mk.injEq] at e
                                              obtain ⟨e0, e1⟩ := e
                                              refine le_auto hk ?_
                                              (try cbv); (try simp only [choice_lk, lock_eq, and_self, and_true, true_and]); (try first | exact e | exact e.symm | (and_intros <;> first | assumption | rfl | exact Eq.symm (by assumption)))
                                          · as_aux_lemma =>
                                            have h1 : (ilt i19 (iconv .i64 (irem x1 (256 : Int)))) = false := by first | exact h | (have h2 := h; simp only [choice_lk, lock_eq] at h2; exact h2) | (simp only [choice_lk, lock_eq] at h; exact h)
                                            rw [if_neg (by rw [h1]; exact Bool.false_ne_true)] at hr
                                            (try cbv)
                                            refine sel_intro (fun h => ?_) (fun h => ?_)
                                            · as_aux_lemma =>
                                              have h1 : (ieq i19 (iconv .i64 (irem x1 (256 : Int)))) = true := by first | exact h | (have h2 := h; simp only [choice_lk, lock_eq] at h2; exact h2) | (simp only [choice_lk, lock_eq] at h; exact h)
                                              rw [if_pos h1] at hr
                                              (try cbv)
                                              refine sel_intro (fun h => ?_) (fun h => ?_)
                                              · have h1 : (ilt i21 (irem (iconv .i64 (iquo .u16 x1 (256 : Int))) (65 : Int))) = true := by first | exact h | (have h2 := h; simp only [choice_lk, lock_eq] at h2; exact h2) | (simp only [choice_lk, lock_eq] at h; exact h)
                                                rw [if_pos h1] at hr
                                                (try cbv)
                                                have gg := guard_inv hr
                                                have g := gg.1
                                                replace hr := gg.2
                                                clear gg
                                                refine ⟨obl.2 (by first | (simp only [choice_lk, lock_eq, R.len, R.sub]; exact g) | exact g), ?_⟩
                                                have gg := guard_inv hr
                                                have g := gg.1
                                                replace hr := gg.2
                                                clear gg
                                                refine ⟨obl.2 (by first | (simp only [choice_lk, lock_eq, R.len, R.sub]; exact g) | exact g), ?_⟩
                                                refine sel_intro (fun h => ?_) (fun h => ?_)
                                                · have h1 : (ieq (getB s8 (toN i21)) (getB s2 (toN i19))) = false := by first | exact (bnot_t.1 h) | (have h2 := (bnot_t.1 h); simp only [choice_lk, lock_eq] at h2; exact h2) | (simp only [choice_lk, lock_eq] at h; exact (bnot_t.1 h))
                                                  rw [if_neg (by rw [h1]; exact Bool.false_ne_true)] at hr
                                                  (try cbv)
                                                  apply Hidden.out
                                                  obtain rfl := Option.some.inj hr
                                                  have e := (ht2 _ rfl).symm
                                                  subst e
                                                  have e := ht1 _ rfl
                                                  constructor
                                                  refine ⟨_, hF, ?_⟩
                                                  (try cbv); (try simp only [choice_lk, lock_eq, and_self, and_true, true_and]); (try first | exact e | exact e.symm | (and_intros <;> first | assumption | rfl | exact Eq.symm (by assumption)))
                                                · have h1 : (ieq (getB s8 (toN i21)) (getB s2 (toN i19))) = true := by first | exact (bnot_f.1 h) | (have h2 := (bnot_f.1 h); simp only [choice_lk, lock_eq] at h2; exact h2) | (simp only [choice_lk, lock_eq] at h; exact (bnot_f.1 h))
                                                  rw [if_pos h1] at hr
                                                  (try cbv)
                                                  have gg := guard_inv hr
                                                  have g := gg.1
                                                  replace hr := gg.2
                                                  clear gg
                                                  refine ⟨obl.2 (by first | (simp only [choice_lk, lock_eq, R.len, R.sub]; exact g) | exact g), ?_⟩
                                                  have gg := guard_inv hr
                                                  have g := gg.1
                                                  replace hr := gg.2
                                                  clear gg
                                                  refine ⟨obl.2 (by first | (simp only [choice_lk, lock_eq, R.len, R.sub]; exact g) | exact g), ?_⟩
                                                  apply Hidden.out
                                                  obtain rfl := Option.some.inj hr
                                                  constructor
                                                  refine ⟨⟨_, rfl⟩, ?_⟩
                                                  rintro ⟨u0, u1⟩ e
                                                  replace e := Sum.inl.inj e
                                                  simp only [Prod.mk.injEq] at e
                                                  obtain ⟨e0, e1⟩ := e
                                                  refine le_auto hk ?_
                                                  (try cbv); (try simp only [choice_lk, lock_eq, and_self, and_true, true_and]); (try first | exact e | exact e.symm | (and_intros <;> first | assumption | rfl | exact Eq.symm (by assumption)))
                                              · have h1 : (ilt i21 (irem (iconv .i64 (iquo .u16 x1 (256 : Int))) (65 : Int))) = false := by first | exact h | (have h2 := h; simp only [choice_lk, lock_eq] at h2; exact h2) | (simp only [choice_lk, lock_eq] at h; exact h)
                                                rw [if_neg (by rw [h1]; exact Bool.false_ne_true)] at hr
                                                (try cbv)
                                                have gg := guard_inv hr
                                                have g := gg.1
                                                replace hr := gg.2
                                                clear gg
                                                refine ⟨obl.2 (by first | (simp only [choice_lk, lock_eq, R.len, R.sub]; exact g) | exact g), ?_⟩
                                                refine sel_intro (fun h => ?_) (fun h => ?_)
                                                · have h1 : (ieq (getB s8 (toN i21)) (0 : Int)) = false := by first | exact (bnot_t.1 h) | (have h2 := (bnot_t.1 h); simp only [choice_lk, lock_eq] at h2; exact h2) | (simp only [choice_lk, lock_eq] at h; exact (bnot_t.1 h))
                                                  rw [if_neg (by rw [h1]; exact Bool.false_ne_true)] at hr
                                                  (try cbv)
                                                  apply Hidden.out
                                                  obtain rfl := Option.some.inj hr
                                                  have e := (ht2 _ rfl).symm
                                                  subst e
                                                  have e := ht1 _ rfl
                                                  constructor
                                                  refine ⟨_, hF, ?_⟩
                                                  (try cbv); (try simp only [choice_lk, lock_eq, and_self, and_true, true_and]); (try first | exact e | exact e.symm | (and_intros <;> first | assumption | rfl | exact Eq.symm (by assumption)))
                                                · have h1 : (ieq (getB s8 (toN i21)) (0 : Int)) = true := by first | exact (bnot_f.1 h) | (have h2 := (bnot_f.1 h); simp only [choice_lk, lock_eq] at h2; exact h2) | (simp only [choice_lk, lock_eq] at h; exact (bnot_f.1 h))
                                                  rw [if_pos h1] at hr
                                                  (try cbv)
                                                  have gg := guard_inv hr
                                                  have g := gg.1
                                                  replace hr := gg.2
                                                  clear gg
                                                  refine ⟨obl.2 (by first | (simp only [choice_lk, lock_eq, R.len, R.sub]; exact g) | exact g), ?_⟩
                                                  have gg := guard_inv hr
                                                  have g := gg.1
                                                  replace hr := gg.2
                                                  clear gg
                                                  refine ⟨obl.2 (by first | (simp only [choice_lk, lock_eq, R.len, R.sub]; exact g) | exact g), ?_⟩
                                                  apply Hidden.out
                                                  obtain rfl := Option.some.inj hr
                                                  constructor
                                                  refine ⟨⟨_, rfl⟩, ?_⟩
                                                  rintro ⟨u0, u1⟩ e
                                                  replace e := Sum.inl.inj e
                                                  simp only [Prod.mk.injEq] at e
                                                  obtain ⟨e0, e1⟩ := e
                                                  refine le_auto hk ?_
                                                  (try cbv); (try simp only [choice_lk, lock_eq, and_self, and_true, true_and]); (try first | exact e | exact e.symm | (and_intros <;> first | assumption | rfl | exact Eq.symm (by assumption)))
                                            · have h1 : (ieq i19 (iconv .i64 (irem x1 (256 : Int)))) = false := by first | exact h | (have h2 := h; simp only [choice_lk, lock_eq] at h2; exact h2) | (simp only [choice_lk, lock_eq] at h; exact h)
                                              rw [if_neg (by rw [h1]; exact Bool.false_ne_true)] at hr
                                              (try cbv)
                                              have gg := guard_inv hr
                                              have g := gg.1
                                              replace hr := gg.2
                                              clear gg
                                              refine ⟨obl.2 (by first | (simp only [choice_lk, lock_eq, R.len, R.sub]; exact g) | exact g), ?_⟩
                                              refine sel_intro (fun h => ?_) (fun h => ?_)
                                              · have h1 : (ieq (getB s8 (toN i21)) (0 : Int)) = false := by first | exact (bnot_t.1 h) | (have h2 := (bnot_t.1 h); simp only [choice_lk, lock_eq] at h2; exact h2) | (simp only [choice_lk, lock_eq] at h; exact (bnot_t.1 h))
                                                rw [if_neg (by rw [h1]; exact Bool.false_ne_true)] at hr
                                                (try cbv)
                                                apply Hidden.out
                                                obtain rfl := Option.some.inj hr
                                                have e := (ht2 _ rfl).symm
                                                subst e
                                                have e := ht1 _ rfl
                                                constructor
                                                refine ⟨_, hF, ?_⟩
                                                (try cbv); (try simp only [choice_lk, lock_eq, and_self, and_true, true_and]); (try first | exact e | exact e.symm | (and_intros <;> first | assumption | rfl | exact Eq.symm (by assumption)))
                                              · have h1 : (ieq (getB s8 (toN i21)) (0 : Int)) = true := by first | exact (bnot_f.1 h) | (have h2 := (bnot_f.1 h); simp only [choice_lk, lock_eq] at h2; exact h2) | (simp only [choice_lk, lock_eq] at h; exact (bnot_f.1 h))
                                                rw [if_pos h1] at hr
                                                (try cbv)
                                                have gg := guard_inv hr
                                                have g := gg.1
                                                replace hr := gg.2
                                                clear gg
                                                refine ⟨obl.2 (by first | (simp only [choice_lk, lock_eq, R.len, R.sub]; exact g) | exact g), ?_⟩
                                                have gg := guard_inv hr
                                                have g := gg.1
                                                replace hr := gg.2
                                                clear gg
                                                refine ⟨obl.2 (by first | (simp only [choice_lk, lock_eq, R.len, R.sub]; exact g) | exact g), ?_⟩
                                                apply Hidden.out
                                                obtain rfl := Option.some.inj hr
                                                constructor
                                                refine ⟨⟨_, rfl⟩, ?_⟩
                                                rintro ⟨u0, u1⟩ e
                                                replace e := Sum.inl.inj e
                                                simp only [Prod.mk.injEq] at e
                                                obtain ⟨e0, e1⟩ := e
                                                refine le_auto hk ?_
                                                (try cbv); (try simp only [choice_lk, lock_eq, and_self, and_true, true_and]); (try first | exact e | exact e.symm | (and_intros <;> first | assumption | rfl | exact Eq.symm (by assumption)))
                                        · have h1 : (ilt i19 (ofN (xlen s2))) = false := by first | exact h | (have h2 := h; simp only [choice_lk, lock_eq] at h2; exact h2) | (simp only [choice_lk, lock_eq] at h; exact h)
                                          rw [if_neg (by rw [h1]; exact Bool.false_ne_true)] at hr
                                          (try cbv)
                                          have gg := guard_inv hr
                                          have g := gg.1
                                          replace hr := gg.2
                                          clear gg
                                          refine ⟨obl.2 (by first | (simp only [choice_lk, lock_eq, R.len, R.sub]; exact g) | exact g), ?_⟩
                                          refine sel_intro (fun h => ?_) (fun h => ?_)
                                          · have h1 : (ieq (getB s8 (toN i21)) (0 : Int)) = false := by first | exact (bnot_t.1 h) | (have h2 := (bnot_t.1 h); simp only [choice_lk, lock_eq] at h2; exact h2) | (simp only [choice_lk, lock_eq] at h; exact (bnot_t.1 h))
                                            rw [if_neg (by rw [h1]; exact Bool.false_ne_true)] at hr
                                            (try cbv)
                                            apply Hidden.out
                                            obtain rfl := Option.some.inj hr
                                            have e := (ht2 _ rfl).symm
                                            subst e
                                            have e := ht1 _ rfl
                                            constructor
                                            refine ⟨_, hF, ?_⟩
                                            (try cbv); (try simp only [choice_lk, lock_eq, and_self, and_true, true_and]); (try first | exact e | exact e.symm | (and_intros <;> first | assumption | rfl | exact Eq.symm (by assumption)))
                                          · have h1 : (ieq (getB s8 (toN i21)) (0 : Int)) = true := by first | exact (bnot_f.1 h) | (have h2 := (bnot_f.1 h); simp only [choice_lk, lock_eq] at h2; exact h2) | (simp only [choice_lk, lock_eq] at h; exact (bnot_f.1 h))
                                            rw [if_pos h1] at hr
                                            (try cbv)
                                            have gg := guard_inv hr
                                            have g := gg.1
                                            replace hr := gg.2
                                            clear gg
                                            refine ⟨obl.2 (by first | (simp only [choice_lk, lock_eq, R.len, R.sub]; exact g) | exact g), ?_⟩
                                            have gg := guard_inv hr
                                            have g := gg.1
                                            replace hr := gg.2
                                            clear gg
                                            refine ⟨obl.2 (by first | (simp only [choice_lk, lock_eq, R.len, R.sub]; exact g) | exact g), ?_⟩
                                            apply Hidden.out
                                            obtain rfl := Option.some.inj hr
                                            constructor
                                            refine ⟨⟨_, rfl⟩, ?_⟩
                                            rintro ⟨u0, u1⟩ e
                                            replace e := Sum.inl.inj e
                                            simp only [Prod.mk.injEq] at e
                                            obtain ⟨e0, e1⟩ := e
                                            refine le_auto hk ?_
                                            (try cbv); (try simp only [choice_lk, lock_eq, and_self, and_true, true_and]); (try first | exact e | exact e.symm | (and_intros <;> first | assumption | rfl | exact Eq.symm (by assumption)))
                                    · as_aux_lemma =>
                                      have h1 : (ilt i21 (64 : Int)) = false := by first | exact h | (have h2 := h; simp only [choice_lk, lock_eq] at h2; exact h2) | (simp only [choice_lk, lock_eq] at h; exact h)
                                      rw [if_neg (by rw [h1]; exact Bool.false_ne_true)] at hr
                                      (try cbv)
                                      have hqe : ∃ qq, F_block_Device_Read i19 false i12 r3 = some qq := by
                                        cases hq : F_block_Device_Read i19 false i12 r3 with
                                        | none => rw [hq] at hr; cases hr
                                        | some qq => exact ⟨qq, rfl⟩
                                      refine ⟨obl.2 (by simp only [choice_lk, lock_eq]; exact hqe), (by rintro (⟨_, _⟩) _ <;> cbv), ?_⟩
                                      clear hqe
                                      intro qq hx60
                                      simp only [choice_lk, lock_eq] at hx60
                                      rcases qq with ⟨y38, t29⟩
                                      all_goals (rw [hx60] at hr; dsimp only at hr; constructor; (try cbv))
                                      refine sel_intro (fun h => ?_) (fun h => ?_)
                                      · have h1 : (ieq (ofN (xlen t29)) (64 : Int)) = false := by first | exact (bnot_t.1 h) | (have h2 := (bnot_t.1 h); simp only [choice_lk, lock_eq] at h2; exact h2) | (simp only [choice_lk, lock_eq] at h; exact (bnot_t.1 h))
                                        rw [if_neg (by rw [h1]; exact Bool.false_ne_true)] at hr
                                        (try cbv)
                                        apply Hidden.out
                                        obtain rfl := Option.some.inj hr
                                        have e := (ht2 _ rfl).symm
                                        subst e
                                        have e := ht1 _ rfl
                                        constructor
                                        refine ⟨_, hF, ?_⟩
                                        (try cbv); (try simp only [choice_lk, lock_eq, and_self, and_true, true_and]); (try first | exact e | exact e.symm | (and_intros <;> first | assumption | rfl | exact Eq.symm (by assumption)))
                                      · as_aux_lemma =>
                                        have h1 : (ieq (ofN (xlen t29)) (64 : Int)) = true := by first | exact (bnot_f.1 h) | (have h2 := (bnot_f.1 h); simp only [choice_lk, lock_eq] at h2; exact h2) | (simp only [choice_lk, lock_eq] at h; exact (bnot_f.1 h))
                                        rw [if_pos h1] at hr
                                        (try cbv)
                                        have gg := guard_inv hr
                                        have g := gg.1
                                        replace hr := gg.2
                                        clear gg
                                        refine ⟨obl.2 (by first | (simp only [choice_lk, lock_eq, R.len, R.sub]; exact g) | exact g), ?_⟩
                                        refine sel_intro (fun h => ?_) (fun h => ?_)
                                        · as_aux_lemma =>
                                          have h1 : (ieq (getB t29 (toN (63 : Int))) (77 : Int)) = true := by first | exact h | (have h2 := h; simp only [choice_lk, lock_eq] at h2; exact h2) | (simp only [choice_lk, lock_eq] at h; exact h)
                                          rw [if_pos h1] at hr
                                          (try cbv)
                                          refine sel_intro (fun h => ?_) (fun h => ?_)
                                          · have h1 : (ile (ofN (xlen s1)) i19) = true := by first | exact h | (have h2 := h; simp only [choice_lk, lock_eq] at h2; exact h2) | (simp only [choice_lk, lock_eq] at h; exact h)
                                            rw [if_pos h1] at hr
                                            (try cbv)
                                            refine sel_intro (fun h => ?_) (fun h => ?_)
                                            · have h1 : (ile (ofN (xlen s2)) i19) = true := by first | exact h | (have h2 := h; simp only [choice_lk, lock_eq] at h2; exact h2) | (simp only [choice_lk, lock_eq] at h; exact h)
                                              rw [if_pos h1] at hr
                                              (try cbv)
                                              apply Hidden.out
                                              obtain rfl := Option.some.inj hr
                                              have e := (ht2 _ rfl).symm
                                              subst e
                                              have e := ht1 _ rfl
                                              constructor
                                              refine ⟨_, hF, ?_⟩
                                              (try cbv); (try simp only [choice_lk, lock_eq, and_self, and_true, true_and]); (try first | exact e | exact e.symm | (and_intros <;> first | assumption | rfl | exact Eq.symm (by assumption)))
                                            · have h1 : (ile (ofN (xlen s2)) i19) = false := by first | exact h | (have h2 := h; simp only [choice_lk, lock_eq] at h2; exact h2) | (simp only [choice_lk, lock_eq] at h; exact h)
                                              rw [if_neg (by rw [h1]; exact Bool.false_ne_true)] at hr
                                              (try cbv)
                                              have gg := guard_inv hr
                                              have g := gg.1
                                              replace hr := gg.2
                                              clear gg
                                              refine ⟨obl.2 (by first | (simp only [choice_lk, lock_eq, R.len, R.sub]; exact g) | exact g), ?_⟩
                                              refine sel_intro (fun h => ?_) (fun h => ?_)
                                              · have h1 : (ieq (getB s2 (toN i19)) (77 : Int)) = false := by first | exact (bnot_t.1 h) | (have h2 := (bnot_t.1 h); simp only [choice_lk, lock_eq] at h2; exact h2) | (simp only [choice_lk, lock_eq] at h; exact (bnot_t.1 h))
                                                rw [if_neg (by rw [h1]; exact Bool.false_ne_true)] at hr
                                                (try cbv)
                                                apply Hidden.out
                                                obtain rfl := Option.some.inj hr
                                                have e := (ht2 _ rfl).symm
                                                subst e
                                                have e := ht1 _ rfl
                                                constructor
                                                refine ⟨_, hF, ?_⟩
                                                (try cbv); (try simp only [choice_lk, lock_eq, and_self, and_true, true_and]); (try first | exact e | exact e.symm | (and_intros <;> first | assumption | rfl | exact Eq.symm (by assumption)))
                                              · have h1 : (ieq (getB s2 (toN i19)) (77 : Int)) = true := by first | exact (bnot_f.1 h) | (have h2 := (bnot_f.1 h); simp only [choice_lk, lock_eq] at h2; exact h2) | (simp only [choice_lk, lock_eq] at h; exact (bnot_f.1 h))
                                                rw [if_pos h1] at hr
                                                (try cbv)
                                                apply Hidden.out
                                                obtain rfl := Option.some.inj hr
                                                have e := (ht2 _ rfl).symm
                                                subst e
                                                constructor
                                                refine ⟨⟨_, rfl⟩, ?_⟩
                                                rintro u0 e
                                                replace e := Sum.inl.inj e
                                                refine le_auto hk ?_
                                                (try cbv); (try simp only [choice_lk, lock_eq, and_self, and_true, true_and]); (try first | exact e | exact e.symm | (and_intros <;> first | assumption | rfl | exact Eq.symm (by assumption)))
                                          · as_aux_lemma =>
                                            have h1 : (ile (ofN (xlen s1)) i19) = false := by first | exact h | (have h2 := h; simp only [choice_lk, lock_eq] at h2; exact h2) | (simp only [choice_lk, lock_eq] at h; exact h)
                                            rw [if_neg (by rw [h1]; exact Bool.false_ne_true)] at hr
                                            (try cbv)
                                            have gg := guard_inv hr
                                            have g := gg.1
                                            replace hr := gg.2
                                            clear gg
                                            refine ⟨obl.2 (by first | (simp only [choice_lk, lock_eq, R.len, R.sub]; exact g) | exact g), ?_⟩
                                            refine sel_intro (fun h => ?_) (fun h => ?_)
                                            · have h1 : (ieq (getB s1 (toN i19)) (77 : Int)) = false := by first | exact (bnot_t.1 h) | (have h2 := (bnot_t.1 h); simp only [choice_lk, lock_eq] at h2; exact h2) | (simp only [choice_lk, lock_eq] at h; exact (bnot_t.1 h))
                                              rw [if_neg (by rw [h1]; exact Bool.false_ne_true)] at hr
                                              (try cbv)
                                              refine sel_intro (fun h => ?_) (fun h => ?_)
                                              · have h1 : (ile (ofN (xlen s2)) i19) = true := by first | exact h | (have h2 := h; simp only [choice_lk, lock_eq] at h2; exact h2) | (simp only [choice_lk, lock_eq] at h; exact h)
                                                rw [if_pos h1] at hr
                                                (try cbv)
                                                apply Hidden.out
                                                obtain rfl := Option.some.inj hr
                                                have e := (ht2 _ rfl).symm
                                                subst e
                                                have e := ht1 _ rfl
                                                constructor
                                                refine ⟨_, hF, ?_⟩
                                                (try cbv); (try simp only [choice_lk, lock_eq, and_self, and_true, true_and]); (try first | exact e | exact e.symm | (and_intros <;> first | assumption | rfl | exact Eq.symm (by assumption)))
                                              · have h1 : (ile (ofN (xlen s2)) i19) = false := by first | exact h | (have h2 := h; simp only [choice_lk, lock_eq] at h2; exact h2) | (simp only [choice_lk, lock_eq] at h; exact h)
                                                rw [if_neg (by rw [h1]; exact Bool.false_ne_true)] at hr
                                                (try cbv)
                                                have gg := guard_inv hr
                                                have g := gg.1
                                                replace hr := gg.2
                                                clear gg
                                                refine ⟨obl.2 (by first | (simp only [choice_lk, lock_eq, R.len, R.sub]; exact g) | exact g), ?_⟩
                                                refine sel_intro (fun h => ?_) (fun h => ?_)
                                                · have h1 : (ieq (getB s2 (toN i19)) (77 : Int)) = false := by first | exact (bnot_t.1 h) | (have h2 := (bnot_t.1 h); simp only [choice_lk, lock_eq] at h2; exact h2) | (simp only [choice_lk, lock_eq] at h; exact (bnot_t.1 h))
                                                  rw [if_neg (by rw [h1]; exact Bool.false_ne_true)] at hr
                                                  (try cbv)
                                                  apply Hidden.out
                                                  obtain rfl := Option.some.inj hr
                                                  have e := (ht2 _ rfl).symm
                                                  subst e
                                                  have e := ht1 _ rfl
                                                  constructor
                                                  refine ⟨_, hF, ?_⟩
                                                  (try cbv); (try simp only [choice_lk, lock_eq, and_self, and_true, true_and]); (try first | exact e | exact e.symm | (and_intros <;> first | assumption | rfl | exact Eq.symm (by assumption)))
                                                · have h1 : (ieq (getB s2 (toN i19)) (77 : Int)) = true := by first | exact (bnot_f.1 h) | (have h2 := (bnot_f.1 h); simp only [choice_lk, lock_eq] at h2; exact h2) | (simp only [choice_lk, lock_eq] at h; exact (bnot_f.1 h))
                                                  rw [if_pos h1] at hr
                                                  (try cbv)
                                                  apply Hidden.out
                                                  obtain rfl := Option.some.inj hr
                                                  have e := (ht2 _ rfl).symm
                                                  subst e
                                                  constructor
                                                  refine ⟨⟨_, rfl⟩, ?_⟩
                                                  rintro u0 e
                                                  replace e := Sum.inl.inj e
                                                  refine le_auto hk ?_
                                                  (try cbv); (try simp only [choice_lk, lock_eq, and_self, and_true, true_and]); (try first | exact e | exact e.symm | (and_intros <;> first | assumption | rfl | exact Eq.symm (by assumption)))
                                            · have h1 : (ieq (getB s1 (toN i19)) (77 : Int)) = true := by first | exact (bnot_f.1 h) | (have h2 := (bnot_f.1 h); simp only [choice_lk, lock_eq] at h2; exact h2) | (simp only [choice_lk, lock_eq] at h; exact (bnot_f.1 h))
                                              rw [if_pos h1] at hr
                                              (try cbv)
                                              apply Hidden.out
                                              obtain rfl := Option.some.inj hr
                                              have e := (ht2 _ rfl).symm
                                              subst e
                                              constructor
                                              refine ⟨⟨_, rfl⟩, ?_⟩
                                              rintro u0 e
                                              replace e := Sum.inl.inj e
                                              refine le_auto hk ?_
                                              (try cbv); (try simp only [choice_lk, lock_eq, and_self, and_true, true_and]); (try first | exact e | exact e.symm | (and_intros <;> first | assumption | rfl | exact Eq.symm (by assumption)))
                                        · have h1 : (ieq (getB t29 (toN (63 : Int))) (77 : Int)) = false := by first | exact h | (have h2 := h; simp only [choice_lk, lock_eq] at h2; exact h2) | (simp only [choice_lk, lock_eq] at h; exact h)
                                          rw [if_neg (by rw [h1]; exact Bool.false_ne_true)] at hr
                                          (try cbv)
                                          apply Hidden.out
                                          obtain rfl := Option.some.inj hr
                                          have e := (ht2 _ rfl).symm
                                          subst e
                                          constructor
                                          refine ⟨⟨_, rfl⟩, ?_⟩
                                          rintro u0 e
                                          replace e := Sum.inl.inj e
                                          refine le_auto hk ?_
                                          (try cbv); (try simp only [choice_lk, lock_eq, and_self, and_true, true_and]); (try first | exact e | exact e.symm | (and_intros <;> first | assumption | rfl | exact Eq.symm (by assumption)))
                            · have h1 : (ilt i19 (40 : Int)) = false := by first | exact h | (have h2 := h; simp only [choice_lk, lock_eq] at h2; exact h2) | (simp only [choice_lk, lock_eq] at h; exact h)
                              rw [if_neg (by rw [h1]; exact Bool.false_ne_true)] at hr
                              (try cbv)
                              apply Hidden.out
                              obtain rfl := Option.some.inj hr
                              have e := ht1 _ rfl
                              constructor
                              refine ⟨_, hF, ?_⟩
                              (try cbv); (try simp only [choice_lk, lock_eq, and_self, and_true, true_and]); (try first | exact e | exact e.symm | (and_intros <;> first | assumption | rfl | exact Eq.symm (by assumption)))
                    · as_aux_lemma =>
                      constructor
                      unfold F_tollbarlaw31_BlockTears_L9 at hr
                      (try dsimp only at hr)
                      (try cbv)
                      refine sel_intro (fun h => ?_) (fun h => ?_)
                      · as_aux_lemma =>
                        have h1 : (ilt i16 (ofN (xlen s2))) = true := by first | exact h | (have h2 := h; simp only [choice_lk, lock_eq] at h2; exact h2) | (simp only [choice_lk, lock_eq] at h; exact h)
                        rw [if_pos h1] at hr
                        (try cbv)
                        have gg := guard_inv hr
                        have g := gg.1
                        replace hr := gg.2
                        clear gg
                        refine ⟨obl.2 (by first | (simp only [choice_lk, lock_eq, R.len, R.sub]; exact g) | exact g), ?_⟩
                        have hqe : ∃ qq, F_tollbarlaw31_filled (getB s2 (toN i16)) = some qq := by
                          cases hq : F_tollbarlaw31_filled (getB s2 (toN i16)) with
                          | none => rw [hq] at hr; cases hr
                          | some qq => exact ⟨qq, rfl⟩
                        refine ⟨obl.2 (by simp only [choice_lk, lock_eq]; exact hqe), (by rintro (_) _ <;> cbv), ?_⟩
                        clear hqe
                        intro t30 hx61
                        simp only [choice_lk, lock_eq] at hx61
                        all_goals (rw [hx61] at hr; dsimp only at hr; constructor; (try cbv))
                        have hqe : ∃ qq, F_block_Device_Write i16 t30 true i17 r4 = some qq := by
                          cases hq : F_block_Device_Write i16 t30 true i17 r4 with
                          | none => rw [hq] at hr; cases hr
                          | some qq => exact ⟨qq, rfl⟩
                        refine ⟨obl.2 (by simp only [choice_lk, lock_eq]; exact hqe), (by rintro (⟨_, _, _⟩) _ <;> cbv), ?_⟩
                        clear hqe
                        intro qq hx62
                        simp only [choice_lk, lock_eq] at hx62
                        rcases qq with ⟨y39, y40, q17⟩
                        all_goals (rw [hx62] at hr; dsimp only at hr; constructor; (try cbv))
                        refine sel_intro (fun h => ?_) (fun h => ?_)
                        · have h1 : (beq2 (ieq y39 (0 : Int)) (ilt i16 i15)) = false := by first | exact (bnot_t.1 h) | (have h2 := (bnot_t.1 h); simp only [choice_lk, lock_eq] at h2; exact h2) | (simp only [choice_lk, lock_eq] at h; exact (bnot_t.1 h))
                          rw [if_neg (by rw [h1]; exact Bool.false_ne_true)] at hr
                          (try cbv)
                          apply Hidden.out
                          obtain rfl := Option.some.inj hr
                          have e := ht1 _ rfl
                          constructor
                          refine ⟨_, hF, ?_⟩
                          (try cbv); (try simp only [choice_lk, lock_eq, and_self, and_true, true_and]); (try first | exact e | exact e.symm | (and_intros <;> first | assumption | rfl | exact Eq.symm (by assumption)))
                        · have h1 : (beq2 (ieq y39 (0 : Int)) (ilt i16 i15)) = true := by first | exact (bnot_f.1 h) | (have h2 := (bnot_f.1 h); simp only [choice_lk, lock_eq] at h2; exact h2) | (simp only [choice_lk, lock_eq] at h; exact (bnot_f.1 h))
                          rw [if_pos h1] at hr
                          (try cbv)
                          refine sel_intro (fun h => ?_) (fun h => ?_)
                          · have h1 : (ieq y39 (0 : Int)) = false := by first | exact (bnot_t.1 h) | (have h2 := (bnot_t.1 h); simp only [choice_lk, lock_eq] at h2; exact h2) | (simp only [choice_lk, lock_eq] at h; exact (bnot_t.1 h))
                            rw [if_neg (by rw [h1]; exact Bool.false_ne_true)] at hr
                            (try cbv)
                            refine sel_intro (fun h => ?_) (fun h => ?_)
                            · have h1 : (ieq y39 (3 : Int)) = false := by first | exact (bnot_t.1 h) | (have h2 := (bnot_t.1 h); simp only [choice_lk, lock_eq] at h2; exact h2) | (simp only [choice_lk, lock_eq] at h; exact (bnot_t.1 h))
                              rw [if_neg (by rw [h1]; exact Bool.false_ne_true)] at hr
                              (try cbv)
                              apply Hidden.out
                              obtain rfl := Option.some.inj hr
                              have e := ht1 _ rfl
                              constructor
                              refine ⟨_, hF, ?_⟩
                              (try cbv); (try simp only [choice_lk, lock_eq, and_self, and_true, true_and]); (try first | exact e | exact e.symm | (and_intros <;> first | assumption | rfl | exact Eq.symm (by assumption)))
                            · have h1 : (ieq y39 (3 : Int)) = true := by first | exact (bnot_f.1 h) | (have h2 := (bnot_f.1 h); simp only [choice_lk, lock_eq] at h2; exact h2) | (simp only [choice_lk, lock_eq] at h; exact (bnot_f.1 h))
                              rw [if_pos h1] at hr
                              (try cbv)
                              apply Hidden.out
                              obtain rfl := Option.some.inj hr
                              constructor
                              refine ⟨⟨_, rfl⟩, ?_⟩
                              rintro x1 e
                              replace e := Sum.inl.inj e
                              apply Hidden.out
                              revert e
                              rcases x1 with _ | ⟨u0, u1, u2, u3, u4⟩ <;> intro e
                              · cases e
                              · replace e := Sum.inr.inj e
                                simp only [Prod.mk.injEq] at e
                                obtain ⟨e0, e1, e2, e3, e4⟩ := e
                                constructor
                                refine le_auto hk ?_
                                (try cbv); (try simp only [choice_lk, lock_eq, and_self, and_true, true_and]); (try first | exact e | exact e.symm | (and_intros <;> first | assumption | rfl | exact Eq.symm (by assumption)))
                          · have h1 : (ieq y39 (0 : Int)) = true := by first | exact (bnot_f.1 h) | (have h2 := (bnot_f.1 h); simp only [choice_lk, lock_eq] at h2; exact h2) | (simp only [choice_lk, lock_eq] at h; exact (bnot_f.1 h))
                            rw [if_pos h1] at hr
                            (try cbv)
                            apply Hidden.out
                            obtain rfl := Option.some.inj hr
                            constructor
                            refine ⟨⟨_, rfl⟩, ?_⟩
                            rintro x1 e
                            replace e := Sum.inl.inj e
                            apply Hidden.out
                            revert e
                            rcases x1 with _ | ⟨u0, u1, u2, u3, u4⟩ <;> intro e
                            · cases e
                            · replace e := Sum.inr.inj e
                              simp only [Prod.mk.injEq] at e
                              obtain ⟨e0, e1, e2, e3, e4⟩ := e
                              constructor
                              refine le_auto hk ?_
                              (try cbv); (try simp only [choice_lk, lock_eq, and_self, and_true, true_and]); (try first | exact e | exact e.symm | (and_intros <;> first | assumption | rfl | exact Eq.symm (by assumption)))
                      · as_aux_lemma =>
                        have h1 : (ilt i16 (ofN (xlen s2))) = false := by first | exact h | (have h2 := h; simp only [choice_lk, lock_eq] at h2; exact h2) | (simp only [choice_lk, lock_eq] at h; exact h)
                        rw [if_neg (by rw [h1]; exact Bool.false_ne_true)] at hr
                        (try cbv)
                        have hqe : ∃ qq, F_block_Device_Down true i17 r4 = some qq := by
                          cases hq : F_block_Device_Down true i17 r4 with
                          | none => rw [hq] at hr; cases hr
                          | some qq => exact ⟨qq, rfl⟩
                        refine ⟨obl.2 (by simp only [choice_lk, lock_eq]; exact hqe), (by rintro (_) _ <;> cbv), ?_⟩
                        clear hqe
                        intro qq hx63
                        simp only [choice_lk, lock_eq] at hx63
                        rcases qq with _
                        all_goals (rw [hx63] at hr; dsimp only at hr; constructor; (try cbv))
                        refine sel_intro (fun h => ?_) (fun h => ?_)
                        · have h1 : (beq2 true (ilt i15 (ofN (xlen s2)))) = false := by first | exact (bnot_t.1 h) | (have h2 := (bnot_t.1 h); simp only [choice_lk, lock_eq] at h2; exact h2) | (simp only [choice_lk, lock_eq] at h; exact (bnot_t.1 h))
                          rw [if_neg (by rw [h1]; exact Bool.false_ne_true)] at hr
                          (try cbv)
                          apply Hidden.out
                          obtain rfl := Option.some.inj hr
                          have e := ht1 _ rfl
                          constructor
                          refine ⟨_, hF, ?_⟩
                          (try cbv); (try simp only [choice_lk, lock_eq, and_self, and_true, true_and]); (try first | exact e | exact e.symm | (and_intros <;> first | assumption | rfl | exact Eq.symm (by assumption)))
                        · as_aux_lemma =>
                          have h1 : (beq2 true (ilt i15 (ofN (xlen s2)))) = true := by first | exact (bnot_f.1 h) | (have h2 := (bnot_f.1 h); simp only [choice_lk, lock_eq] at h2; exact h2) | (simp only [choice_lk, lock_eq] at h; exact (bnot_f.1 h))
                          rw [if_pos h1] at hr
                          (try cbv)
                          have hqe : ∃ qq, F_block_Device_Up true i17 r4 = some qq := by
                            cases hq : F_block_Device_Up true i17 r4 with
                            | none => rw [hq] at hr; cases hr
                            | some qq => exact ⟨qq, rfl⟩
                          refine ⟨obl.2 (by simp only [choice_lk, lock_eq]; exact hqe), (by rintro (_) _ <;> cbv), ?_⟩
                          clear hqe
                          intro qq hx64
                          simp only [choice_lk, lock_eq] at hx64
                          rcases qq with _
                          all_goals (rw [hx64] at hr; dsimp only at hr; constructor; (try cbv))
                          apply Hidden.out
                          obtain ⟨t, hr2, hw⟩ := map_inv hr
                          clear hr
                          subst hw
                          have e := (ht1 _ rfl).symm
                          subst e
                          have hr := hr2
                          clear hr2
                          constructor
                          refine LoopOK.iter T (drawOK T hm) (B := (F_tollbarlaw31_BlockTears_L12 i17 r4 s1 s2 i15 i14)) hr (fun | i23 => ⟨mkFr [(0, (.rsl (.bs 5 s1))), (1, (.rsl (.bs 5 s2))), (8, (.ptr 0 0)), (10, (.v (.int .i64 i14))), (11, (.v (.int .i64 i15))), (14, (.v (.int .i64 i23)))] 198 0, [(0, .blk 53 [(.wsl 1), (.v (.bool false)), (.v (.pointer none)), (.v (.int .i64 i17))]), (1, .row (.row 57 (.u8s 64) r4))], 2⟩) ?_ ?_
                          · rintro u0 e
                            refine le_auto hk ?_
                            (try cbv); (try simp only [choice_lk, lock_eq, and_self, and_true, true_and]); (try first | exact e | exact e.symm | (and_intros <;> first | assumption | rfl | exact Eq.symm (by assumption)))
                          · clear hr
                            intro x bb1 hr ht1
                            obtain ⟨i23, hz⟩ : ∃ z, z = x := ⟨x, rfl⟩
                            subst hz
                            as_aux_lemma =>
                            constructor
                            unfold F_tollbarlaw31_BlockTears_L12 at hr
                            (try dsimp only at hr)
                            (try cbv)
                            refine sel_intro (fun h => ?_) (fun h => ?_)
                            · as_aux_lemma =>
                              have h1 : (ilt i23 (40 : Int)) = true := by first | exact h | (have h2 := h; simp only [choice_lk, lock_eq] at h2; exact h2) | (simp only [choice_lk, lock_eq] at h; exact h)
                              rw [if_pos h1] at hr
                              (try cbv)
                              have hqe : ∃ qq, F_block_Device_Read i23 false i17 r4 = some qq := by
                                cases hq : F_block_Device_Read i23 false i17 r4 with
                                | none => rw [hq] at hr; cases hr
                                | some qq => exact ⟨qq, rfl⟩
                              refine ⟨obl.2 (by simp only [choice_lk, lock_eq]; exact hqe), (by rintro (⟨_, _⟩) _ <;> cbv), ?_⟩
                              clear hqe
                              intro qq hx69
                              simp only [choice_lk, lock_eq] at hx69
                              rcases qq with ⟨y45, t35⟩
                              all_goals (rw [hx69] at hr; dsimp only at hr; constructor; (try cbv))
                              refine sel_intro (fun h => ?_) (fun h => ?_)
                              · have h1 : (ieq y45 (0 : Int)) = false := by first | exact (bnot_t.1 h) | (have h2 := (bnot_t.1 h); simp only [choice_lk, lock_eq] at h2; exact h2) | (simp only [choice_lk, lock_eq] at h; exact (bnot_t.1 h))
                                rw [if_neg (by rw [h1]; exact Bool.false_ne_true)] at hr
                                (try cbv)
                                apply Hidden.out
                                obtain rfl := Option.some.inj hr
                                have e := ht1 _ rfl
                                constructor
                                refine ⟨_, hF, ?_⟩
                                (try cbv); (try simp only [choice_lk, lock_eq, and_self, and_true, true_and]); (try first | exact e | exact e.symm | (and_intros <;> first | assumption | rfl | exact Eq.symm (by assumption)))
                              · as_aux_lemma =>
                                have h1 : (ieq y45 (0 : Int)) = true := by first | exact (bnot_f.1 h) | (have h2 := (bnot_f.1 h); simp only [choice_lk, lock_eq] at h2; exact h2) | (simp only [choice_lk, lock_eq] at h; exact (bnot_f.1 h))
                                rw [if_pos h1] at hr
                                (try cbv)
                                refine sel_intro (fun h => ?_) (fun h => ?_)
                                · have h1 : (ieq (ofN (xlen t35)) (64 : Int)) = false := by first | exact (bnot_t.1 h) | (have h2 := (bnot_t.1 h); simp only [choice_lk, lock_eq] at h2; exact h2) | (simp only [choice_lk, lock_eq] at h; exact (bnot_t.1 h))
                                  rw [if_neg (by rw [h1]; exact Bool.false_ne_true)] at hr
                                  (try cbv)
                                  apply Hidden.out
                                  obtain rfl := Option.some.inj hr
                                  have e := ht1 _ rfl
                                  constructor
                                  refine ⟨_, hF, ?_⟩
                                  (try cbv); (try simp only [choice_lk, lock_eq, and_self, and_true, true_and]); (try first | exact e | exact e.symm | (and_intros <;> first | assumption | rfl | exact Eq.symm (by assumption)))
                                · as_aux_lemma =>
                                  have h1 : (ieq (ofN (xlen t35)) (64 : Int)) = true := by first | exact (bnot_f.1 h) | (have h2 := (bnot_f.1 h); simp only [choice_lk, lock_eq] at h2; exact h2) | (simp only [choice_lk, lock_eq] at h; exact (bnot_f.1 h))
                                  rw [if_pos h1] at hr
                                  (try cbv)
                                  refine LoopOK.iter T (drawOK T hm) (B := (F_tollbarlaw31_BlockTears_L13 i23 s1 s2 i15 i14 i17 r4)) hr (fun | (i25, s11) => ⟨mkFr [(0, (.rsl (.bs 5 s1))), (1, (.rsl (.bs 5 s2))), (8, (.ptr 0 0)), (10, (.v (.int .i64 i14))), (11, (.v (.int .i64 i15))), (14, (.v (.int .i64 i23))), (15, (.wsl 1)), (17, (.v (.int .i64 i25)))] 198 0, [(0, .blk 53 [(.wsl 2), (.v (.bool false)), (.v (.pointer none)), (.v (.int .i64 i17))]), (1, .row (.bs 57 s11)), (2, .row (.row 57 (.u8s 64) r4))], 3⟩) ?_ ?_
                                  · rintro ⟨u0, u1⟩ e
                                    simp only [Prod.mk.injEq] at e
                                    obtain ⟨e0, e1⟩ := e
                                    refine le_auto hk ?_
                                    (try cbv); (try simp only [choice_lk, lock_eq, and_self, and_true, true_and]); (try first | exact e | exact e.symm | (and_intros <;> first | assumption | rfl | exact Eq.symm (by assumption)))
                                  · clear hr
                                    intro x bb2 hr ht2
                                    obtain ⟨i25, s11⟩ := x
                                    as_aux_lemma =>
                                    constructor
                                    unfold F_tollbarlaw31_BlockTears_L13 at hr
                                    (try dsimp only at hr)
                                    (try cbv)
                                    refine sel_intro (fun h => ?_) (fun h => ?_)
                                    · as_aux_lemma =>
                                      have h1 : (ilt i25 (64 : Int)) = true := by first | exact h | (have h2 := h; simp only [choice_lk, lock_eq] at h2; exact h2) | (simp only [choice_lk, lock_eq] at h; exact h)
                                      rw [if_pos h1] at hr
                                      (try cbv)
                                      refine sel_intro (fun h => ?_) (fun h => ?_)
                                      · as_aux_lemma =>
                                        have h1 : (ilt i23 (ofN (xlen s1))) = true := by first | exact h | (have h2 := h; simp only [choice_lk, lock_eq] at h2; exact h2) | (simp only [choice_lk, lock_eq] at h; exact h)
                                        rw [if_pos h1] at hr
                                        (try cbv)
                                        have gg := guard_inv hr
                                        have g := gg.1
                                        replace hr := gg.2
                                        clear gg
                                        refine ⟨obl.2 (by first | (simp only [choice_lk, lock_eq, R.len, R.sub]; exact g) | exact g), ?_⟩
                                        refine sel_intro (fun h => ?_) (fun h => ?_)
                                        · as_aux_lemma =>
                                          have h1 : (ilt i23 (ofN (xlen s2))) = true := by first | exact h | (have h2 := h; simp only [choice_lk, lock_eq] at h2; exact h2) | (simp only [choice_lk, lock_eq] at h; exact h)
                                          rw [if_pos h1] at hr
                                          (try cbv)
                                          refine sel_intro (fun h => ?_) (fun h => ?_)
                                          · have h1 : (ilt i23 i15) = true := by first | exact h | (have h2 := h; simp only [choice_lk, lock_eq] at h2; exact h2) | (simp only [choice_lk, lock_eq] at h; exact h)
                                            rw [if_pos h1] at hr
                                            (try cbv)
                                            have gg := guard_inv hr
                                            have g := gg.1
                                            replace hr := gg.2
                                            clear gg
                                            refine ⟨obl.2 (by first | (simp only [choice_lk, lock_eq, R.len, R.sub]; exact g) | exact g), ?_⟩
                                            have gg := guard_inv hr
                                            have g := gg.1
                                            replace hr := gg.2
                                            clear gg
                                            refine ⟨obl.2 (by first | (simp only [choice_lk, lock_eq, R.len, R.sub]; exact g) | exact g), ?_⟩
                                            refine sel_intro (fun h => ?_) (fun h => ?_)
                                            · have h1 : (ieq (getB s11 (toN i25)) (getB s2 (toN i23))) = false := by first | exact (bnot_t.1 h) | (have h2 := (bnot_t.1 h); simp only [choice_lk, lock_eq] at h2; exact h2) | (simp only [choice_lk, lock_eq] at h; exact (bnot_t.1 h))
                                              rw [if_neg (by rw [h1]; exact Bool.false_ne_true)] at hr
                                              (try cbv)
                                              apply Hidden.out
                                              obtain rfl := Option.some.inj hr
                                              have e := (ht2 _ rfl).symm
                                              subst e
                                              have e := ht1 _ rfl
                                              constructor
                                              refine ⟨_, hF, ?_⟩
                                              (try cbv); (try simp only [choice_lk, lock_eq, and_self, and_true, true_and]); (try first | exact e | exact e.symm | (and_intros <;> first | assumption | rfl | exact Eq.symm (by assumption)))
                                            · have h1 : (ieq (getB s11 (toN i25)) (getB s2 (toN i23))) = true := by first | exact (bnot_f.1 h) | (have h2 := (bnot_f.1 h); simp only [choice_lk, lock_eq] at h2; exact h2) | (simp only [choice_lk, lock_eq] at h; exact (bnot_f.1 h))
                                              rw [if_pos h1] at hr
                                              (try cbv)
                                              have gg := guard_inv hr
                                              have g := gg.1
                                              replace hr := gg.2
                                              clear gg
                                              refine ⟨obl.2 (by first | (simp only [choice_lk, lock_eq, R.len, R.sub]; exact g) | exact g), ?_⟩
                                              have gg := guard_inv hr
                                              have g := gg.1
                                              replace hr := gg.2
                                              clear gg
                                              refine ⟨obl.2 (by first | (simp only [choice_lk, lock_eq, R.len, R.sub]; exact g) | exact g), ?_⟩
                                              apply Hidden.out
                                              obtain rfl := Option.some.inj hr
                                              constructor
                                              refine ⟨⟨_, rfl⟩, ?_⟩
                                              rintro ⟨u0, u1⟩ e
                                              replace e := Sum.inl.inj e
                                              simp only [Prod.mk.injEq] at e
                                              obtain ⟨e0, e1⟩ := e
                                              refine le_auto hk ?_
                                              (try cbv); (try simp only [choice_lk, lock_eq, and_self, and_true, true_and]); (try first | exact e | exact e.symm | (and_intros <;> first | assumption | rfl | exact Eq.symm (by assumption)))
                                          · as_aux_lemma =>
                                            have h1 : (ilt i23 i15) = false := by first | exact h | (have h2 := h; simp only [choice_lk, lock_eq] at h2; exact h2) | (simp only [choice_lk, lock_eq] at h; exact h)
                                            rw [if_neg (by rw [h1]; exact Bool.false_ne_true)] at hr
                                            (try cbv)
                                            refine sel_intro (fun h => ?_) (fun h => ?_)
                                            · as_aux_lemma =>
                                              have h1 : (ieq i23 i15) = true := by first | exact h | (have h2 := h; simp only [choice_lk, lock_eq] at h2; exact h2) | (simp only [choice_lk, lock_eq] at h; exact h)
                                              rw [if_pos h1] at hr
                                              (try cbv)
                                              refine sel_intro (fun h => ?_) (fun h => ?_)
                                              · have h1 : (ilt i25 i14) = true := by first | exact h | (have h2 := h; simp only [choice_lk, lock_eq] at h2; exact h2) | (simp only [choice_lk, lock_eq] at h; exact h)
                                                rw [if_pos h1] at hr
                                                (try cbv)
                                                have gg := guard_inv hr
                                                have g := gg.1
                                                replace hr := gg.2
                                                clear gg
                                                refine ⟨obl.2 (by first | (simp only [choice_lk, lock_eq, R.len, R.sub]; exact g) | exact g), ?_⟩
                                                have gg := guard_inv hr
                                                have g := gg.1
                                                replace hr := gg.2
                                                clear gg
                                                refine ⟨obl.2 (by first | (simp only [choice_lk, lock_eq, R.len, R.sub]; exact g) | exact g), ?_⟩
                                                refine sel_intro (fun h => ?_) (fun h => ?_)
                                                · have h1 : (ieq (getB s11 (toN i25)) (getB s2 (toN i23))) = false := by first | exact (bnot_t.1 h) | (have h2 := (bnot_t.1 h); simp only [choice_lk, lock_eq] at h2; exact h2) | (simp only [choice_lk, lock_eq] at h; exact (bnot_t.1 h))
                                                  rw [if_neg (by rw [h1]; exact Bool.false_ne_true)] at hr
                                                  (try cbv)
                                                  apply Hidden.out
                                                  obtain rfl := Option.some.inj hr
                                                  have e := (ht2 _ rfl).symm
                                                  subst e
                                                  have e := ht1 _ rfl
                                                  constructor
                                                  refine ⟨_, hF, ?_⟩
                                                  (try cbv); (try simp only [choice_lk, lock_eq, and_self, and_true, true_and]); (try first | exact e | exact e.symm | (and_intros <;> first | assumption | rfl | exact Eq.symm (by assumption)))
                                                · have h1 : (ieq (getB s11 (toN i25)) (getB s2 (toN i23))) = true := by first | exact (bnot_f.1 h) | (have h2 := (bnot_f.1 h); simp only [choice_lk, lock_eq] at h2; exact h2) | (simp only [choice_lk, lock_eq] at h; exact (bnot_f.1 h))
                                                  rw [if_pos h1] at hr
                                                  (try cbv)
                                                  have gg := guard_inv hr
                                                  have g := gg.1
                                                  replace hr := gg.2
                                                  clear gg
                                                  refine ⟨obl.2 (by first | (simp only [choice_lk, lock_eq, R.len, R.sub]; exact g) | exact g), ?_⟩
                                                  have gg := guard_inv hr
                                                  have g := gg.1
                                                  replace hr := gg.2
                                                  clear gg
                                                  refine ⟨obl.2 (by first | (simp only [choice_lk, lock_eq, R.len, R.sub]; exact g) | exact g), ?_⟩
                                                  apply Hidden.out
                                                  obtain rfl := Option.some.inj hr
                                                  constructor
                                                  refine ⟨⟨_, rfl⟩, ?_⟩
                                                  rintro ⟨u0, u1⟩ e
                                                  replace e := Sum.inl.inj e
                                                  simp only [Prod.mk.injEq] at e
                                                  obtain ⟨e0, e1⟩ := e
                                                  refine le_auto hk ?_
                                                  (try cbv); (try simp only [choice_lk, lock_eq, and_self, and_true, true_and]); (try first | exact e | exact e.symm | (and_intros <;> first | assumption | rfl | exact Eq.symm (by assumption)))
                                              · have h1 : (ilt i25 i14) = false := by first | exact h | (have h2 := h; simp only [choice_lk, lock_eq] at h2; exact h2) | (simp only [choice_lk, lock_eq] at h; exact h)
                                                rw [if_neg (by rw [h1]; exact Bool.false_ne_true)] at hr
                                                (try cbv)
                                                have gg := guard_inv hr
                                                have g := gg.1
                                                replace hr := gg.2
                                                clear gg
                                                refine ⟨obl.2 (by first | (simp only [choice_lk, lock_eq, R.len, R.sub]; exact g) | exact g), ?_⟩
                                                refine sel_intro (fun h => ?_) (fun h => ?_)
                                                · have h1 : (ieq (getB s11 (toN i25)) (getB s1 (toN i23))) = false := by first | exact (bnot_t.1 h) | (have h2 := (bnot_t.1 h); simp only [choice_lk, lock_eq] at h2; exact h2) | (simp only [choice_lk, lock_eq] at h; exact (bnot_t.1 h))
                                                  rw [if_neg (by rw [h1]; exact Bool.false_ne_true)] at hr
                                                  (try cbv)
                                                  apply Hidden.out
                                                  obtain rfl := Option.some.inj hr
                                                  have e := (ht2 _ rfl).symm
                                                  subst e
                                                  have e := ht1 _ rfl
                                                  constructor
                                                  refine ⟨_, hF, ?_⟩
                                                  (try cbv); (try simp only [choice_lk, lock_eq, and_self, and_true, true_and]); (try first | exact e | exact e.symm | (and_intros <;> first | assumption | rfl | exact Eq.symm (by assumption)))
                                                · have h1 : (ieq (getB s11 (toN i25)) (getB s1 (toN i23))) = true := by first | exact (bnot_f.1 h) | (have h2 := (bnot_f.1 h); simp only [choice_lk, lock_eq] at h2; exact h2) | (simp only [choice_lk, lock_eq] at h; exact (bnot_f.1 h))
                                                  rw [if_pos h1] at hr
                                                  (try cbv)
                                                  have gg := guard_inv hr
                                                  have g := gg.1
                                                  replace hr := gg.2
                                                  clear gg
                                                  refine ⟨obl.2 (by first | (simp only [choice_lk, lock_eq, R.len, R.sub]; exact g) | exact g), ?_⟩
                                                  have gg := guard_inv hr
                                                  have g := gg.1
                                                  replace hr := gg.2
                                                  clear gg
                                                  refine ⟨obl.2 (by first | (simp only [choice_lk, lock_eq, R.len, R.sub]; exact g) | exact g), ?_⟩
                                                  apply Hidden.out
                                                  obtain rfl := Option.some.inj hr
                                                  constructor
                                                  refine ⟨⟨_, rfl⟩, ?_⟩
                                                  rintro ⟨u0, u1⟩ e
                                                  replace e := Sum.inl.inj e
                                                  simp only [Prod.mk.injEq] at e
                                                  obtain ⟨e0, e1⟩ := e
                                                  refine le_auto hk ?_
                                                  (try cbv); (try simp only [choice_lk, lock_eq, and_self, and_true, true_and]); (try first | exact e | exact e.symm | (and_intros <;> first | assumption | rfl | exact Eq.symm (by assumption)))
                                            · have h1 : (ieq i23 i15) = false := by first | exact h | (have h2 := h; simp only [choice_lk, lock_eq] at h2; exact h2) | (simp only [choice_lk, lock_eq] at h; exact h)
                                              rw [if_neg (by rw [h1]; exact Bool.false_ne_true)] at hr
                                              (try cbv)
                                              have gg := guard_inv hr
                                              have g := gg.1
                                              replace hr := gg.2
                                              clear gg
                                              refine ⟨obl.2 (by first | (simp only [choice_lk, lock_eq, R.len, R.sub]; exact g) | exact g), ?_⟩
                                              refine sel_intro (fun h => ?_) (fun h => ?_)
                                              · have h1 : (ieq (getB s11 (toN i25)) (getB s1 (toN i23))) = false := by first | exact (bnot_t.1 h) | (have h2 := (bnot_t.1 h); simp only [choice_lk, lock_eq] at h2; exact h2) | (simp only [choice_lk, lock_eq] at h; exact (bnot_t.1 h))
                                                rw [if_neg (by rw [h1]; exact Bool.false_ne_true)] at hr
                                                (try cbv)
                                                apply Hidden.out
                                                obtain rfl := Option.some.inj hr
                                                have e := (ht2 _ rfl).symm
                                                subst e
                                                have e := ht1 _ rfl
                                                constructor
                                                refine ⟨_, hF, ?_⟩
                                                (try cbv); (try simp only [choice_lk, lock_eq, and_self, and_true, true_and]); (try first | exact e | exact e.symm | (and_intros <;> first | assumption | rfl | exact Eq.symm (by assumption)))
                                              · have h1 : (ieq (getB s11 (toN i25)) (getB s1 (toN i23))) = true := by first | exact (bnot_f.1 h) | (have h2 := (bnot_f.1 h); simp only [choice_lk, lock_eq] at h2; exact h2) | (simp only [choice_lk, lock_eq] at h; exact (bnot_f.1 h))
                                                rw [if_pos h1] at hr
                                                (try cbv)
                                                have gg := guard_inv hr
                                                have g := gg.1
                                                replace hr := gg.2
                                                clear gg
                                                refine ⟨obl.2 (by first | (simp only [choice_lk, lock_eq, R.len, R.sub]; exact g) | exact g), ?_⟩
                                                have gg := guard_inv hr
                                                have g := gg.1
                                                replace hr := gg.2
                                                clear gg
                                                refine ⟨obl.2 (by first | (simp only [choice_lk, lock_eq, R.len, R.sub]; exact g) | exact g), ?_⟩
                                                apply Hidden.out
                                                obtain rfl := Option.some.inj hr
                                                constructor
                                                refine ⟨⟨_, rfl⟩, ?_⟩
                                                rintro ⟨u0, u1⟩ e
                                                replace e := Sum.inl.inj e
                                                simp only [Prod.mk.injEq] at e
                                                obtain ⟨e0, e1⟩ := e
                                                refine le_auto hk ?_
                                                (try cbv); (try simp only [choice_lk, lock_eq, and_self, and_true, true_and]); (try first | exact e | exact e.symm | (and_intros <;> first | assumption | rfl | exact Eq.symm (by assumption)))
                                        · have h1 : (ilt i23 (ofN (xlen s2))) = false := by first | exact h | (have h2 := h; simp only [choice_lk, lock_eq] at h2; exact h2) | (simp only [choice_lk, lock_eq] at h; exact h)
                                          rw [if_neg (by rw [h1]; exact Bool.false_ne_true)] at hr
                                          (try cbv)
                                          have gg := guard_inv hr
                                          have g := gg.1
                                          replace hr := gg.2
                                          clear gg
                                          refine ⟨obl.2 (by first | (simp only [choice_lk, lock_eq, R.len, R.sub]; exact g) | exact g), ?_⟩
                                          refine sel_intro (fun h => ?_) (fun h => ?_)
                                          · have h1 : (ieq (getB s11 (toN i25)) (getB s1 (toN i23))) = false := by first | exact (bnot_t.1 h) | (have h2 := (bnot_t.1 h); simp only [choice_lk, lock_eq] at h2; exact h2) | (simp only [choice_lk, lock_eq] at h; exact (bnot_t.1 h))
                                            rw [if_neg (by rw [h1]; exact Bool.false_ne_true)] at hr
                                            (try cbv)
                                            apply Hidden.out
                                            obtain rfl := Option.some.inj hr
                                            have e := (ht2 _ rfl).symm
                                            subst e
                                            have e := ht1 _ rfl
                                            constructor
                                            refine ⟨_, hF, ?_⟩
                                            (try cbv); (try simp only [choice_lk, lock_eq, and_self, and_true, true_and]); (try first | exact e | exact e.symm | (and_intros <;> first | assumption | rfl | exact Eq.symm (by assumption)))
                                          · have h1 : (ieq (getB s11 (toN i25)) (getB s1 (toN i23))) = true := by first | exact (bnot_f.1 h) | (have h2 := (bnot_f.1 h); simp only [choice_lk, lock_eq] at h2; exact h2) | (simp only [choice_lk, lock_eq] at h; exact (bnot_f.1 h))
                                            rw [if_pos h1] at hr
                                            (try cbv)
                                            have gg := guard_inv hr
                                            have g := gg.1
                                            replace hr := gg.2
                                            clear gg
                                            refine ⟨obl.2 (by first | (simp only [choice_lk, lock_eq, R.len, R.sub]; exact g) | exact g), ?_⟩
                                            have gg := guard_inv hr
                                            have g := gg.1
                                            replace hr := gg.2
                                            clear gg
                                            refine ⟨obl.2 (by first | (simp only [choice_lk, lock_eq, R.len, R.sub]; exact g) | exact g), ?_⟩
                                            apply Hidden.out
                                            obtain rfl := Option.some.inj hr
                                            constructor
                                            refine ⟨⟨_, rfl⟩, ?_⟩
                                            rintro ⟨u0, u1⟩ e
                                            replace e := Sum.inl.inj e
                                            simp only [Prod.mk.injEq] at e
                                            obtain ⟨e0, e1⟩ := e
                                            refine le_auto hk ?_
                                            (try cbv); (try simp only [choice_lk, lock_eq, and_self, and_true, true_and]); (try first | exact e | exact e.symm | (and_intros <;> first | assumption | rfl | exact Eq.symm (by assumption)))
                                      · as_aux_lemma =>
                                        have h1 : (ilt i23 (ofN (xlen s1))) = false := by first | exact h | (have h2 := h; simp only [choice_lk, lock_eq] at h2; exact h2) | (simp only [choice_lk, lock_eq] at h; exact h)
                                        rw [if_neg (by rw [h1]; exact Bool.false_ne_true)] at hr
                                        (try cbv)
                                        refine sel_intro (fun h => ?_) (fun h => ?_)
                                        · as_aux_lemma =>
                                          have h1 : (ilt i23 (ofN (xlen s2))) = true := by first | exact h | (have h2 := h; simp only [choice_lk, lock_eq] at h2; exact h2) | (simp only [choice_lk, lock_eq] at h; exact h)
                                          rw [if_pos h1] at hr
                                          (try cbv)
                                          refine sel_intro (fun h => ?_) (fun h => ?_)
                                          · have h1 : (ilt i23 i15) = true := by first | exact h | (have h2 := h; simp only [choice_lk, lock_eq] at h2; exact h2) | (simp only [choice_lk, lock_eq] at h; exact h)
                                            rw [if_pos h1] at hr
                                            (try cbv)
                                            have gg := guard_inv hr
                                            have g := gg.1
                                            replace hr := gg.2
                                            clear gg
                                            refine ⟨obl.2 (by first | (simp only [choice_lk, lock_eq, R.len, R.sub]; exact g) | exact g), ?_⟩
                                            have gg := guard_inv hr
                                            have g := gg.1
                                            replace hr := gg.2
                                            clear gg
                                            refine ⟨obl.2 (by first | (simp only [choice_lk, lock_eq, R.len, R.sub]; exact g) | exact g), ?_⟩
                                            refine sel_intro (fun h => ?_) (fun h => ?_)
                                            · have h1 : (ieq (getB s11 (toN i25)) (getB s2 (toN i23))) = false := by first | exact (bnot_t.1 h) | (have h2 := (bnot_t.1 h); simp only [choice_lk, lock_eq] at h2; exact h2) | (simp only [choice_lk, lock_eq] at h; exact (bnot_t.1 h))
                                              rw [if_neg (by rw [h1]; exact Bool.false_ne_true)] at hr
                                              (try cbv)
                                              apply Hidden.out
                                              obtain rfl := Option.some.inj hr
                                              have e := (ht2 _ rfl).symm
                                              subst e
                                              have e := ht1 _ rfl
                                              constructor
                                              refine ⟨_, hF, ?_⟩
                                              (try cbv); (try simp only [choice_lk, lock_eq, and_self, and_true, true_and]); (try first | exact e | exact e.symm | (and_intros <;> first | assumption | rfl | exact Eq.symm (by assumption)))
                                            · have h1 : (ieq (getB s11 (toN i25)) (getB s2 (toN i23))) = true := by first | exact (bnot_f.1 h) | (have h2 := (bnot_f.1 h); simp only [choice_lk, lock_eq] at h2; exact h2) | (simp only [choice_lk, lock_eq] at h; exact (bnot_f.1 h))
                                              rw [if_pos h1] at hr
                                              (try cbv)
                                              have gg := guard_inv hr
                                              have g := gg.1
                                              replace hr := gg.2
                                              clear gg
                                              refine ⟨obl.2 (by first | (simp only [choice_lk, lock_eq, R.len, R.sub]; exact g) | exact g), ?_⟩
                                              have gg := guard_inv hr
                                              have g := gg.1
                                              replace hr := gg.2
                                              clear gg
                                              refine ⟨obl.2 (by first | (simp only [choice_lk, lock_eq, R.len, R.sub]; exact g) | exact g), ?_⟩
                                              apply Hidden.out
                                              obtain rfl := Option.some.inj hr
                                              constructor
                                              refine ⟨⟨_, rfl⟩, ?_⟩
                                              rintro ⟨u0, u1⟩ e
                                              replace e := Sum.inl.inj e
                                              simp only [Prod.mk.injEq] at e
                                              obtain ⟨e0, e1⟩ := e
                                              refine le_auto hk ?_
                                              (try cbv); (try simp only [choice_lk, lock_eq, and_self, and_true, true_and]); (try first | exact e | exact e.symm | (and_intros <;> first | assumption | rfl | exact Eq.symm (by assumption)))
                                          · as_aux_lemma =>
                                            have h1 : (ilt i23 i15) = false := by first | exact h | (have h2 := h; simp only [choice_lk, lock_eq] at h2; exact h2) | (simp only [choice_lk, lock_eq] at h; exact h)
                                            rw [if_neg (by rw [h1]; exact Bool.false_ne_true)] at hr
                                            (try cbv)
                                            refine sel_intro (fun h => ?_) (fun h => ?_)
                                            · as_aux_lemma =>
                                              have h1 : (ieq i23 i15) = true := by first | exact h | (have h2 := h; simp only [choice_lk, lock_eq] at h2; exact h2) | (simp only [choice_lk, lock_eq] at h; exact h)
                                              rw [if_pos h1] at hr
                                              (try cbv)
                                              refine sel_intro (fun h => ?_) (fun h => ?_)
                                              · have h1 : (ilt i25 i14) = true := by first | exact h | (have h2 := h; simp only [choice_lk, lock_eq] at h2; exact h2) | (simp only [choice_lk, lock_eq] at h; exact h)
                                                rw [if_pos h1] at hr
                                                (try cbv)
                                                have gg := guard_inv hr
                                                have g := gg.1
                                                replace hr := gg.2
                                                clear gg
                                                refine ⟨obl.2 (by first | (simp only [choice_lk, lock_eq, R.len, R.sub]; exact g) | exact g), ?_⟩
                                                have gg := guard_inv hr
                                                have g := gg.1
                                                replace hr := gg.2
                                                clear gg
                                                refine ⟨obl.2 (by first | (simp only [choice_lk, lock_eq, R.len, R.sub]; exact g) | exact g), ?_⟩
                                                refine sel_intro (fun h => ?_) (fun h => ?_)
                                                · have h1 : (ieq (getB s11 (toN i25)) (getB s2 (toN i23))) = false := by first | exact (bnot_t.1 h) | (have h2 := (bnot_t.1 h); simp only [choice_lk, lock_eq] at h2; exact h2) | (simp only [choice_lk, lock_eq] at h; exact (bnot_t.1 h))
                                                  rw [if_neg (by rw [h1]; exact Bool.false_ne_true)] at hr
                                                  (try cbv)
                                                  apply Hidden.out
                                                  obtain rfl := Option.some.inj hr
                                                  have e := (ht2 _ rfl).symm
                                                  subst e
                                                  have e := ht1 _ rfl
                                                  constructor
                                                  refine ⟨_, hF, ?_⟩
                                                  (try cbv); (try simp only [choice_lk, lock_eq, and_self, and_true, true_and]); (try first | exact e | exact e.symm | (and_intros <;> first | assumption | rfl | exact Eq.symm (by assumption)))
                                                · have h1 : (ieq (getB s11 (toN i25)) (getB s2 (toN i23))) = true := by first | exact (bnot_f.1 h) | (have h2 := (bnot_f.1 h); simp only [choice_lk, lock_eq] at h2; exact h2) | (simp only [choice_lk, lock_eq] at h; exact (bnot_f.1 h))
                                                  rw [if_pos h1] at hr
                                                  (try cbv)
                                                  have gg := guard_inv hr
                                                  have g := gg.1
                                                  replace hr := gg.2
                                                  clear gg
                                                  refine ⟨obl.2 (by first | (simp only [choice_lk, lock_eq, R.len, R.sub]; exact g) | exact g), ?_⟩
                                                  have gg := guard_inv hr
                                                  have g := gg.1
                                                  replace hr := gg.2
                                                  clear gg
                                                  refine ⟨obl.2 (by first | (simp only [choice_lk, lock_eq, R.len, R.sub]; exact g) | exact g), ?_⟩
                                                  apply Hidden.out
                                                  obtain rfl := Option.some.inj hr
                                                  constructor
                                                  refine ⟨⟨_, rfl⟩, ?_⟩
                                                  rintro ⟨u0, u1⟩ e
                                                  replace e := Sum.inl.inj e
                                                  simp only [Prod.mk.injEq] at e
                                                  obtain ⟨e0, e1⟩ := e
                                                  refine le_auto hk ?_
                                                  (try cbv); (try simp only [choice_lk, lock_eq, and_self, and_true, true_and]); (try first | exact e | exact e.symm | (and_intros <;> first | assumption | rfl | exact Eq.symm (by assumption)))
                                              · have h1 : (ilt i25 i14) = false := by first | exact h | (have h2 := h; simp only [choice_lk, lock_eq] at h2; exact h2) | (simp only [choice_lk, lock_eq] at h; exact h)
                                                rw [if_neg (by rw [h1]; exact Bool.false_ne_true)] at hr
                                                (try cbv)
                                                have gg := guard_inv hr
                                                have g := gg.1
                                                replace hr := gg.2
                                                clear gg
                                                refine ⟨obl.2 (by first | (simp only [choice_lk, lock_eq, R.len, R.sub]; exact g) | exact g), ?_⟩
                                                refine sel_intro (fun h => ?_) (fun h => ?_)
                                                · have h1 : (ieq (getB s11 (toN i25)) (0 : Int)) = false := by first | exact (bnot_t.1 h) | (have h2 := (bnot_t.1 h); simp only [choice_lk, lock_eq] at h2; exact h2) | (simp only [choice_lk, lock_eq] at h; exact (bnot_t.1 h))
                                                  rw [if_neg (by rw [h1]; exact Bool.false_ne_true)] at hr
                                                  (try cbv)
                                                  apply Hidden.out
                                                  obtain rfl := Option.some.inj hr
                                                  have e := (ht2 _ rfl).symm
                                                  subst e
                                                  have e := ht1 _ rfl
                                                  constructor
                                                  refine ⟨_, hF, ?_⟩
                                                  (try cbv); (try simp only [choice_lk, lock_eq, and_self, and_true, true_and]); (try first | exact e | exact e.symm | (and_intros <;> first | assumption | rfl | exact Eq.symm (by assumption)))
                                                · have h1 : (ieq (getB s11 (toN i25)) (0 : Int)) = true := by first | exact (bnot_f.1 h) | (have h2 := (bnot_f.1 h); simp only [choice_lk, lock_eq] at h2; exact h2) | (simp only [choice_lk, lock_eq] at h; exact (bnot_f.1 h))
                                                  rw [if_pos h1] at hr
                                                  (try cbv)
                                                  have gg := guard_inv hr
                                                  have g := gg.1
                                                  replace hr := gg.2
                                                  clear gg
                                                  refine ⟨obl.2 (by first | (simp only [choice_lk, lock_eq, R.len, R.sub]; exact g) | exact g), ?_⟩
                                                  have gg := guard_inv hr
                                                  have g := gg.1
                                                  replace hr := gg.2
                                                  clear gg
                                                  refine ⟨obl.2 (by first | (simp only [choice_lk, lock_eq, R.len, R.sub]; exact g) | exact g), ?_⟩
                                                  apply Hidden.out
                                                  obtain rfl := Option.some.inj hr
                                                  constructor
                                                  refine ⟨⟨_, rfl⟩, ?_⟩
                                                  rintro ⟨u0, u1⟩ e
                                                  replace e := Sum.inl.inj e
                                                  simp only [Prod.mk.injEq] at e
                                                  obtain ⟨e0, e1⟩ := e
                                                  refine le_auto hk ?_
                                                  (try cbv); (try simp only [choice_lk, lock_eq, and_self, and_true, true_and]); (try first | exact e | exact e.symm | (and_intros <;> first | assumption | rfl | exact Eq.symm (by assumption)))
                                            · have h1 : (ieq i23 i15) = false := by first | exact h | (have h2 := h; simp only [choice_lk, lock_eq] at h2; exact h2) | (simp only [choice_lk, lock_eq] at h; exact h)
                                              rw [if_neg (by rw [h1]; exact Bool.false_ne_true)] at hr
                                              (try cbv)
                                              have gg := guard_inv hr
                                              have g := gg.1
                                              replace hr := gg.2
                                              clear gg
                                              refine ⟨obl.2 (by first | (simp only [choice_lk, lock_eq, R.len, R.sub]; exact g) | exact g), ?_⟩
                                              refine sel_intro (fun h => ?_) (fun h => ?_)
                                              · have h1 : (ieq (getB s11 (toN i25)) (0 : Int)) = false := by first | exact (bnot_t.1 h) | (have h2 := (bnot_t.1 h); simp only [choice_lk, lock_eq] at h2; exact h2) | (simp only [choice_lk, lock_eq] at h; exact (bnot_t.1 h))
                                                rw [if_neg (by rw [h1]; exact Bool.false_ne_true)] at hr
                                                (try cbv)
                                                apply Hidden.out
                                                obtain rfl := Option.some.inj hr
                                                have e := (ht2 _ rfl).symm
                                                subst e
                                                have e := ht1 _ rfl
                                                constructor
                                                refine ⟨_, hF, ?_⟩
                                                (try cbv); (try simp only [choice_lk, lock_eq, and_self, and_true, true_and]); (try first | exact e | exact e.symm | (and_intros <;> first | assumption | rfl | exact Eq.symm (by assumption)))
                                              · have h1 : (ieq (getB s11 (toN i25)) (0 : Int)) = true := by first | exact (bnot_f.1 h) | (have h2 := (bnot_f.1 h); simp only [choice_lk, lock_eq] at h2; exact h2) | (simp only [choice_lk, lock_eq] at h; exact (bnot_f.1 h))
                                                rw [if_pos h1] at hr
                                                (try cbv)
                                                have gg := guard_inv hr
                                                have g := gg.1
                                                replace hr := gg.2
                                                clear gg
                                                refine ⟨obl.2 (by first | (simp only [choice_lk, lock_eq, R.len, R.sub]; exact g) | exact g), ?_⟩
                                                have gg := guard_inv hr
                                                have g := gg.1
                                                replace hr := gg.2
                                                clear gg
                                                refine ⟨obl.2 (by first | (simp only [choice_lk, lock_eq, R.len, R.sub]; exact g) | exact g), ?_⟩
                                                apply Hidden.out
                                                obtain rfl := Option.some.inj hr
                                                constructor
                                                refine ⟨⟨_, rfl⟩, ?_⟩
                                                rintro ⟨u0, u1⟩ e
                                                replace e := Sum.inl.inj e
                                                simp only [Prod.mk.injEq] at e
                                                obtain ⟨e0, e1⟩ := e
                                                refine le_auto hk ?_
                                                (try cbv); (try simp only [choice_lk, lock_eq, and_self, and_true, true_and]); (try first | exact e | exact e.symm | (and_intros <;> first | assumption | rfl | exact Eq.symm (by assumption)))
                                        · have h1 : (ilt i23 (ofN (xlen s2))) = false := by first | exact h | (have h2 := h; simp only [choice_lk, lock_eq] at h2; exact h2) | (simp only [choice_lk, lock_eq] at h; exact h)
                                          rw [if_neg (by rw [h1]; exact Bool.false_ne_true)] at hr
                                          (try cbv)
                                          have gg := guard_inv hr
                                          have g := gg.1
                                          replace hr := gg.2
                                          clear gg
                                          refine ⟨obl.2 (by first | (simp only [choice_lk, lock_eq, R.len, R.sub]; exact g) | exact g), ?_⟩
                                          refine sel_intro (fun h => ?_) (fun h => ?_)
                                          · have h1 : (ieq (getB s11 (toN i25)) (0 : Int)) = false := by first | exact (bnot_t.1 h) | (have h2 := (bnot_t.1 h); simp only [choice_lk, lock_eq] at h2; exact h2) | (simp only [choice_lk, lock_eq] at h; exact (bnot_t.1 h))
                                            rw [if_neg (by rw [h1]; exact Bool.false_ne_true)] at hr
                                            (try cbv)
                                            apply Hidden.out
                                            obtain rfl := Option.some.inj hr
                                            have e := (ht2 _ rfl).symm
                                            subst e
                                            have e := ht1 _ rfl
                                            constructor
                                            refine ⟨_, hF, ?_⟩
                                            (try cbv); (try simp only [choice_lk, lock_eq, and_self, and_true, true_and]); (try first | exact e | exact e.symm | (and_intros <;> first | assumption | rfl | exact Eq.symm (by assumption)))
                                          · have h1 : (ieq (getB s11 (toN i25)) (0 : Int)) = true := by first | exact (bnot_f.1 h) | (have h2 := (bnot_f.1 h); simp only [choice_lk, lock_eq] at h2; exact h2) | (simp only [choice_lk, lock_eq] at h; exact (bnot_f.1 h))
                                            rw [if_pos h1] at hr
                                            (try cbv)
                                            have gg := guard_inv hr
                                            have g := gg.1
                                            replace hr := gg.2
                                            clear gg
                                            refine ⟨obl.2 (by first | (simp only [choice_lk, lock_eq, R.len, R.sub]; exact g) | exact g), ?_⟩
                                            have gg := guard_inv hr
                                            have g := gg.1
                                            replace hr := gg.2
                                            clear gg
                                            refine ⟨obl.2 (by first | (simp only [choice_lk, lock_eq, R.len, R.sub]; exact g) | exact g), ?_⟩
                                            apply Hidden.out
                                            obtain rfl := Option.some.inj hr
                                            constructor
                                            refine ⟨⟨_, rfl⟩, ?_⟩
                                            rintro ⟨u0, u1⟩ e
                                            replace e := Sum.inl.inj e
                                            simp only [Prod.mk.injEq] at e
                                            obtain ⟨e0, e1⟩ := e
                                            refine le_auto hk ?_
                                            (try cbv); (try simp only [choice_lk, lock_eq, and_self, and_true, true_and]); (try first | exact e | exact e.symm | (and_intros <;> first | assumption | rfl | exact Eq.symm (by assumption)))
                                    · as_aux_lemma =>
                                      have h1 : (ilt i25 (64 : Int)) = false := by first | exact h | (have h2 := h; simp only [choice_lk, lock_eq] at h2; exact h2) | (simp only [choice_lk, lock_eq] at h; exact h)
                                      rw [if_neg (by rw [h1]; exact Bool.false_ne_true)] at hr
                                      (try cbv)
                                      have hqe : ∃ qq, F_block_Device_Read i23 false i17 r4 = some qq := by
                                        cases hq : F_block_Device_Read i23 false i17 r4 with
                                        | none => rw [hq] at hr; cases hr
                                        | some qq => exact ⟨qq, rfl⟩
                                      refine ⟨obl.2 (by simp only [choice_lk, lock_eq]; exact hqe), (by rintro (⟨_, _⟩) _ <;> cbv), ?_⟩
                                      clear hqe
                                      intro qq hx70
                                      simp only [choice_lk, lock_eq] at hx70
                                      rcases qq with ⟨y46, t36⟩
                                      all_goals (rw [hx70] at hr; dsimp only at hr; constructor; (try cbv))
                                      refine sel_intro (fun h => ?_) (fun h => ?_)
                                      · have h1 : (ieq (ofN (xlen t36)) (64 : Int)) = false := by first | exact (bnot_t.1 h) | (have h2 := (bnot_t.1 h); simp only [choice_lk, lock_eq] at h2; exact h2) | (simp only [choice_lk, lock_eq] at h; exact (bnot_t.1 h))
                                        rw [if_neg (by rw [h1]; exact Bool.false_ne_true)] at hr
                                        (try cbv)
                                        apply Hidden.out
                                        obtain rfl := Option.some.inj hr
                                        have e := (ht2 _ rfl).symm
                                        subst e
                                        have e := ht1 _ rfl
                                        constructor
                                        refine ⟨_, hF, ?_⟩
                                        (try cbv); (try simp only [choice_lk, lock_eq, and_self, and_true, true_and]); (try first | exact e | exact e.symm | (and_intros <;> first | assumption | rfl | exact Eq.symm (by assumption)))
                                      · as_aux_lemma =>
                                        have h1 : (ieq (ofN (xlen t36)) (64 : Int)) = true := by first | exact (bnot_f.1 h) | (have h2 := (bnot_f.1 h); simp only [choice_lk, lock_eq] at h2; exact h2) | (simp only [choice_lk, lock_eq] at h; exact (bnot_f.1 h))
                                        rw [if_pos h1] at hr
                                        (try cbv)
                                        have gg := guard_inv hr
                                        have g := gg.1
                                        replace hr := gg.2
                                        clear gg
                                        refine ⟨obl.2 (by first | (simp only [choice_lk, lock_eq, R.len, R.sub]; exact g) | exact g), ?_⟩
                                        refine sel_intro (fun h => ?_) (fun h => ?_)
                                        · as_aux_lemma =>
                                          have h1 : (ieq (getB t36 (toN (63 : Int))) (77 : Int)) = true := by first | exact h | (have h2 := h; simp only [choice_lk, lock_eq] at h2; exact h2) | (simp only [choice_lk, lock_eq] at h; exact h)
                                          rw [if_pos h1] at hr
                                          (try cbv)
                                          refine sel_intro (fun h => ?_) (fun h => ?_)
                                          · have h1 : (ile (ofN (xlen s1)) i23) = true := by first | exact h | (have h2 := h; simp only [choice_lk, lock_eq] at h2; exact h2) | (simp only [choice_lk, lock_eq] at h; exact h)
                                            rw [if_pos h1] at hr
                                            (try cbv)
                                            refine sel_intro (fun h => ?_) (fun h => ?_)
                                            · have h1 : (ile (ofN (xlen s2)) i23) = true := by first | exact h | (have h2 := h; simp only [choice_lk, lock_eq] at h2; exact h2) | (simp only [choice_lk, lock_eq] at h; exact h)
                                              rw [if_pos h1] at hr
                                              (try cbv)
                                              apply Hidden.out
                                              obtain rfl := Option.some.inj hr
                                              have e := (ht2 _ rfl).symm
                                              subst e
                                              have e := ht1 _ rfl
                                              constructor
                                              refine ⟨_, hF, ?_⟩
                                              (try cbv); (try simp only [choice_lk, lock_eq, and_self, and_true, true_and]); (try first | exact e | exact e.symm | (and_intros <;> first | assumption | rfl | exact Eq.symm (by assumption)))
                                            · have h1 : (ile (ofN (xlen s2)) i23) = false := by first | exact h | (have h2 := h; simp only [choice_lk, lock_eq] at h2; exact h2) | (simp only [choice_lk, lock_eq] at h; exact h)
                                              rw [if_neg (by rw [h1]; exact Bool.false_ne_true)] at hr
                                              (try cbv)
                                              have gg := guard_inv hr
                                              have g := gg.1
                                              replace hr := gg.2
                                              clear gg
                                              refine ⟨obl.2 (by first | (simp only [choice_lk, lock_eq, R.len, R.sub]; exact g) | exact g), ?_⟩
                                              refine sel_intro (fun h => ?_) (fun h => ?_)
                                              · have h1 : (ieq (getB s2 (toN i23)) (77 : Int)) = false := by first | exact (bnot_t.1 h) | (have h2 := (bnot_t.1 h); simp only [choice_lk, lock_eq] at h2; exact h2) | (simp only [choice_lk, lock_eq] at h; exact (bnot_t.1 h))
                                                rw [if_neg (by rw [h1]; exact Bool.false_ne_true)] at hr
                                                (try cbv)
                                                apply Hidden.out
                                                obtain rfl := Option.some.inj hr
                                                have e := (ht2 _ rfl).symm
                                                subst e
                                                have e := ht1 _ rfl
                                                constructor
                                                refine ⟨_, hF, ?_⟩
                                                (try cbv); (try simp only [choice_lk, lock_eq, and_self, and_true, true_and]); (try first | exact e | exact e.symm | (and_intros <;> first | assumption | rfl | exact Eq.symm (by assumption)))
                                              · have h1 : (ieq (getB s2 (toN i23)) (77 : Int)) = true := by first | exact (bnot_f.1 h) | (have h2 := (bnot_f.1 h); simp only [choice_lk, lock_eq] at h2; exact h2) | (simp only [choice_lk, lock_eq] at h; exact (bnot_f.1 h))
                                                rw [if_pos h1] at hr
                                                (try cbv)
                                                apply Hidden.out
                                                obtain rfl := Option.some.inj hr
                                                have e := (ht2 _ rfl).symm
                                                subst e
                                                constructor
                                                refine ⟨⟨_, rfl⟩, ?_⟩
                                                rintro u0 e
                                                replace e := Sum.inl.inj e
                                                refine le_auto hk ?_
                                                (try cbv); (try simp only [choice_lk, lock_eq, and_self, and_true, true_and]); (try first | exact e | exact e.symm | (and_intros <;> first | assumption | rfl | exact Eq.symm (by assumption)))
                                          · as_aux_lemma =>
                                            have h1 : (ile (ofN (xlen s1)) i23) = false := by first | exact h | (have h2 := h; simp only [choice_lk, lock_eq] at h2; exact h2) | (simp only [choice_lk, lock_eq] at h; exact h)
                                            rw [if_neg (by rw [h1]; exact Bool.false_ne_true)] at hr
                                            (try cbv)
                                            have gg := guard_inv hr
                                            have g := gg.1
                                            replace hr := gg.2
                                            clear gg
                                            refine ⟨obl.2 (by first | (simp only [choice_lk, lock_eq, R.len, R.sub]; exact g) | exact g), ?_⟩
                                            refine sel_intro (fun h => ?_) (fun h => ?_)
                                            · have h1 : (ieq (getB s1 (toN i23)) (77 : Int)) = false := by first | exact (bnot_t.1 h) | (have h2 := (bnot_t.1 h); simp only [choice_lk, lock_eq] at h2; exact h2) | (simp only [choice_lk, lock_eq] at h; exact (bnot_t.1 h))
                                              rw [if_neg (by rw [h1]; exact Bool.false_ne_true)] at hr
                                              (try cbv)
                                              refine sel_intro (fun h => ?_) (fun h => ?_)
                                              · have h1 : (ile (ofN (xlen s2)) i23) = true := by first | exact h | (have h2 := h; simp only [choice_lk, lock_eq] at h2; exact h2) | (simp only [choice_lk, lock_eq] at h; exact h)
                                                rw [if_pos h1] at hr
                                                (try cbv)
                                                apply Hidden.out
                                                obtain rfl := Option.some.inj hr
                                                have e := (ht2 _ rfl).symm
                                                subst e
                                                have e := ht1 _ rfl
                                                constructor
                                                refine ⟨_, hF, ?_⟩
                                                (try cbv); (try simp only [choice_lk, lock_eq, and_self, and_true, true_and]); (try first | exact e | exact e.symm | (and_intros <;> first | assumption | rfl | exact Eq.symm (by assumption)))
                                              · have h1 : (ile (ofN (xlen s2)) i23) = false := by first | exact h | (have h2 := h; simp only [choice_lk, lock_eq] at h2; exact h2) | (simp only [choice_lk, lock_eq] at h; exact h)
                                                rw [if_neg (by rw [h1]; exact Bool.false_ne_true)] at hr
                                                (try cbv)
                                                have gg := guard_inv hr
                                                have g := gg.1
                                                replace hr := gg.2
                                                clear gg
                                                refine ⟨obl.2 (by first | (simp only [choice_lk, lock_eq, R.len, R.sub]; exact g) | exact g), ?_⟩
                                                refine sel_intro (fun h => ?_) (fun h => ?_)
                                                · have h1 : (ieq (getB s2 (toN i23)) (77 : Int)) = false := by first | exact (bnot_t.1 h) | (have h2 := (bnot_t.1 h); simp only [choice_lk, lock_eq] at h2; exact h2) | (simp only [choice_lk, lock_eq] at h; exact (bnot_t.1 h))
                                                  rw [if_neg (by rw [h1]; exact Bool.false_ne_true)] at hr
                                                  (try cbv)
                                                  apply Hidden.out
                                                  obtain rfl := Option.some.inj hr
                                                  have e := (ht2 _ rfl).symm
                                                  subst e
                                                  have e := ht1 _ rfl
                                                  constructor
                                                  refine ⟨_, hF, ?_⟩
                                                  (try cbv); (try simp only [choice_lk, lock_eq, and_self, and_true, true_and]); (try first | exact e | exact e.symm | (and_intros <;> first | assumption | rfl | exact Eq.symm (by assumption)))
                                                · have h1 : (ieq (getB s2 (toN i23)) (77 : Int)) = true := by first | exact (bnot_f.1 h) | (have h2 := (bnot_f.1 h); simp only [choice_lk, lock_eq] at h2; exact h2) | (simp only [choice_lk, lock_eq] at h; exact (bnot_f.1 h))
                                                  rw [if_pos h1] at hr
                                                  (try cbv)
                                                  apply Hidden.out
                                                  obtain rfl := Option.some.inj hr
                                                  have e := (ht2 _ rfl).symm
                                                  subst e
                                                  constructor
                                                  refine ⟨⟨_, rfl⟩, ?_⟩
                                                  rintro u0 e
                                                  replace e := Sum.inl.inj e
                                                  refine le_auto hk ?_
                                                  (try cbv); (try simp only [choice_lk, lock_eq, and_self, and_true, true_and]); (try first | exact e | exact e.symm | (and_intros <;> first | assumption | rfl | exact Eq.symm (by assumption)))
                                            · have h1 : (ieq (getB s1 (toN i23)) (77 : Int)) = true := by first | exact (bnot_f.1 h) | (have h2 := (bnot_f.1 h); simp only [choice_lk, lock_eq] at h2; exact h2) | (simp only [choice_lk, lock_eq] at h; exact (bnot_f.1 h))
                                              rw [if_pos h1] at hr
                                              (try cbv)
                                              apply Hidden.out
                                              obtain rfl := Option.some.inj hr
                                              have e := (ht2 _ rfl).symm
                                              subst e
                                              constructor
                                              refine ⟨⟨_, rfl⟩, ?_⟩
                                              rintro u0 e
                                              replace e := Sum.inl.inj e
                                              refine le_auto hk ?_
                                              (try cbv); (try simp only [choice_lk, lock_eq, and_self, and_true, true_and]); (try first | exact e | exact e.symm | (and_intros <;> first | assumption | rfl | exact Eq.symm (by assumption)))
                                        · have h1 : (ieq (getB t36 (toN (63 : Int))) (77 : Int)) = false := by first | exact h | (have h2 := h; simp only [choice_lk, lock_eq] at h2; exact h2) | (simp only [choice_lk, lock_eq] at h; exact h)
                                          rw [if_neg (by rw [h1]; exact Bool.false_ne_true)] at hr
                                          (try cbv)
                                          apply Hidden.out
                                          obtain rfl := Option.some.inj hr
                                          have e := (ht2 _ rfl).symm
                                          subst e
                                          constructor
                                          refine ⟨⟨_, rfl⟩, ?_⟩
                                          rintro u0 e
                                          replace e := Sum.inl.inj e
                                          refine le_auto hk ?_
                                          (try cbv); (try simp only [choice_lk, lock_eq, and_self, and_true, true_and]); (try first | exact e | exact e.symm | (and_intros <;> first | assumption | rfl | exact Eq.symm (by assumption)))
                            · have h1 : (ilt i23 (40 : Int)) = false := by first | exact h | (have h2 := h; simp only [choice_lk, lock_eq] at h2; exact h2) | (simp only [choice_lk, lock_eq] at h; exact h)
                              rw [if_neg (by rw [h1]; exact Bool.false_ne_true)] at hr
                              (try cbv)
                              apply Hidden.out
                              obtain rfl := Option.some.inj hr
                              have e := ht1 _ rfl
                              constructor
                              refine ⟨_, hF, ?_⟩
                              (try cbv); (try simp only [choice_lk, lock_eq, and_self, and_true, true_and]); (try first | exact e | exact e.symm | (and_intros <;> first | assumption | rfl | exact Eq.symm (by assumption)))
end Go.Proofs.Ytcdjpciocamkiaa
end
