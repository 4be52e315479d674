/-
  Texts that the row of this claim stands on, one behind the other.
-/
import Derived.Deep.Slices
import Derived.ChangeArms
import Derived.Test.YtdagccoamfhdcaaKFifoDoes1
import Derived.Test.YtdagccoamfhdcaaKFifoDoes2
import Derived.Test.YtdagccoamfhdcaaKFifoDoes3
section
/-
  The walk of tollbar/tollbarlaw22.FifoDoes (printed by a program of ours).
-/
set_option linter.unusedVariables false
set_option linter.unusedSimpArgs false
namespace Go.Proofs.Ytdagccoamfhdcaa
open Go.RowKit

noncomputable def tab_tollbarlaw22_FifoDoes : Nat → Option Con := look [(7, con_tollbarlaw22_awake), (17, con_tollbarlaw22_small), (11, con_fifo_New), (18, con_tollbarref22_Push), (12, con_fifo_Queue_Push), (14, con_fifo_Queue_Len), (22, con_fifo_Queue_Limit), (16, con_fifo_Queue_All), (9, con_tollbarref22_Same), (19, con_tollbarref22_Pop), (20, con_fifo_Queue_Head), (13, con_fifo_Queue_Pop), (21, con_fifo_Queue_Tune), (15, con_fifo_Queue_Load)]
set_option maxHeartbeats 4000000 in
set_option maxRecDepth 100000 in
theorem vc_tollbarlaw22_FifoDoes (P : Program) (T : Tab P tab_tollbarlaw22_FifoDoes) (hm : P.follows .mixedOrders = true) : FnVC P tab_tollbarlaw22_FifoDoes ic_6 [.t 4] 178 con_tollbarlaw22_FifoDoes := by
  intro cargs ccks ce hce hob C hk
  apply Hidden.out
  replace hce : con_tollbarlaw22_FifoDoes_1 cargs ccks = some ce := hce
  · unfold con_tollbarlaw22_FifoDoes_1 at hce
    split at hce
    rotate_left
    · cases hce
    obtain rfl := Option.some.inj hce
    rename_i x1 r1
    have hb1 := hob _ (List.mem_singleton.2 rfl)
    have hb2 := obl.1 hb1
    clear hb1 hob hce
    refine hb2.elim fun r hF => ?_
    clear hb2
    simp only [List.length_cons, List.length_nil, Nat.zero_add, Nat.reduceAdd] at hk
    have hr : F_tollbarlaw22_FifoDoes x1 r1 = some r := by rw [lock_eq] at hF; exact hF
    unfold F_tollbarlaw22_FifoDoes at hr
    constructor
    (try cbv)
    have hqe : ∃ qq, F_tollbarlaw22_awake = some qq := by
      cases hq : F_tollbarlaw22_awake with
      | none => rw [hq] at hr; cases hr
      | some qq => exact ⟨qq, rfl⟩
    refine ⟨obl.2 (by simp only [choice_lk, lock_eq]; exact hqe), (by rintro (_) _ <;> cbv), ?_⟩
    clear hqe
    intro c1 hx1
    simp only [choice_lk, lock_eq] at hx1
    all_goals (rw [hx1] at hr; dsimp only at hr; constructor; (try cbv))
    refine sel_intro (fun h => ?_) (fun h => ?_)
    · have h1 : c1 = false := by first | exact (bnot_t.1 h) | (have h2 := (bnot_t.1 h); simp only [choice_lk, lock_eq] at h2; exact h2) | (simp only [choice_lk, lock_eq] at h; exact (bnot_t.1 h))
      rw [if_neg (by rw [h1]; exact Bool.false_ne_true)] at hr
      (try cbv)
      apply Hidden.out
      have e := Option.some.inj hr
      constructor
      refine ⟨_, hF, ?_⟩
      (try cbv); (try simp only [choice_lk, lock_eq, and_self, and_true, true_and]); (try first | exact e | exact e.symm | (and_intros <;> first | assumption | rfl | exact Eq.symm (by assumption)))
    · have h1 : c1 = true := by first | exact (bnot_f.1 h) | (have h2 := (bnot_f.1 h); simp only [choice_lk, lock_eq] at h2; exact h2) | (simp only [choice_lk, lock_eq] at h; exact (bnot_f.1 h))
      rw [if_pos h1] at hr
      (try cbv)
      have hqe : ∃ qq, F_tollbarlaw22_small r1 = some qq := by
        cases hq : F_tollbarlaw22_small r1 with
        | none => rw [hq] at hr; cases hr
        | some qq => exact ⟨qq, rfl⟩
      refine ⟨obl.2 (by simp only [choice_lk, lock_eq]; exact hqe), (by rintro (_) _ <;> cbv), ?_⟩
      clear hqe
      intro c2 hx2
      simp only [choice_lk, lock_eq] at hx2
      all_goals (rw [hx2] at hr; dsimp only at hr; constructor; (try cbv))
      refine sel_intro (fun h => ?_) (fun h => ?_)
      · have h1 : c2 = false := by first | exact (bnot_t.1 h) | (have h2 := (bnot_t.1 h); simp only [choice_lk, lock_eq] at h2; exact h2) | (simp only [choice_lk, lock_eq] at h; exact (bnot_t.1 h))
        rw [if_neg (by rw [h1]; exact Bool.false_ne_true)] at hr
        (try cbv)
        apply Hidden.out
        have e := Option.some.inj hr
        constructor
        refine ⟨_, hF, ?_⟩
        (try cbv); (try simp only [choice_lk, lock_eq, and_self, and_true, true_and]); (try first | exact e | exact e.symm | (and_intros <;> first | assumption | rfl | exact Eq.symm (by assumption)))
      · have h1 : c2 = true := by first | exact (bnot_f.1 h) | (have h2 := (bnot_f.1 h); simp only [choice_lk, lock_eq] at h2; exact h2) | (simp only [choice_lk, lock_eq] at h; exact (bnot_f.1 h))
        rw [if_pos h1] at hr
        (try cbv)
        have hqe : ∃ qq, F_fifo_New x1 = some qq := by
          cases hq : F_fifo_New x1 with
          | none => rw [hq] at hr; cases hr
          | some qq => exact ⟨qq, rfl⟩
        refine ⟨obl.2 (by simp only [choice_lk, lock_eq]; exact hqe), (by rintro (_) _ <;> cbv), ?_⟩
        clear hqe
        intro qq hx3
        simp only [choice_lk, lock_eq] at hx3
        rcases qq with _
        all_goals (rw [hx3] at hr; dsimp only at hr; constructor; (try cbv))
        refine LoopOK.iter T (drawOK T hm) (B := (F_tollbarlaw22_FifoDoes_L1 r1)) hr (fun | (i9, i12, i10, i11, r6, i13, r7) => ⟨mkFr [(1, (.rsl (.row 45 (.st [(.int .i64), (.int .i64), (.st [(.int .u64), (.int .i64), (.int .i64)]), (.row 28 (.st [(.int .u64), (.int .i64), (.int .i64)]))]) r1))), (7, (.ptr 0 0)), (8, (.ptr 1 0)), (9, (.v (.int .i64 i9)))] 178 0, [(0, .blk 54 [(.v (.int .i64 i12)), (.wsl 2), (.v (.int .i64 i10)), (.v (.int .i64 i11))]), (1, .blk 43 [(.rsl (.row 28 (.st [(.int .u64), (.int .i64), (.int .i64)]) r6)), (.v (.int .i64 i13))]), (2, .row (.row 28 (.st [(.int .u64), (.int .i64), (.int .i64)]) r7))], 3⟩) ?_ ?_
        · rintro ⟨u0, u1, u2, u3, u4, u5, u6⟩ e
          simp only [Prod.mk.injEq] at e
          obtain ⟨e0, e1, e2, e3, e4, e5, e6⟩ := e
          refine le_auto hk ?_
          (try cbv); (try simp only [choice_lk, lock_eq, and_self, and_true, true_and]); (try first | exact e | exact e.symm | (and_intros <;> first | assumption | rfl | exact Eq.symm (by assumption)))
        · clear hr
          intro x bb1 hr ht1
          obtain ⟨i9, i12, i10, i11, r6, i13, r7⟩ := x
          constructor
          unfold F_tollbarlaw22_FifoDoes_L1 at hr
          (try dsimp only at hr)
          (try cbv)
          refine sel_intro (fun h => ?_) (fun h => ?_)
          · have h1 : (ilt i9 (ofN (xlen r1))) = true := by first | exact h | (have h2 := h; simp only [choice_lk, lock_eq] at h2; exact h2) | (simp only [choice_lk, lock_eq] at h; exact h)
            rw [if_pos h1] at hr
            (try cbv)
            have gg := guard_inv hr
            have g := gg.1
            replace hr := gg.2
            clear gg
            refine ⟨obl.2 (by first | (simp only [choice_lk, lock_eq, R.len, R.sub]; exact g) | exact g), ?_⟩
            refine sel_intro (fun h => ?_) (fun h => ?_)
            · have h1 : (ieq (D.toI (D.fld (getD r1 (toN i9)) 0)) (0 : Int)) = true := by first | exact h | (have h2 := h; simp only [choice_lk, lock_eq] at h2; exact h2) | (simp only [choice_lk, lock_eq] at h; exact h)
              rw [if_pos h1] at hr
              (try cbv)
              have hqe : ∃ qq, F_tollbarref22_Push_4 r6 i13 (D.toI (D.fld (D.fld (getD r1 (toN i9)) 2) 0)) (D.toI (D.fld (D.fld (getD r1 (toN i9)) 2) 1)) (D.toI (D.fld (D.fld (getD r1 (toN i9)) 2) 2)) = some qq := by
                cases hq : F_tollbarref22_Push_4 r6 i13 (D.toI (D.fld (D.fld (getD r1 (toN i9)) 2) 0)) (D.toI (D.fld (D.fld (getD r1 (toN i9)) 2) 1)) (D.toI (D.fld (D.fld (getD r1 (toN i9)) 2) 2)) with
                | none => rw [hq] at hr; cases hr
                | some qq => exact ⟨qq, rfl⟩
              refine ⟨obl.2 (by simp only [choice_lk, lock_eq]; exact hqe), (by rintro (⟨_, _⟩) _ <;> cbv), ?_⟩
              clear hqe
              intro qq hx139
              simp only [choice_lk, lock_eq] at hx139
              rcases qq with ⟨q40, c50⟩
              all_goals (rw [hx139] at hr; dsimp only at hr; constructor; (try cbv))
              have hqe : ∃ qq, F_fifo_Queue_Push_2 (D.toI (D.fld (D.fld (getD r1 (toN i9)) 2) 0)) (D.toI (D.fld (D.fld (getD r1 (toN i9)) 2) 1)) (D.toI (D.fld (D.fld (getD r1 (toN i9)) 2) 2)) i12 i10 i11 r7 = some qq := by
                cases hq : F_fifo_Queue_Push_2 (D.toI (D.fld (D.fld (getD r1 (toN i9)) 2) 0)) (D.toI (D.fld (D.fld (getD r1 (toN i9)) 2) 1)) (D.toI (D.fld (D.fld (getD r1 (toN i9)) 2) 2)) i12 i10 i11 r7 with
                | none => rw [hq] at hr; cases hr
                | some qq => exact ⟨qq, rfl⟩
              refine ⟨obl.2 (by simp only [choice_lk, lock_eq]; exact hqe), (by rintro (⟨_, _, _, _⟩) _ <;> cbv), ?_⟩
              clear hqe
              intro qq hx140
              simp only [choice_lk, lock_eq] at hx140
              rcases qq with ⟨c51, y65, y66, q41⟩
              all_goals (rw [hx140] at hr; dsimp only at hr; constructor; (try cbv))
              refine sel_intro (fun h => ?_) (fun h => ?_)
              · have h1 : (beq2 c51 c50) = false := by first | exact (bnot_t.1 h) | (have h2 := (bnot_t.1 h); simp only [choice_lk, lock_eq] at h2; exact h2) | (simp only [choice_lk, lock_eq] at h; exact (bnot_t.1 h))
                rw [if_neg (by rw [h1]; exact Bool.false_ne_true)] at hr
                (try cbv)
                apply Hidden.out
                obtain rfl := Option.some.inj hr
                have e := ht1 _ rfl
                constructor
                refine ⟨_, hF, ?_⟩
                (try cbv); (try simp only [choice_lk, lock_eq, and_self, and_true, true_and]); (try first | exact e | exact e.symm | (and_intros <;> first | assumption | rfl | exact Eq.symm (by assumption)))
              · have h1 : (beq2 c51 c50) = true := by first | exact (bnot_f.1 h) | (have h2 := (bnot_f.1 h); simp only [choice_lk, lock_eq] at h2; exact h2) | (simp only [choice_lk, lock_eq] at h; exact (bnot_f.1 h))
                rw [if_pos h1] at hr
                (try cbv)
                have hqe : ∃ qq, F_fifo_Queue_Len i12 y65 y66 q41 = some qq := by
                  cases hq : F_fifo_Queue_Len i12 y65 y66 q41 with
                  | none => rw [hq] at hr; cases hr
                  | some qq => exact ⟨qq, rfl⟩
                refine ⟨(by simp only [choice_lk, lock_eq]; exact hqe), obl.2 (by simp only [choice_lk, lock_eq]; exact hqe), (by rintro (_) _ <;> cbv), ?_⟩
                clear hqe
                intro qq hx141
                simp only [choice_lk, lock_eq] at hx141
                rcases qq with _
                all_goals (rw [hx141] at hr; dsimp only at hr; constructor; (try cbv))
                rcases Bool.eq_false_or_eq_true (ieq y66 (ofN (xlen q40))) with h1 | h1
                · rw [if_pos h1] at hr
                  have h2 : (lock ieq y66 (lock ofN (lock (@xlen D) q40))) = true := by simp only [lock_eq]; exact h1
                  simp only [relock, h2]
                  (try cbv)
                  have hqe : ∃ qq, F_fifo_Queue_Limit i12 y65 y66 q41 = some qq := by
                    cases hq : F_fifo_Queue_Limit i12 y65 y66 q41 with
                    | none => rw [hq] at hr; cases hr
                    | some qq => exact ⟨qq, rfl⟩
                  refine ⟨(by simp only [choice_lk, lock_eq]; exact hqe), obl.2 (by simp only [choice_lk, lock_eq]; exact hqe), (by rintro (_) _ <;> cbv), ?_⟩
                  clear hqe
                  intro qq hx142
                  simp only [choice_lk, lock_eq] at hx142
                  rcases qq with _
                  all_goals (rw [hx142] at hr; dsimp only at hr; constructor; (try cbv))
                  rcases Bool.eq_false_or_eq_true (ieq i12 i13) with h1 | h1
                  · rw [if_pos h1] at hr
                    have h2 : (lock ieq i12 i13) = true := by simp only [lock_eq]; exact h1
                    simp only [relock, h2]
                    (try cbv)
                    have hqe : ∃ qq, F_fifo_Queue_All i12 y65 y66 q41 = some qq := by
                      cases hq : F_fifo_Queue_All i12 y65 y66 q41 with
                      | none => rw [hq] at hr; cases hr
                      | some qq => exact ⟨qq, rfl⟩
                    refine ⟨(by simp only [choice_lk, lock_eq]; exact hqe), obl.2 (by simp only [choice_lk, lock_eq]; exact hqe), (by rintro (_) _ <;> cbv), ?_⟩
                    clear hqe
                    intro q42 hx143
                    simp only [choice_lk, lock_eq] at hx143
                    all_goals (rw [hx143] at hr; dsimp only at hr; constructor; (try cbv))
                    have hqe : ∃ qq, F_tollbarref22_Same q42 q40 = some qq := by
                      cases hq : F_tollbarref22_Same q42 q40 with
                      | none => rw [hq] at hr; cases hr
                      | some qq => exact ⟨qq, rfl⟩
                    refine ⟨(by simp only [choice_lk, lock_eq]; exact hqe), obl.2 (by simp only [choice_lk, lock_eq]; exact hqe), (by rintro (_) _ <;> cbv), ?_⟩
                    clear hqe
                    intro c52 hx144
                    simp only [choice_lk, lock_eq] at hx144
                    all_goals (rw [hx144] at hr; dsimp only at hr; constructor; (try cbv))
                    refine sel_intro (fun h => ?_) (fun h => ?_)
                    · have h1 : c52 = false := by first | exact (bnot_t.1 h) | (have h2 := (bnot_t.1 h); simp only [choice_lk, lock_eq] at h2; exact h2) | (simp only [choice_lk, lock_eq] at h; exact (bnot_t.1 h))
                      rw [if_neg (by rw [h1]; exact Bool.false_ne_true)] at hr
                      (try cbv)
                      apply Hidden.out
                      obtain rfl := Option.some.inj hr
                      have e := ht1 _ rfl
                      constructor
                      refine ⟨_, hF, ?_⟩
                      (try cbv); (try simp only [choice_lk, lock_eq, and_self, and_true, true_and]); (try first | exact e | exact e.symm | (and_intros <;> first | assumption | rfl | exact Eq.symm (by assumption)))
                    · have h1 : c52 = true := by first | exact (bnot_f.1 h) | (have h2 := (bnot_f.1 h); simp only [choice_lk, lock_eq] at h2; exact h2) | (simp only [choice_lk, lock_eq] at h; exact (bnot_f.1 h))
                      rw [if_pos h1] at hr
                      (try cbv)
                      apply Hidden.out
                      obtain rfl := Option.some.inj hr
                      constructor
                      refine ⟨⟨_, rfl⟩, ?_⟩
                      rintro ⟨u0, u1, u2, u3, u4, u5, u6⟩ e
                      replace e := Sum.inl.inj e
                      simp only [Prod.mk.injEq] at e
                      obtain ⟨e0, e1, e2, e3, e4, e5, e6⟩ := e
                      refine le_auto hk ?_
                      (try cbv); (try simp only [choice_lk, lock_eq, and_self, and_true, true_and]); (try first | exact e | exact e.symm | (and_intros <;> first | assumption | rfl | exact Eq.symm (by assumption)))
                  · rw [if_neg (by rw [h1]; exact Bool.false_ne_true)] at hr
                    have h2 : (lock ieq i12 i13) = false := by simp only [lock_eq]; exact h1
                    simp only [relock, h2]
                    (try cbv)
                    apply Hidden.out
                    obtain rfl := Option.some.inj hr
                    have e := ht1 _ rfl
                    constructor
                    refine ⟨_, hF, ?_⟩
                    (try cbv); (try simp only [choice_lk, lock_eq, and_self, and_true, true_and]); (try first | exact e | exact e.symm | (and_intros <;> first | assumption | rfl | exact Eq.symm (by assumption)))
                · rw [if_neg (by rw [h1]; exact Bool.false_ne_true)] at hr
                  have h2 : (lock ieq y66 (lock ofN (lock (@xlen D) q40))) = false := by simp only [lock_eq]; exact h1
                  simp only [relock, h2]
                  (try cbv)
                  apply Hidden.out
                  obtain rfl := Option.some.inj hr
                  have e := ht1 _ rfl
                  constructor
                  refine ⟨_, hF, ?_⟩
                  (try cbv); (try simp only [choice_lk, lock_eq, and_self, and_true, true_and]); (try first | exact e | exact e.symm | (and_intros <;> first | assumption | rfl | exact Eq.symm (by assumption)))
            · have h1 : (ieq (D.toI (D.fld (getD r1 (toN i9)) 0)) (0 : Int)) = false := by first | exact h | (have h2 := h; simp only [choice_lk, lock_eq] at h2; exact h2) | (simp only [choice_lk, lock_eq] at h; exact h)
              rw [if_neg (by rw [h1]; exact Bool.false_ne_true)] at hr
              (try cbv)
              refine sel_intro (fun h => ?_) (fun h => ?_)
              · have h1 : (ieq (D.toI (D.fld (getD r1 (toN i9)) 0)) (1 : Int)) = true := by first | exact h | (have h2 := h; simp only [choice_lk, lock_eq] at h2; exact h2) | (simp only [choice_lk, lock_eq] at h; exact h)
                rw [if_pos h1] at hr
                (try cbv)
                have hqe : ∃ qq, F_tollbarref22_Pop_4 r6 i13 = some qq := by
                  cases hq : F_tollbarref22_Pop_4 r6 i13 with
                  | none => rw [hq] at hr; cases hr
                  | some qq => exact ⟨qq, rfl⟩
                refine ⟨obl.2 (by simp only [choice_lk, lock_eq]; exact hqe), (by rintro (⟨_, _, _, _, _⟩) _ <;> cbv), ?_⟩
                clear hqe
                intro qq hx145
                simp only [choice_lk, lock_eq] at hx145
                rcases qq with ⟨q43, y67, y68, y69, c53⟩
                all_goals (rw [hx145] at hr; dsimp only at hr; constructor; (try cbv))
                have hqe : ∃ qq, F_fifo_Queue_Head i12 i10 i11 r7 = some qq := by
                  cases hq : F_fifo_Queue_Head i12 i10 i11 r7 with
                  | none => rw [hq] at hr; cases hr
                  | some qq => exact ⟨qq, rfl⟩
                refine ⟨obl.2 (by simp only [choice_lk, lock_eq]; exact hqe), (by rintro (⟨_, _, _, _⟩) _ <;> cbv), ?_⟩
                clear hqe
                intro qq hx146
                simp only [choice_lk, lock_eq] at hx146
                rcases qq with ⟨y70, y71, y72, c54⟩
                all_goals (rw [hx146] at hr; dsimp only at hr; constructor; (try cbv))
                have hqe : ∃ qq, F_fifo_Queue_Pop_2 i12 i10 i11 r7 = some qq := by
                  cases hq : F_fifo_Queue_Pop_2 i12 i10 i11 r7 with
                  | none => rw [hq] at hr; cases hr
                  | some qq => exact ⟨qq, rfl⟩
                refine ⟨obl.2 (by simp only [choice_lk, lock_eq]; exact hqe), (by rintro (⟨_, _, _, _, _, _⟩) _ <;> cbv), ?_⟩
                clear hqe
                intro qq hx147
                simp only [choice_lk, lock_eq] at hx147
                rcases qq with ⟨y73, y74, y75, c55, y76, y77⟩
                all_goals (rw [hx147] at hr; dsimp only at hr; constructor; (try cbv))
                refine sel_intro (fun h => ?_) (fun h => ?_)
                · have h1 : (band (ieq y73 y67) (band (ieq y74 y68) (band (ieq y75 y69) true))) = false := by first | exact (bnot_t.1 h) | (have h2 := (bnot_t.1 h); simp only [choice_lk, lock_eq] at h2; exact h2) | (simp only [choice_lk, lock_eq] at h; exact (bnot_t.1 h))
                  rw [if_neg (by rw [h1]; exact Bool.false_ne_true)] at hr
                  (try cbv)
                  apply Hidden.out
                  obtain rfl := Option.some.inj hr
                  have e := ht1 _ rfl
                  constructor
                  refine ⟨_, hF, ?_⟩
                  (try cbv); (try simp only [choice_lk, lock_eq, and_self, and_true, true_and]); (try first | exact e | exact e.symm | (and_intros <;> first | assumption | rfl | exact Eq.symm (by assumption)))
                · have h1 : (band (ieq y73 y67) (band (ieq y74 y68) (band (ieq y75 y69) true))) = true := by first | exact (bnot_f.1 h) | (have h2 := (bnot_f.1 h); simp only [choice_lk, lock_eq] at h2; exact h2) | (simp only [choice_lk, lock_eq] at h; exact (bnot_f.1 h))
                  rw [if_pos h1] at hr
                  (try cbv)
                  refine sel_intro (fun h => ?_) (fun h => ?_)
                  · have h1 : (beq2 c55 c53) = false := by first | exact (bnot_t.1 h) | (have h2 := (bnot_t.1 h); simp only [choice_lk, lock_eq] at h2; exact h2) | (simp only [choice_lk, lock_eq] at h; exact (bnot_t.1 h))
                    rw [if_neg (by rw [h1]; exact Bool.false_ne_true)] at hr
                    (try cbv)
                    apply Hidden.out
                    obtain rfl := Option.some.inj hr
                    have e := ht1 _ rfl
                    constructor
                    refine ⟨_, hF, ?_⟩
                    (try cbv); (try simp only [choice_lk, lock_eq, and_self, and_true, true_and]); (try first | exact e | exact e.symm | (and_intros <;> first | assumption | rfl | exact Eq.symm (by assumption)))
                  · have h1 : (beq2 c55 c53) = true := by first | exact (bnot_f.1 h) | (have h2 := (bnot_f.1 h); simp only [choice_lk, lock_eq] at h2; exact h2) | (simp only [choice_lk, lock_eq] at h; exact (bnot_f.1 h))
                    rw [if_pos h1] at hr
                    (try cbv)
                    refine sel_intro (fun h => ?_) (fun h => ?_)
                    · have h1 : (band (ieq y70 y67) (band (ieq y71 y68) (band (ieq y72 y69) true))) = false := by first | exact (bnot_t.1 h) | (have h2 := (bnot_t.1 h); simp only [choice_lk, lock_eq] at h2; exact h2) | (simp only [choice_lk, lock_eq] at h; exact (bnot_t.1 h))
                      rw [if_neg (by rw [h1]; exact Bool.false_ne_true)] at hr
                      (try cbv)
                      apply Hidden.out
                      obtain rfl := Option.some.inj hr
                      have e := ht1 _ rfl
                      constructor
                      refine ⟨_, hF, ?_⟩
                      (try cbv); (try simp only [choice_lk, lock_eq, and_self, and_true, true_and]); (try first | exact e | exact e.symm | (and_intros <;> first | assumption | rfl | exact Eq.symm (by assumption)))
                    · have h1 : (band (ieq y70 y67) (band (ieq y71 y68) (band (ieq y72 y69) true))) = true := by first | exact (bnot_f.1 h) | (have h2 := (bnot_f.1 h); simp only [choice_lk, lock_eq] at h2; exact h2) | (simp only [choice_lk, lock_eq] at h; exact (bnot_f.1 h))
                      rw [if_pos h1] at hr
                      (try cbv)
                      refine sel_intro (fun h => ?_) (fun h => ?_)
                      · have h1 : (beq2 c54 c53) = false := by first | exact (bnot_t.1 h) | (have h2 := (bnot_t.1 h); simp only [choice_lk, lock_eq] at h2; exact h2) | (simp only [choice_lk, lock_eq] at h; exact (bnot_t.1 h))
                        rw [if_neg (by rw [h1]; exact Bool.false_ne_true)] at hr
                        (try cbv)
                        apply Hidden.out
                        obtain rfl := Option.some.inj hr
                        have e := ht1 _ rfl
                        constructor
                        refine ⟨_, hF, ?_⟩
                        (try cbv); (try simp only [choice_lk, lock_eq, and_self, and_true, true_and]); (try first | exact e | exact e.symm | (and_intros <;> first | assumption | rfl | exact Eq.symm (by assumption)))
                      · have h1 : (beq2 c54 c53) = true := by first | exact (bnot_f.1 h) | (have h2 := (bnot_f.1 h); simp only [choice_lk, lock_eq] at h2; exact h2) | (simp only [choice_lk, lock_eq] at h; exact (bnot_f.1 h))
                        rw [if_pos h1] at hr
                        (try cbv)
                        have hqe : ∃ qq, F_fifo_Queue_Len i12 y76 y77 r7 = some qq := by
                          cases hq : F_fifo_Queue_Len i12 y76 y77 r7 with
                          | none => rw [hq] at hr; cases hr
                          | some qq => exact ⟨qq, rfl⟩
                        refine ⟨(by simp only [choice_lk, lock_eq]; exact hqe), obl.2 (by simp only [choice_lk, lock_eq]; exact hqe), (by rintro (_) _ <;> cbv), ?_⟩
                        clear hqe
                        intro qq hx148
                        simp only [choice_lk, lock_eq] at hx148
                        rcases qq with _
                        all_goals (rw [hx148] at hr; dsimp only at hr; constructor; (try cbv))
                        rcases Bool.eq_false_or_eq_true (ieq y77 (ofN (xlen q43))) with h1 | h1
                        · rw [if_pos h1] at hr
                          have h2 : (lock ieq y77 (lock ofN (lock (@xlen D) q43))) = true := by simp only [lock_eq]; exact h1
                          simp only [relock, h2]
                          (try cbv)
                          have hqe : ∃ qq, F_fifo_Queue_Limit i12 y76 y77 r7 = some qq := by
                            cases hq : F_fifo_Queue_Limit i12 y76 y77 r7 with
                            | none => rw [hq] at hr; cases hr
                            | some qq => exact ⟨qq, rfl⟩
                          refine ⟨(by simp only [choice_lk, lock_eq]; exact hqe), obl.2 (by simp only [choice_lk, lock_eq]; exact hqe), (by rintro (_) _ <;> cbv), ?_⟩
                          clear hqe
                          intro qq hx149
                          simp only [choice_lk, lock_eq] at hx149
                          rcases qq with _
                          all_goals (rw [hx149] at hr; dsimp only at hr; constructor; (try cbv))
                          rcases Bool.eq_false_or_eq_true (ieq i12 i13) with h1 | h1
                          · rw [if_pos h1] at hr
                            have h2 : (lock ieq i12 i13) = true := by simp only [lock_eq]; exact h1
                            simp only [relock, h2]
                            (try cbv)
                            have hqe : ∃ qq, F_fifo_Queue_All i12 y76 y77 r7 = some qq := by
                              cases hq : F_fifo_Queue_All i12 y76 y77 r7 with
                              | none => rw [hq] at hr; cases hr
                              | some qq => exact ⟨qq, rfl⟩
                            refine ⟨(by simp only [choice_lk, lock_eq]; exact hqe), obl.2 (by simp only [choice_lk, lock_eq]; exact hqe), (by rintro (_) _ <;> cbv), ?_⟩
                            clear hqe
                            intro q44 hx150
                            simp only [choice_lk, lock_eq] at hx150
                            all_goals (rw [hx150] at hr; dsimp only at hr; constructor; (try cbv))
                            have hqe : ∃ qq, F_tollbarref22_Same q44 q43 = some qq := by
                              cases hq : F_tollbarref22_Same q44 q43 with
                              | none => rw [hq] at hr; cases hr
                              | some qq => exact ⟨qq, rfl⟩
                            refine ⟨(by simp only [choice_lk, lock_eq]; exact hqe), obl.2 (by simp only [choice_lk, lock_eq]; exact hqe), (by rintro (_) _ <;> cbv), ?_⟩
                            clear hqe
                            intro c56 hx151
                            simp only [choice_lk, lock_eq] at hx151
                            all_goals (rw [hx151] at hr; dsimp only at hr; constructor; (try cbv))
                            refine sel_intro (fun h => ?_) (fun h => ?_)
                            · have h1 : c56 = false := by first | exact (bnot_t.1 h) | (have h2 := (bnot_t.1 h); simp only [choice_lk, lock_eq] at h2; exact h2) | (simp only [choice_lk, lock_eq] at h; exact (bnot_t.1 h))
                              rw [if_neg (by rw [h1]; exact Bool.false_ne_true)] at hr
                              (try cbv)
                              apply Hidden.out
                              obtain rfl := Option.some.inj hr
                              have e := ht1 _ rfl
                              constructor
                              refine ⟨_, hF, ?_⟩
                              (try cbv); (try simp only [choice_lk, lock_eq, and_self, and_true, true_and]); (try first | exact e | exact e.symm | (and_intros <;> first | assumption | rfl | exact Eq.symm (by assumption)))
                            · have h1 : c56 = true := by first | exact (bnot_f.1 h) | (have h2 := (bnot_f.1 h); simp only [choice_lk, lock_eq] at h2; exact h2) | (simp only [choice_lk, lock_eq] at h; exact (bnot_f.1 h))
                              rw [if_pos h1] at hr
                              (try cbv)
                              apply Hidden.out
                              obtain rfl := Option.some.inj hr
                              constructor
                              refine ⟨⟨_, rfl⟩, ?_⟩
                              rintro ⟨u0, u1, u2, u3, u4, u5, u6⟩ e
                              replace e := Sum.inl.inj e
                              simp only [Prod.mk.injEq] at e
                              obtain ⟨e0, e1, e2, e3, e4, e5, e6⟩ := e
                              refine le_auto hk ?_
                              (try cbv); (try simp only [choice_lk, lock_eq, and_self, and_true, true_and]); (try first | exact e | exact e.symm | (and_intros <;> first | assumption | rfl | exact Eq.symm (by assumption)))
                          · rw [if_neg (by rw [h1]; exact Bool.false_ne_true)] at hr
                            have h2 : (lock ieq i12 i13) = false := by simp only [lock_eq]; exact h1
                            simp only [relock, h2]
                            (try cbv)
                            apply Hidden.out
                            obtain rfl := Option.some.inj hr
                            have e := ht1 _ rfl
                            constructor
                            refine ⟨_, hF, ?_⟩
                            (try cbv); (try simp only [choice_lk, lock_eq, and_self, and_true, true_and]); (try first | exact e | exact e.symm | (and_intros <;> first | assumption | rfl | exact Eq.symm (by assumption)))
                        · rw [if_neg (by rw [h1]; exact Bool.false_ne_true)] at hr
                          have h2 : (lock ieq y77 (lock ofN (lock (@xlen D) q43))) = false := by simp only [lock_eq]; exact h1
                          simp only [relock, h2]
                          (try cbv)
                          apply Hidden.out
                          obtain rfl := Option.some.inj hr
                          have e := ht1 _ rfl
                          constructor
                          refine ⟨_, hF, ?_⟩
                          (try cbv); (try simp only [choice_lk, lock_eq, and_self, and_true, true_and]); (try first | exact e | exact e.symm | (and_intros <;> first | assumption | rfl | exact Eq.symm (by assumption)))
              · have h1 : (ieq (D.toI (D.fld (getD r1 (toN i9)) 0)) (1 : Int)) = false := by first | exact h | (have h2 := h; simp only [choice_lk, lock_eq] at h2; exact h2) | (simp only [choice_lk, lock_eq] at h; exact h)
                rw [if_neg (by rw [h1]; exact Bool.false_ne_true)] at hr
                (try cbv)
                refine sel_intro (fun h => ?_) (fun h => ?_)
                · have h1 : (ieq (D.toI (D.fld (getD r1 (toN i9)) 0)) (2 : Int)) = true := by first | exact h | (have h2 := h; simp only [choice_lk, lock_eq] at h2; exact h2) | (simp only [choice_lk, lock_eq] at h; exact h)
                  rw [if_pos h1] at hr
                  (try cbv)
                  have hqe : ∃ qq, F_fifo_Queue_Tune_2 (D.toI (D.fld (getD r1 (toN i9)) 1)) i12 i10 i11 r7 = some qq := by
                    cases hq : F_fifo_Queue_Tune_2 (D.toI (D.fld (getD r1 (toN i9)) 1)) i12 i10 i11 r7 with
                    | none => rw [hq] at hr; cases hr
                    | some qq => exact ⟨qq, rfl⟩
                  refine ⟨obl.2 (by simp only [choice_lk, lock_eq]; exact hqe), (by rintro (_) _ <;> cbv), ?_⟩
                  clear hqe
                  intro qq hx152
                  simp only [choice_lk, lock_eq] at hx152
                  rcases qq with _
                  all_goals (rw [hx152] at hr; dsimp only at hr; constructor; (try cbv))
                  have hqe : ∃ qq, F_fifo_Queue_Len (D.toI (D.fld (getD r1 (toN i9)) 1)) i10 i11 r7 = some qq := by
                    cases hq : F_fifo_Queue_Len (D.toI (D.fld (getD r1 (toN i9)) 1)) i10 i11 r7 with
                    | none => rw [hq] at hr; cases hr
                    | some qq => exact ⟨qq, rfl⟩
                  refine ⟨(by simp only [choice_lk, lock_eq]; exact hqe), obl.2 (by simp only [choice_lk, lock_eq]; exact hqe), (by rintro (_) _ <;> cbv), ?_⟩
                  clear hqe
                  intro qq hx153
                  simp only [choice_lk, lock_eq] at hx153
                  rcases qq with _
                  all_goals (rw [hx153] at hr; dsimp only at hr; constructor; (try cbv))
                  rcases Bool.eq_false_or_eq_true (ieq i11 (ofN (xlen r6))) with h1 | h1
                  · rw [if_pos h1] at hr
                    have h2 : (lock ieq i11 (lock ofN (lock (@xlen D) r6))) = true := by simp only [lock_eq]; exact h1
                    simp only [relock, h2]
                    (try cbv)
                    have hqe : ∃ qq, F_fifo_Queue_Limit (D.toI (D.fld (getD r1 (toN i9)) 1)) i10 i11 r7 = some qq := by
                      cases hq : F_fifo_Queue_Limit (D.toI (D.fld (getD r1 (toN i9)) 1)) i10 i11 r7 with
                      | none => rw [hq] at hr; cases hr
                      | some qq => exact ⟨qq, rfl⟩
                    refine ⟨(by simp only [choice_lk, lock_eq]; exact hqe), obl.2 (by simp only [choice_lk, lock_eq]; exact hqe), (by rintro (_) _ <;> cbv), ?_⟩
                    clear hqe
                    intro qq hx154
                    simp only [choice_lk, lock_eq] at hx154
                    rcases qq with _
                    all_goals (rw [hx154] at hr; dsimp only at hr; constructor; (try cbv))
                    rcases Bool.eq_false_or_eq_true (ieq (D.toI (D.fld (getD r1 (toN i9)) 1)) (D.toI (D.fld (getD r1 (toN i9)) 1))) with h1 | h1
                    · rw [if_pos h1] at hr
                      have h2 : (lock ieq (lock D.toI (lock D.fld (lock getD r1 (lock toN i9)) 1)) (lock D.toI (lock D.fld (lock getD r1 (lock toN i9)) 1))) = true := by simp only [lock_eq]; exact h1
                      simp only [relock, h2]
                      (try cbv)
                      have hqe : ∃ qq, F_fifo_Queue_All (D.toI (D.fld (getD r1 (toN i9)) 1)) i10 i11 r7 = some qq := by
                        cases hq : F_fifo_Queue_All (D.toI (D.fld (getD r1 (toN i9)) 1)) i10 i11 r7 with
                        | none => rw [hq] at hr; cases hr
                        | some qq => exact ⟨qq, rfl⟩
                      refine ⟨(by simp only [choice_lk, lock_eq]; exact hqe), obl.2 (by simp only [choice_lk, lock_eq]; exact hqe), (by rintro (_) _ <;> cbv), ?_⟩
                      clear hqe
                      intro q45 hx155
                      simp only [choice_lk, lock_eq] at hx155
                      all_goals (rw [hx155] at hr; dsimp only at hr; constructor; (try cbv))
                      have hqe : ∃ qq, F_tollbarref22_Same q45 r6 = some qq := by
                        cases hq : F_tollbarref22_Same q45 r6 with
                        | none => rw [hq] at hr; cases hr
                        | some qq => exact ⟨qq, rfl⟩
                      refine ⟨(by simp only [choice_lk, lock_eq]; exact hqe), obl.2 (by simp only [choice_lk, lock_eq]; exact hqe), (by rintro (_) _ <;> cbv), ?_⟩
                      clear hqe
                      intro c57 hx156
                      simp only [choice_lk, lock_eq] at hx156
                      all_goals (rw [hx156] at hr; dsimp only at hr; constructor; (try cbv))
                      refine sel_intro (fun h => ?_) (fun h => ?_)
                      · have h1 : c57 = false := by first | exact (bnot_t.1 h) | (have h2 := (bnot_t.1 h); simp only [choice_lk, lock_eq] at h2; exact h2) | (simp only [choice_lk, lock_eq] at h; exact (bnot_t.1 h))
                        rw [if_neg (by rw [h1]; exact Bool.false_ne_true)] at hr
                        (try cbv)
                        apply Hidden.out
                        obtain rfl := Option.some.inj hr
                        have e := ht1 _ rfl
                        constructor
                        refine ⟨_, hF, ?_⟩
                        (try cbv); (try simp only [choice_lk, lock_eq, and_self, and_true, true_and]); (try first | exact e | exact e.symm | (and_intros <;> first | assumption | rfl | exact Eq.symm (by assumption)))
                      · have h1 : c57 = true := by first | exact (bnot_f.1 h) | (have h2 := (bnot_f.1 h); simp only [choice_lk, lock_eq] at h2; exact h2) | (simp only [choice_lk, lock_eq] at h; exact (bnot_f.1 h))
                        rw [if_pos h1] at hr
                        (try cbv)
                        apply Hidden.out
                        obtain rfl := Option.some.inj hr
                        constructor
                        refine ⟨⟨_, rfl⟩, ?_⟩
                        rintro ⟨u0, u1, u2, u3, u4, u5, u6⟩ e
                        replace e := Sum.inl.inj e
                        simp only [Prod.mk.injEq] at e
                        obtain ⟨e0, e1, e2, e3, e4, e5, e6⟩ := e
                        refine le_auto hk ?_
                        (try cbv); (try simp only [choice_lk, lock_eq, and_self, and_true, true_and]); (try first | exact e | exact e.symm | (and_intros <;> first | assumption | rfl | exact Eq.symm (by assumption)))
                    · rw [if_neg (by rw [h1]; exact Bool.false_ne_true)] at hr
                      have h2 : (lock ieq (lock D.toI (lock D.fld (lock getD r1 (lock toN i9)) 1)) (lock D.toI (lock D.fld (lock getD r1 (lock toN i9)) 1))) = false := by simp only [lock_eq]; exact h1
                      simp only [relock, h2]
                      (try cbv)
                      apply Hidden.out
                      obtain rfl := Option.some.inj hr
                      have e := ht1 _ rfl
                      constructor
                      refine ⟨_, hF, ?_⟩
                      (try cbv); (try simp only [choice_lk, lock_eq, and_self, and_true, true_and]); (try first | exact e | exact e.symm | (and_intros <;> first | assumption | rfl | exact Eq.symm (by assumption)))
                  · rw [if_neg (by rw [h1]; exact Bool.false_ne_true)] at hr
                    have h2 : (lock ieq i11 (lock ofN (lock (@xlen D) r6))) = false := by simp only [lock_eq]; exact h1
                    simp only [relock, h2]
                    (try cbv)
                    apply Hidden.out
                    obtain rfl := Option.some.inj hr
                    have e := ht1 _ rfl
                    constructor
                    refine ⟨_, hF, ?_⟩
                    (try cbv); (try simp only [choice_lk, lock_eq, and_self, and_true, true_and]); (try first | exact e | exact e.symm | (and_intros <;> first | assumption | rfl | exact Eq.symm (by assumption)))
                · have h1 : (ieq (D.toI (D.fld (getD r1 (toN i9)) 0)) (2 : Int)) = false := by first | exact h | (have h2 := h; simp only [choice_lk, lock_eq] at h2; exact h2) | (simp only [choice_lk, lock_eq] at h; exact h)
                  rw [if_neg (by rw [h1]; exact Bool.false_ne_true)] at hr
                  (try cbv)
                  refine sel_intro (fun h => ?_) (fun h => ?_)
                  · have h1 : (ieq (D.toI (D.fld (getD r1 (toN i9)) 0)) (3 : Int)) = true := by first | exact h | (have h2 := h; simp only [choice_lk, lock_eq] at h2; exact h2) | (simp only [choice_lk, lock_eq] at h; exact h)
                    rw [if_pos h1] at hr
                    (try cbv)
                    have hqe : ∃ qq, F_fifo_Queue_Load_2 (D.toL (D.fld (getD r1 (toN i9)) 3)) i12 i10 i11 r7 = some qq := by
                      cases hq : F_fifo_Queue_Load_2 (D.toL (D.fld (getD r1 (toN i9)) 3)) i12 i10 i11 r7 with
                      | none => rw [hq] at hr; cases hr
                      | some qq => exact ⟨qq, rfl⟩
                    refine ⟨obl.2 (by simp only [choice_lk, lock_eq]; exact hqe), (by rintro (⟨_, _, _⟩) _ <;> cbv), ?_⟩
                    clear hqe
                    intro qq hx157
                    simp only [choice_lk, lock_eq] at hx157
                    rcases qq with ⟨y78, y79, q46⟩
                    all_goals (rw [hx157] at hr; dsimp only at hr; constructor; (try cbv))
                    have hqe : ∃ qq, F_fifo_Queue_Len i12 y78 y79 q46 = some qq := by
                      cases hq : F_fifo_Queue_Len i12 y78 y79 q46 with
                      | none => rw [hq] at hr; cases hr
                      | some qq => exact ⟨qq, rfl⟩
                    refine ⟨(by simp only [choice_lk, lock_eq]; exact hqe), obl.2 (by simp only [choice_lk, lock_eq]; exact hqe), (by rintro (_) _ <;> cbv), ?_⟩
                    clear hqe
                    intro qq hx158
                    simp only [choice_lk, lock_eq] at hx158
                    rcases qq with _
                    all_goals (rw [hx158] at hr; dsimp only at hr; constructor; (try cbv))
                    rcases Bool.eq_false_or_eq_true (ieq y79 (ofN (xlen (D.toL (D.fld (getD r1 (toN i9)) 3))))) with h1 | h1
                    · rw [if_pos h1] at hr
                      have h2 : (lock ieq y79 (lock ofN (lock (@xlen D) (lock D.toL (lock D.fld (lock getD r1 (lock toN i9)) 3))))) = true := by simp only [lock_eq]; exact h1
                      simp only [relock, h2]
                      (try cbv)
                      have hqe : ∃ qq, F_fifo_Queue_Limit i12 y78 y79 q46 = some qq := by
                        cases hq : F_fifo_Queue_Limit i12 y78 y79 q46 with
                        | none => rw [hq] at hr; cases hr
                        | some qq => exact ⟨qq, rfl⟩
                      refine ⟨(by simp only [choice_lk, lock_eq]; exact hqe), obl.2 (by simp only [choice_lk, lock_eq]; exact hqe), (by rintro (_) _ <;> cbv), ?_⟩
                      clear hqe
                      intro qq hx159
                      simp only [choice_lk, lock_eq] at hx159
                      rcases qq with _
                      all_goals (rw [hx159] at hr; dsimp only at hr; constructor; (try cbv))
                      rcases Bool.eq_false_or_eq_true (ieq i12 i13) with h1 | h1
                      · rw [if_pos h1] at hr
                        have h2 : (lock ieq i12 i13) = true := by simp only [lock_eq]; exact h1
                        simp only [relock, h2]
                        (try cbv)
                        have hqe : ∃ qq, F_fifo_Queue_All i12 y78 y79 q46 = some qq := by
                          cases hq : F_fifo_Queue_All i12 y78 y79 q46 with
                          | none => rw [hq] at hr; cases hr
                          | some qq => exact ⟨qq, rfl⟩
                        refine ⟨(by simp only [choice_lk, lock_eq]; exact hqe), obl.2 (by simp only [choice_lk, lock_eq]; exact hqe), (by rintro (_) _ <;> cbv), ?_⟩
                        clear hqe
                        intro q47 hx160
                        simp only [choice_lk, lock_eq] at hx160
                        all_goals (rw [hx160] at hr; dsimp only at hr; constructor; (try cbv))
                        have hqe : ∃ qq, F_tollbarref22_Same q47 (D.toL (D.fld (getD r1 (toN i9)) 3)) = some qq := by
                          cases hq : F_tollbarref22_Same q47 (D.toL (D.fld (getD r1 (toN i9)) 3)) with
                          | none => rw [hq] at hr; cases hr
                          | some qq => exact ⟨qq, rfl⟩
                        refine ⟨(by simp only [choice_lk, lock_eq]; exact hqe), obl.2 (by simp only [choice_lk, lock_eq]; exact hqe), (by rintro (_) _ <;> cbv), ?_⟩
                        clear hqe
                        intro c58 hx161
                        simp only [choice_lk, lock_eq] at hx161
                        all_goals (rw [hx161] at hr; dsimp only at hr; constructor; (try cbv))
                        refine sel_intro (fun h => ?_) (fun h => ?_)
                        · have h1 : c58 = false := by first | exact (bnot_t.1 h) | (have h2 := (bnot_t.1 h); simp only [choice_lk, lock_eq] at h2; exact h2) | (simp only [choice_lk, lock_eq] at h; exact (bnot_t.1 h))
                          rw [if_neg (by rw [h1]; exact Bool.false_ne_true)] at hr
                          (try cbv)
                          apply Hidden.out
                          obtain rfl := Option.some.inj hr
                          have e := ht1 _ rfl
                          constructor
                          refine ⟨_, hF, ?_⟩
                          (try cbv); (try simp only [choice_lk, lock_eq, and_self, and_true, true_and]); (try first | exact e | exact e.symm | (and_intros <;> first | assumption | rfl | exact Eq.symm (by assumption)))
                        · have h1 : c58 = true := by first | exact (bnot_f.1 h) | (have h2 := (bnot_f.1 h); simp only [choice_lk, lock_eq] at h2; exact h2) | (simp only [choice_lk, lock_eq] at h; exact (bnot_f.1 h))
                          rw [if_pos h1] at hr
                          (try cbv)
                          apply Hidden.out
                          obtain rfl := Option.some.inj hr
                          constructor
                          refine ⟨⟨_, rfl⟩, ?_⟩
                          rintro ⟨u0, u1, u2, u3, u4, u5, u6⟩ e
                          replace e := Sum.inl.inj e
                          simp only [Prod.mk.injEq] at e
                          obtain ⟨e0, e1, e2, e3, e4, e5, e6⟩ := e
                          refine le_auto hk ?_
                          (try cbv); (try simp only [choice_lk, lock_eq, and_self, and_true, true_and]); (try first | exact e | exact e.symm | (and_intros <;> first | assumption | rfl | exact Eq.symm (by assumption)))
                      · rw [if_neg (by rw [h1]; exact Bool.false_ne_true)] at hr
                        have h2 : (lock ieq i12 i13) = false := by simp only [lock_eq]; exact h1
                        simp only [relock, h2]
                        (try cbv)
                        apply Hidden.out
                        obtain rfl := Option.some.inj hr
                        have e := ht1 _ rfl
                        constructor
                        refine ⟨_, hF, ?_⟩
                        (try cbv); (try simp only [choice_lk, lock_eq, and_self, and_true, true_and]); (try first | exact e | exact e.symm | (and_intros <;> first | assumption | rfl | exact Eq.symm (by assumption)))
                    · rw [if_neg (by rw [h1]; exact Bool.false_ne_true)] at hr
                      have h2 : (lock ieq y79 (lock ofN (lock (@xlen D) (lock D.toL (lock D.fld (lock getD r1 (lock toN i9)) 3))))) = false := by simp only [lock_eq]; exact h1
                      simp only [relock, h2]
                      (try cbv)
                      apply Hidden.out
                      obtain rfl := Option.some.inj hr
                      have e := ht1 _ rfl
                      constructor
                      refine ⟨_, hF, ?_⟩
                      (try cbv); (try simp only [choice_lk, lock_eq, and_self, and_true, true_and]); (try first | exact e | exact e.symm | (and_intros <;> first | assumption | rfl | exact Eq.symm (by assumption)))
                  · have h1 : (ieq (D.toI (D.fld (getD r1 (toN i9)) 0)) (3 : Int)) = false := by first | exact h | (have h2 := h; simp only [choice_lk, lock_eq] at h2; exact h2) | (simp only [choice_lk, lock_eq] at h; exact h)
                    rw [if_neg (by rw [h1]; exact Bool.false_ne_true)] at hr
                    (try cbv)
                    have hqe : ∃ qq, F_fifo_Queue_Len i12 i10 i11 r7 = some qq := by
                      cases hq : F_fifo_Queue_Len i12 i10 i11 r7 with
                      | none => rw [hq] at hr; cases hr
                      | some qq => exact ⟨qq, rfl⟩
                    refine ⟨(by simp only [choice_lk, lock_eq]; exact hqe), obl.2 (by simp only [choice_lk, lock_eq]; exact hqe), (by rintro (_) _ <;> cbv), ?_⟩
                    clear hqe
                    intro qq hx162
                    simp only [choice_lk, lock_eq] at hx162
                    rcases qq with _
                    all_goals (rw [hx162] at hr; dsimp only at hr; constructor; (try cbv))
                    rcases Bool.eq_false_or_eq_true (ieq i11 (ofN (xlen r6))) with h1 | h1
                    · rw [if_pos h1] at hr
                      have h2 : (lock ieq i11 (lock ofN (lock (@xlen D) r6))) = true := by simp only [lock_eq]; exact h1
                      simp only [relock, h2]
                      (try cbv)
                      have hqe : ∃ qq, F_fifo_Queue_Limit i12 i10 i11 r7 = some qq := by
                        cases hq : F_fifo_Queue_Limit i12 i10 i11 r7 with
                        | none => rw [hq] at hr; cases hr
                        | some qq => exact ⟨qq, rfl⟩
                      refine ⟨(by simp only [choice_lk, lock_eq]; exact hqe), obl.2 (by simp only [choice_lk, lock_eq]; exact hqe), (by rintro (_) _ <;> cbv), ?_⟩
                      clear hqe
                      intro qq hx163
                      simp only [choice_lk, lock_eq] at hx163
                      rcases qq with _
                      all_goals (rw [hx163] at hr; dsimp only at hr; constructor; (try cbv))
                      rcases Bool.eq_false_or_eq_true (ieq i12 i13) with h1 | h1
                      · rw [if_pos h1] at hr
                        have h2 : (lock ieq i12 i13) = true := by simp only [lock_eq]; exact h1
                        simp only [relock, h2]
                        (try cbv)
                        have hqe : ∃ qq, F_fifo_Queue_All i12 i10 i11 r7 = some qq := by
                          cases hq : F_fifo_Queue_All i12 i10 i11 r7 with
                          | none => rw [hq] at hr; cases hr
                          | some qq => exact ⟨qq, rfl⟩
                        refine ⟨(by simp only [choice_lk, lock_eq]; exact hqe), obl.2 (by simp only [choice_lk, lock_eq]; exact hqe), (by rintro (_) _ <;> cbv), ?_⟩
                        clear hqe
                        intro q48 hx164
                        simp only [choice_lk, lock_eq] at hx164
                        all_goals (rw [hx164] at hr; dsimp only at hr; constructor; (try cbv))
                        have hqe : ∃ qq, F_tollbarref22_Same q48 r6 = some qq := by
                          cases hq : F_tollbarref22_Same q48 r6 with
                          | none => rw [hq] at hr; cases hr
                          | some qq => exact ⟨qq, rfl⟩
                        refine ⟨(by simp only [choice_lk, lock_eq]; exact hqe), obl.2 (by simp only [choice_lk, lock_eq]; exact hqe), (by rintro (_) _ <;> cbv), ?_⟩
                        clear hqe
                        intro c59 hx165
                        simp only [choice_lk, lock_eq] at hx165
                        all_goals (rw [hx165] at hr; dsimp only at hr; constructor; (try cbv))
                        refine sel_intro (fun h => ?_) (fun h => ?_)
                        · have h1 : c59 = false := by first | exact (bnot_t.1 h) | (have h2 := (bnot_t.1 h); simp only [choice_lk, lock_eq] at h2; exact h2) | (simp only [choice_lk, lock_eq] at h; exact (bnot_t.1 h))
                          rw [if_neg (by rw [h1]; exact Bool.false_ne_true)] at hr
                          (try cbv)
                          apply Hidden.out
                          obtain rfl := Option.some.inj hr
                          have e := ht1 _ rfl
                          constructor
                          refine ⟨_, hF, ?_⟩
                          (try cbv); (try simp only [choice_lk, lock_eq, and_self, and_true, true_and]); (try first | exact e | exact e.symm | (and_intros <;> first | assumption | rfl | exact Eq.symm (by assumption)))
                        · have h1 : c59 = true := by first | exact (bnot_f.1 h) | (have h2 := (bnot_f.1 h); simp only [choice_lk, lock_eq] at h2; exact h2) | (simp only [choice_lk, lock_eq] at h; exact (bnot_f.1 h))
                          rw [if_pos h1] at hr
                          (try cbv)
                          apply Hidden.out
                          obtain rfl := Option.some.inj hr
                          constructor
                          refine ⟨⟨_, rfl⟩, ?_⟩
                          rintro ⟨u0, u1, u2, u3, u4, u5, u6⟩ e
                          replace e := Sum.inl.inj e
                          simp only [Prod.mk.injEq] at e
                          obtain ⟨e0, e1, e2, e3, e4, e5, e6⟩ := e
                          refine le_auto hk ?_
                          (try cbv); (try simp only [choice_lk, lock_eq, and_self, and_true, true_and]); (try first | exact e | exact e.symm | (and_intros <;> first | assumption | rfl | exact Eq.symm (by assumption)))
                      · rw [if_neg (by rw [h1]; exact Bool.false_ne_true)] at hr
                        have h2 : (lock ieq i12 i13) = false := by simp only [lock_eq]; exact h1
                        simp only [relock, h2]
                        (try cbv)
                        apply Hidden.out
                        obtain rfl := Option.some.inj hr
                        have e := ht1 _ rfl
                        constructor
                        refine ⟨_, hF, ?_⟩
                        (try cbv); (try simp only [choice_lk, lock_eq, and_self, and_true, true_and]); (try first | exact e | exact e.symm | (and_intros <;> first | assumption | rfl | exact Eq.symm (by assumption)))
                    · rw [if_neg (by rw [h1]; exact Bool.false_ne_true)] at hr
                      have h2 : (lock ieq i11 (lock ofN (lock (@xlen D) r6))) = false := by simp only [lock_eq]; exact h1
                      simp only [relock, h2]
                      (try cbv)
                      apply Hidden.out
                      obtain rfl := Option.some.inj hr
                      have e := ht1 _ rfl
                      constructor
                      refine ⟨_, hF, ?_⟩
                      (try cbv); (try simp only [choice_lk, lock_eq, and_self, and_true, true_and]); (try first | exact e | exact e.symm | (and_intros <;> first | assumption | rfl | exact Eq.symm (by assumption)))
          · have h1 : (ilt i9 (ofN (xlen r1))) = false := by first | exact h | (have h2 := h; simp only [choice_lk, lock_eq] at h2; exact h2) | (simp only [choice_lk, lock_eq] at h; exact h)
            rw [if_neg (by rw [h1]; exact Bool.false_ne_true)] at hr
            (try cbv)
            have hqe : ∃ qq, F_fifo_Queue_Tune_3 (5 : Int) = some qq := by
              cases hq : F_fifo_Queue_Tune_3 (5 : Int) with
              | none => rw [hq] at hr; cases hr
              | some qq => exact ⟨qq, rfl⟩
            refine ⟨obl.2 (by simp only [choice_lk, lock_eq]; exact hqe), (by rintro (_) _ <;> cbv), ?_⟩
            clear hqe
            intro qq hx166
            simp only [choice_lk, lock_eq] at hx166
            rcases qq with _
            all_goals (rw [hx166] at hr; dsimp only at hr; constructor; (try cbv))
            have hqe : ∃ qq, F_fifo_Queue_Load_3 ([] : List D) = some qq := by
              cases hq : F_fifo_Queue_Load_3 ([] : List D) with
              | none => rw [hq] at hr; cases hr
              | some qq => exact ⟨qq, rfl⟩
            refine ⟨obl.2 (by simp only [choice_lk, lock_eq]; exact hqe), (by rintro (_) _ <;> cbv), ?_⟩
            clear hqe
            intro qq hx167
            simp only [choice_lk, lock_eq] at hx167
            rcases qq with _
            all_goals (rw [hx167] at hr; dsimp only at hr; constructor; (try cbv))
            have hqe : ∃ qq, F_fifo_Queue_Pop_3 = some qq := by
              cases hq : F_fifo_Queue_Pop_3 with
              | none => rw [hq] at hr; cases hr
              | some qq => exact ⟨qq, rfl⟩
            refine ⟨obl.2 (by simp only [choice_lk, lock_eq]; exact hqe), (by rintro (_) _ <;> cbv), ?_⟩
            clear hqe
            intro qq hx168
            simp only [choice_lk, lock_eq] at hx168
            rcases qq with _
            all_goals (rw [hx168] at hr; dsimp only at hr; constructor; (try cbv))
            have hqe : ∃ qq, F_fifo_Queue_Head_3 = some qq := by
              cases hq : F_fifo_Queue_Head_3 with
              | none => rw [hq] at hr; cases hr
              | some qq => exact ⟨qq, rfl⟩
            refine ⟨obl.2 (by simp only [choice_lk, lock_eq]; exact hqe), (by rintro (_) _ <;> cbv), ?_⟩
            clear hqe
            intro qq hx169
            simp only [choice_lk, lock_eq] at hx169
            rcases qq with _
            all_goals (rw [hx169] at hr; dsimp only at hr; constructor; (try cbv))
            have hqe : ∃ qq, F_fifo_Queue_Push_3 (0 : Int) (0 : Int) (0 : Int) = some qq := by
              cases hq : F_fifo_Queue_Push_3 (0 : Int) (0 : Int) (0 : Int) with
              | none => rw [hq] at hr; cases hr
              | some qq => exact ⟨qq, rfl⟩
            refine ⟨obl.2 (by simp only [choice_lk, lock_eq]; exact hqe), (by rintro (_) _ <;> cbv), ?_⟩
            clear hqe
            intro qq hx170
            simp only [choice_lk, lock_eq] at hx170
            rcases qq with _
            all_goals (rw [hx170] at hr; dsimp only at hr; constructor; (try cbv))
            have hqe : ∃ qq, F_fifo_Queue_Len_3 = some qq := by
              cases hq : F_fifo_Queue_Len_3 with
              | none => rw [hq] at hr; cases hr
              | some qq => exact ⟨qq, rfl⟩
            refine ⟨obl.2 (by simp only [choice_lk, lock_eq]; exact hqe), (by rintro (_) _ <;> cbv), ?_⟩
            clear hqe
            intro qq hx171
            simp only [choice_lk, lock_eq] at hx171
            rcases qq with _
            all_goals (rw [hx171] at hr; dsimp only at hr; constructor; (try cbv))
            have hqe : ∃ qq, F_fifo_Queue_Limit_3 = some qq := by
              cases hq : F_fifo_Queue_Limit_3 with
              | none => rw [hq] at hr; cases hr
              | some qq => exact ⟨qq, rfl⟩
            refine ⟨obl.2 (by simp only [choice_lk, lock_eq]; exact hqe), (by rintro (_) _ <;> cbv), ?_⟩
            clear hqe
            intro qq hx172
            simp only [choice_lk, lock_eq] at hx172
            rcases qq with _
            all_goals (rw [hx172] at hr; dsimp only at hr; constructor; (try cbv))
            have hqe : ∃ qq, F_fifo_Queue_All_3 = some qq := by
              cases hq : F_fifo_Queue_All_3 with
              | none => rw [hq] at hr; cases hr
              | some qq => exact ⟨qq, rfl⟩
            refine ⟨obl.2 (by simp only [choice_lk, lock_eq]; exact hqe), (by rintro (_) _ <;> cbv), ?_⟩
            clear hqe
            intro qq hx173
            simp only [choice_lk, lock_eq] at hx173
            rcases qq with _
            all_goals (rw [hx173] at hr; dsimp only at hr; constructor; (try cbv))
            apply Hidden.out
            obtain rfl := Option.some.inj hr
            have e := ht1 _ rfl
            constructor
            refine ⟨_, hF, ?_⟩
            (try cbv); (try simp only [choice_lk, lock_eq, and_self, and_true, true_and]); (try first | exact e | exact e.symm | (and_intros <;> first | assumption | rfl | exact Eq.symm (by assumption)))
end Go.Proofs.Ytdagccoamfhdcaa
end
section
/-
  The walks of the functions that tollbar/tollbarlaw22.FifoDoes reaches, tied to the program (printed by a program of ours).
-/
set_option linter.unusedVariables false
set_option linter.unusedSimpArgs false
namespace Go.Proofs.Ytdagccoamfhdcaa
open Go.RowKit

theorem mixed : Try.prog.follows .mixedOrders = true := by kernel_rfl
theorem tabok_fifo_New : Tab Try.prog tab_fifo_New := Tab.nil _
theorem ok_fifo_New : FnOK Try.prog 11 con_fifo_New := FnOK.of tabok_fifo_New mixed Try.func11 comp_11 (vc_fifo_New _ tabok_fifo_New mixed)
theorem tabok_fifo_Queue_grow : Tab Try.prog tab_fifo_Queue_grow := Tab.nil _
theorem ok_fifo_Queue_grow : FnOK Try.prog 27 con_fifo_Queue_grow := FnOK.of tabok_fifo_Queue_grow mixed Try.func27 comp_27 (vc_fifo_Queue_grow _ tabok_fifo_Queue_grow mixed)
theorem tabok_fifo_Queue_at : Tab Try.prog tab_fifo_Queue_at := Tab.nil _
theorem ok_fifo_Queue_at : FnOK Try.prog 25 con_fifo_Queue_at := FnOK.of tabok_fifo_Queue_at mixed Try.func25 comp_25 (vc_fifo_Queue_at _ tabok_fifo_Queue_at mixed)
theorem tabok_fifo_Queue_put : Tab Try.prog tab_fifo_Queue_put := Tab.cons (Tab.cons (Tab.nil _) ok_fifo_Queue_at Try.func25 rfl rfl) ok_fifo_Queue_grow Try.func27 rfl rfl
theorem ok_fifo_Queue_put : FnOK Try.prog 24 con_fifo_Queue_put := FnOK.of tabok_fifo_Queue_put mixed Try.func24 comp_24 (vc_fifo_Queue_put _ tabok_fifo_Queue_put mixed)
theorem tabok_fifo_Queue_Push : Tab Try.prog tab_fifo_Queue_Push := Tab.cons (Tab.nil _) ok_fifo_Queue_put Try.func24 rfl rfl
theorem ok_fifo_Queue_Push : FnOK Try.prog 12 con_fifo_Queue_Push := FnOK.of tabok_fifo_Queue_Push mixed Try.func12 comp_12 (vc_fifo_Queue_Push _ tabok_fifo_Queue_Push mixed)
theorem tabok_fifo_Queue_Len : Tab Try.prog tab_fifo_Queue_Len := Tab.nil _
theorem ok_fifo_Queue_Len : FnOK Try.prog 14 con_fifo_Queue_Len := FnOK.of tabok_fifo_Queue_Len mixed Try.func14 comp_14 (vc_fifo_Queue_Len _ tabok_fifo_Queue_Len mixed)
theorem tabok_fifo_Queue_Head : Tab Try.prog tab_fifo_Queue_Head := Tab.cons (Tab.nil _) ok_fifo_Queue_Len Try.func14 rfl rfl
theorem ok_fifo_Queue_Head : FnOK Try.prog 20 con_fifo_Queue_Head := FnOK.of tabok_fifo_Queue_Head mixed Try.func20 comp_20 (vc_fifo_Queue_Head _ tabok_fifo_Queue_Head mixed)
theorem tabok_slices_Concat : Tab Try.prog tab_slices_Concat := Tab.cons (Tab.nil _) ok_slices_Grow Try.func26 rfl rfl
theorem ok_slices_Concat : FnOK Try.prog 23 con_slices_Concat := FnOK.of tabok_slices_Concat mixed Try.func23 comp_23 (vc_slices_Concat _ tabok_slices_Concat mixed)
theorem tabok_fifo_Merge : Tab Try.prog tab_fifo_Merge := Tab.cons (Tab.nil _) ok_slices_Concat Try.func23 rfl rfl
theorem ok_fifo_Merge : FnOK Try.prog 8 con_fifo_Merge := FnOK.of tabok_fifo_Merge mixed Try.func8 comp_8 (vc_fifo_Merge _ tabok_fifo_Merge mixed)
theorem tabok_fifo_Queue_Limit : Tab Try.prog tab_fifo_Queue_Limit := Tab.nil _
theorem ok_fifo_Queue_Limit : FnOK Try.prog 22 con_fifo_Queue_Limit := FnOK.of tabok_fifo_Queue_Limit mixed Try.func22 comp_22 (vc_fifo_Queue_Limit _ tabok_fifo_Queue_Limit mixed)
theorem tabok_fifo_Queue_All : Tab Try.prog tab_fifo_Queue_All := Tab.cons (Tab.cons (Tab.nil _) ok_fifo_Queue_at Try.func25 rfl rfl) ok_fifo_Queue_Len Try.func14 rfl rfl
theorem ok_fifo_Queue_All : FnOK Try.prog 16 con_fifo_Queue_All := FnOK.of tabok_fifo_Queue_All mixed Try.func16 comp_16 (vc_fifo_Queue_All _ tabok_fifo_Queue_All mixed)
theorem tabok_tollbarlaw22_awake : Tab Try.prog tab_tollbarlaw22_awake := Tab.cons (Tab.cons (Tab.cons (Tab.cons (Tab.cons (Tab.cons (Tab.cons (Tab.nil _) ok_fifo_Queue_All Try.func16 rfl rfl) ok_fifo_Queue_Limit Try.func22 rfl rfl) ok_fifo_Queue_Len Try.func14 rfl rfl) ok_fifo_Merge Try.func8 rfl rfl) ok_fifo_Queue_Head Try.func20 rfl rfl) ok_fifo_Queue_Push Try.func12 rfl rfl) ok_fifo_New Try.func11 rfl rfl
theorem ok_tollbarlaw22_awake : FnOK Try.prog 7 con_tollbarlaw22_awake := FnOK.of tabok_tollbarlaw22_awake mixed Try.func7 comp_7 (vc_tollbarlaw22_awake _ tabok_tollbarlaw22_awake mixed)
theorem tabok_tollbarlaw22_small : Tab Try.prog tab_tollbarlaw22_small := Tab.nil _
theorem ok_tollbarlaw22_small : FnOK Try.prog 17 con_tollbarlaw22_small := FnOK.of tabok_tollbarlaw22_small mixed Try.func17 comp_17 (vc_tollbarlaw22_small _ tabok_tollbarlaw22_small mixed)
theorem tabok_tollbarref22_Push : Tab Try.prog tab_tollbarref22_Push := Tab.nil _
theorem ok_tollbarref22_Push : FnOK Try.prog 18 con_tollbarref22_Push := FnOK.of tabok_tollbarref22_Push mixed Try.func18 comp_18 (vc_tollbarref22_Push _ tabok_tollbarref22_Push mixed)
theorem tabok_tollbarref22_Same : Tab Try.prog tab_tollbarref22_Same := Tab.nil _
theorem ok_tollbarref22_Same : FnOK Try.prog 9 con_tollbarref22_Same := FnOK.of tabok_tollbarref22_Same mixed Try.func9 comp_9 (vc_tollbarref22_Same _ tabok_tollbarref22_Same mixed)
theorem tabok_tollbarref22_Pop : Tab Try.prog tab_tollbarref22_Pop := Tab.nil _
theorem ok_tollbarref22_Pop : FnOK Try.prog 19 con_tollbarref22_Pop := FnOK.of tabok_tollbarref22_Pop mixed Try.func19 comp_19 (vc_tollbarref22_Pop _ tabok_tollbarref22_Pop mixed)
theorem tabok_fifo_Queue_Pop : Tab Try.prog tab_fifo_Queue_Pop := Tab.cons (Tab.cons (Tab.nil _) ok_fifo_Queue_at Try.func25 rfl rfl) ok_fifo_Queue_Head Try.func20 rfl rfl
theorem ok_fifo_Queue_Pop : FnOK Try.prog 13 con_fifo_Queue_Pop := FnOK.of tabok_fifo_Queue_Pop mixed Try.func13 comp_13 (vc_fifo_Queue_Pop _ tabok_fifo_Queue_Pop mixed)
theorem tabok_fifo_Queue_Tune : Tab Try.prog tab_fifo_Queue_Tune := Tab.nil _
theorem ok_fifo_Queue_Tune : FnOK Try.prog 21 con_fifo_Queue_Tune := FnOK.of tabok_fifo_Queue_Tune mixed Try.func21 comp_21 (vc_fifo_Queue_Tune _ tabok_fifo_Queue_Tune mixed)
theorem tabok_fifo_Queue_Load : Tab Try.prog tab_fifo_Queue_Load := Tab.cons (Tab.nil _) ok_fifo_Queue_put Try.func24 rfl rfl
theorem ok_fifo_Queue_Load : FnOK Try.prog 15 con_fifo_Queue_Load := FnOK.of tabok_fifo_Queue_Load mixed Try.func15 comp_15 (vc_fifo_Queue_Load _ tabok_fifo_Queue_Load mixed)
theorem tabok_tollbarlaw22_FifoDoes : Tab Try.prog tab_tollbarlaw22_FifoDoes := Tab.cons (Tab.cons (Tab.cons (Tab.cons (Tab.cons (Tab.cons (Tab.cons (Tab.cons (Tab.cons (Tab.cons (Tab.cons (Tab.cons (Tab.cons (Tab.cons (Tab.nil _) ok_fifo_Queue_Load Try.func15 rfl rfl) ok_fifo_Queue_Tune Try.func21 rfl rfl) ok_fifo_Queue_Pop Try.func13 rfl rfl) ok_fifo_Queue_Head Try.func20 rfl rfl) ok_tollbarref22_Pop Try.func19 rfl rfl) ok_tollbarref22_Same Try.func9 rfl rfl) ok_fifo_Queue_All Try.func16 rfl rfl) ok_fifo_Queue_Limit Try.func22 rfl rfl) ok_fifo_Queue_Len Try.func14 rfl rfl) ok_fifo_Queue_Push Try.func12 rfl rfl) ok_tollbarref22_Push Try.func18 rfl rfl) ok_fifo_New Try.func11 rfl rfl) ok_tollbarlaw22_small Try.func17 rfl rfl) ok_tollbarlaw22_awake Try.func7 rfl rfl
theorem ok_tollbarlaw22_FifoDoes : FnOK Try.prog 6 con_tollbarlaw22_FifoDoes := FnOK.of tabok_tollbarlaw22_FifoDoes mixed Try.func6 comp_6 (vc_tollbarlaw22_FifoDoes _ tabok_tollbarlaw22_FifoDoes mixed)

end Go.Proofs.Ytdagccoamfhdcaa
end
section
/-
  A walk that reckons: arguments of any shape, opened.
-/
set_option linter.unusedVariables false
set_option linter.unusedSimpArgs false
namespace Go.Proofs.Ytdagccoamfhdcaa
open Go.RowKit Go.ChangeShapes Go.WideShapes Go.Deep

mutual
/-- What is known of data that came in: its numbers fit. -/
def Ty.rng : Ty → D → Prop
  | .int k, d => (Lit.int k d.toI).wf = true
  | .bool, _ => True
  | .str, d => d.toS.length ≤ maxLen
  | .bytes _, d => d.toS.length ≤ maxLen
  | .ints _ k, d => d.toIs.length ≤ maxLen ∧ ∀ x ∈ d.toIs, (Lit.int k x).wf = true
  | .row _ e, d => d.toL.length ≤ maxLen ∧ ∀ x ∈ d.toL, e.rng x
  | .st fs, d => Ty.rngL fs d 0
def Ty.rngL : List Ty → D → Nat → Prop
  | [], _, _ => True
  | t :: ts, d, j => t.rng (d.fld j) ∧ Ty.rngL ts d (j + 1)
end

mutual
/-- Is a type of the program of this kind? -/
def tyChk (P : Program) : Ty → TypeId → Bool
  | .int k, t => match P.underlying t with | some (.int j) => j == k | _ => false
  | .bool, t => match P.underlying t with | some .bool => true | _ => false
  | .str, t => match P.underlying t with | some .string => true | _ => false
  | .bytes T, t => match P.underlying t, P.underlying T with | some (.slice e), some (.int .u8) => Nat.beq e T && Nat.beq (P.cellsOf T) 1 | _, _ => false
  | .ints T k, t => match P.underlying t, P.underlying T with | some (.slice e), some (.int j) => Nat.beq e T && Nat.beq (P.cellsOf T) 1 && j == k | _, _ => false
  | .row T e, t => match P.underlying t with | some (.slice e') => Nat.beq e' T && Nat.beq (P.cellsOf T) e.size && Nat.ble 1 e.size && tyChk P e T | _ => false
  | .st es, t => match P.underlying t with | some (.struct fl) => Nat.beq (P.cellsOf t) (Ty.sizes es) && tysChk P es fl.toList 0 | _ => false
def tysChk (P : Program) : List Ty → List Field → Nat → Bool
  | [], [], _ => true
  | e :: es, f :: fl, o => Nat.beq f.offset o && Nat.beq (P.cellsOf f.type) e.size && tyChk P e f.type && tysChk P es fl (o + e.size)
  | _, _, _ => false
end

section
variable {H : Type} {enc : TypeId × Value → H} {P : Program} {w : World} {base : Nat} {spare : Nat → Bool} {held : Bool}
def PN : Nat → Option Pl := fun _ => none
def AN : Nat → Prop := fun _ => False
/-- A row whose elements are opened. -/
theorem open_row {r : R} {a : Addr} {len cap : Nat} (hr : rlen r = len) (hl : len ≤ cap) (hsz : 0 < r.sz) (hrow : ∀ i, i < len → ∃ cs, cs.length = r.sz ∧ (∀ j, j < r.sz → w.cell? (a.add (i * r.sz + j)) = cs[j]?) ∧ Dens PN w AN (r.elem i) cs) :
    Den PN w AN (.rsl r) (.slice (some a) len cap) := by
  subst hr
  have : ∀ i, ∃ cs : List Value, i < rlen r → cs.length = r.sz ∧ (∀ j, j < r.sz → w.cell? (a.add (i * r.sz + j)) = cs[j]?) ∧ Dens PN w AN (r.elem i) cs := fun i => by
    by_cases h : i < rlen r
    · obtain ⟨cs, h⟩ := hrow i h; exact ⟨cs, fun _ => h⟩
    · exact ⟨[], fun h' => absurd h' h⟩
  obtain ⟨f, hf⟩ := Classical.axiomOfChoice this
  refine .rsl r (some a) cap (fun i j => ((f i)[j]?).getD undef) hl ?_ ?_ ?_
  · intro h0
    obtain ⟨h1, h2, h3⟩ := hf 0 h0
    have hc := h2 0 hsz
    rw [Nat.zero_mul, Nat.zero_add, List.getElem?_eq_getElem (by omega)] at hc
    refine ⟨a, rfl, ?_, fun h => h⟩
    have := World.block_lt_of_cell? w _ hc
    rwa [add_block] at this
  · intro i j ad e hi hj
    injection e with e; subst e
    obtain ⟨h1, h2, h3⟩ := hf i hi
    have hjl : j < (f i).length := by omega
    rw [add_add, h2 j hj, List.getElem?_eq_getElem hjl]
    have hle : (r.elem i).length = (f i).length := h3.1.symm
    exact ⟨rfl, by simpa using (h3.2 j (by omega) hjl).2⟩
  · intro i j hi hj
    obtain ⟨h1, h2, h3⟩ := hf i hi
    have hjl : j < (f i).length := by rw [h3.1]; exact hj
    have := (h3.2 j hj hjl).1
    simpa [List.getElem?_eq_getElem hjl] using this

theorem den1 {v : SV} {c : Value} (h : Den PN w AN v c) (h1 : c.oneCell' = true) : Dens PN w AN [v] [c] := Dens.cons h h1 Dens.nil
/-- Bytes that came in. -/
theorem open_bytes {t T : TypeId} (hu : P.underlying t = some (.slice T)) (he : P.underlying T = some (.int .u8)) (hc : P.cellsOf T = 1) {fuel : Nat} {cs : List Value} {x : DataW H × List MemPlace} (h : DataW.trod enc P w base spare held fuel t cs = some x) :
    ∃ l : List UInt8, l.length ≤ maxLen ∧ Dens PN w AN [.rsl (.bs T l)] cs := by
  rcases open_slice1 hu hc h with ⟨rfl, _⟩ | ⟨a, len, cap, m, n, V, D, Pl, rfl, hb, hl, hm, hmm, _, hi⟩
  · exact ⟨[], by simp, den1 (nil_den rfl .nsl) rfl⟩
  · have hle : len ≤ m := by rw [hmm]; split <;> omega
    have each : ∀ i, ∃ b : UInt8, i < len → w.cell? (a.add i) = some (.int .u8 b.toNat) := fun i => by
      by_cases h : i < len
      · obtain ⟨h1, h2⟩ := hi i (by omega)
        obtain ⟨y, e1, _, e2⟩ := DataW.trod_int he h2
        injection e1 with e1 _
        have hy : 0 ≤ y ∧ y ≤ 255 := by simpa [Lit.wf, IntKind.min, IntKind.max, IntKind.signed, IntKind.bits, Int.lt_add_one_iff, Int.le_sub_one_iff] using e2
        refine ⟨UInt8.ofNat y.toNat, fun _ => ?_⟩
        rw [h1, e1]
        have : ((UInt8.ofNat y.toNat).toNat : Int) = y := by simp; omega
        rw [this]
      · exact ⟨0, fun h' => absurd h' h⟩
    obtain ⟨f, hf⟩ := Classical.axiomOfChoice each
    refine ⟨(List.range len).map f, by simp; omega, den1 (open_row (by simp [rlen]) hl (by show 0 < 1; omega) fun i hi => ⟨[.int .u8 (f i).toNat], rfl, ?_, ?_⟩) rfl⟩
    · intro j hj
      have : j = 0 := by simp [R.sz] at hj; exact hj
      subst this
      simp only [R.sz, Nat.mul_one, Nat.add_zero]
      rw [hf i hi]
      rfl
    · have : getB ((List.range len).map f) i = ((f i).toNat : Int) := by simp [getB, hi]
      simp only [R.elem, lock_eq, this]
      exact den1 (.v _) rfl
/-- Whole numbers that came in. -/
theorem open_intsD {t T : TypeId} {k : IntKind} (hu : P.underlying t = some (.slice T)) (he : P.underlying T = some (.int k)) (hc : P.cellsOf T = 1) {fuel : Nat} {cs : List Value} {x : DataW H × List MemPlace} (h : DataW.trod enc P w base spare held fuel t cs = some x) :
    ∃ l : List Int, l.length ≤ maxLen ∧ (∀ y ∈ l, (Lit.int k y).wf = true) ∧ Dens PN w AN [.rsl (.ints T k l)] cs := by
  rcases open_slice1 hu hc h with ⟨rfl, _⟩ | ⟨a, len, cap, m, n, V, D, Pl, rfl, hb, hl, hm, hmm, _, hi⟩
  · exact ⟨[], by simp, by simp, den1 (nil_den rfl .nsl) rfl⟩
  · have hle : len ≤ m := by rw [hmm]; split <;> omega
    have each : ∀ i, ∃ b : Int, i < len → w.cell? (a.add i) = some (.int k b) ∧ (Lit.int k b).wf = true := fun i => by
      by_cases h : i < len
      · obtain ⟨h1, h2⟩ := hi i (by omega)
        obtain ⟨y, e1, _, e2⟩ := DataW.trod_int he h2
        injection e1 with e1 _
        exact ⟨y, fun _ => ⟨by rw [h1, e1], e2⟩⟩
      · exact ⟨0, fun h' => absurd h' h⟩
    obtain ⟨f, hf⟩ := Classical.axiomOfChoice each
    refine ⟨(List.range len).map f, by simp; omega, ?_, den1 (open_row (by simp [rlen]) hl (by show 0 < 1; omega) fun i hi => ⟨[.int k (f i)], rfl, ?_, ?_⟩) rfl⟩
    · intro y hy
      obtain ⟨i, h1, rfl⟩ := List.mem_map.1 hy
      exact (hf i (List.mem_range.1 h1)).2
    · intro j hj
      have : j = 0 := by simp [R.sz] at hj; exact hj
      subst this
      simp only [R.sz, Nat.mul_one, Nat.add_zero]
      rw [(hf i hi).1]
      rfl
    · have : getI ((List.range len).map f) i = f i := by simp [getI, hi]
      simp only [R.elem, lock_eq, this]
      exact den1 (.v _) rfl
theorem dens_app {a b : List SV} {c d : List Value} (h : Dens PN w AN a c) (k : Dens PN w AN b d) : Dens PN w AN (a ++ b) (c ++ d) := by
  refine ⟨by simp [h.1, k.1], fun j h1 h2 => ?_⟩
  by_cases hj : j < a.length
  · have hc : j < c.length := by rw [h.1]; exact hj
    rw [List.getElem_append_left hj, List.getElem_append_left hc]
    exact h.2 j hj hc
  · have hc : ¬ j < c.length := by rw [h.1]; exact hj
    rw [List.getElem_append_right (by omega), List.getElem_append_right (by omega)]
    have e := h.1
    have := k.2 (j - a.length) (by simp at h1; omega) (by simp at h2; omega)
    simpa [e] using this
theorem D.fld_l (l : List D) (j : Nat) : (D.l l).fld j = l.getD j (.i 0) := rfl
theorem open_ty : ∀ (e : Ty) (t : TypeId) (fuel : Nat) (cs : List Value) (x : DataW H × List MemPlace), tyChk P e t = true → DataW.trod enc P w base spare held fuel t cs = some x → ∃ d : D, Dens PN w AN (e.leaves d) cs ∧ e.rng d := by
  intro e
  apply Ty.rec (motive_1 := fun e => ∀ (t : TypeId) (fuel : Nat) (cs : List Value) (x : DataW H × List MemPlace), tyChk P e t = true → DataW.trod enc P w base spare held fuel t cs = some x → ∃ d : D, Dens PN w AN (e.leaves d) cs ∧ e.rng d)
    (motive_2 := fun es => ∀ (fl : List Field) (o : Nat) (cs : List Value), tysChk P es fl o = true → (∀ f ∈ fl, ∃ fuel x, DataW.trod enc P w base spare held fuel f.type ((cs.drop f.offset).take (P.cellsOf f.type)) = some x) → cs.length = o + Ty.sizes es →
      ∃ ds : List D, ds.length = es.length ∧ ∀ d j, (∀ i, i < es.length → d.fld (j + i) = ds.getD i (.i 0)) → Dens PN w AN (Ty.leavesL es d j) (cs.drop o) ∧ Ty.rngL es d j)
  · intro k t fuel cs x hc h
    simp only [tyChk] at hc
    split at hc
    · rename_i j hu
      have := LawfulBEq.eq_of_beq hc
      subst this
      obtain ⟨y, rfl, _, e2⟩ := DataW.trod_int hu h
      refine ⟨.i y, ?_, e2⟩
      simp only [Ty.leaves, lock_eq]
      exact den1 (.v _) rfl
    · cases hc
  · intro t fuel cs x hc h
    simp only [tyChk] at hc
    split at hc
    · rename_i hu
      obtain ⟨b, rfl, _⟩ := DataW.trod_bool hu h
      refine ⟨.b b, ?_, trivial⟩
      simp only [Ty.leaves, lock_eq]
      exact den1 (.v _) rfl
    · cases hc
  · intro t fuel cs x hc h
    simp only [tyChk] at hc
    split at hc
    · rename_i hu
      obtain ⟨b, rfl, _, e2⟩ := DataW.trod_string hu h
      refine ⟨.s b.data.toList, ?_, by
        show b.data.toList.length ≤ maxLen
        have : b.data.toList.length = b.size := by rw [Array.length_toList]; rfl
        rw [this]; exact e2⟩
      simp only [Ty.leaves, lock_eq, D.toS]
      have := Den.str (PL := PN) (w := w) (Av := AN) b.data.toList
      simp at this
      exact den1 this rfl
    · cases hc
  · intro T t fuel cs x hc h
    simp only [tyChk] at hc
    split at hc
    · rename_i e0 hu he
      simp only [Bool.and_eq_true] at hc
      have e1 := (nbeq _ _).1 hc.1
      have e2 := (nbeq _ _).1 hc.2
      subst e1
      obtain ⟨l, h1, h2⟩ := open_bytes hu he e2 h
      exact ⟨.s l, by simp only [Ty.leaves, lock_eq]; exact h2, h1⟩
    · cases hc
  · intro T k t fuel cs x hc h
    simp only [tyChk] at hc
    split at hc
    · rename_i e0 j hu he
      simp only [Bool.and_eq_true] at hc
      have e1 := (nbeq _ _).1 hc.1.1
      have e2 := (nbeq _ _).1 hc.1.2
      have e3 := LawfulBEq.eq_of_beq hc.2
      subst e1; subst e3
      obtain ⟨l, h1, h2, h3⟩ := open_intsD hu he e2 h
      exact ⟨.is l, by simp only [Ty.leaves, lock_eq]; exact h3, h1, h2⟩
    · cases hc
  · intro T e ih t fuel cs x hc h
    simp only [tyChk] at hc
    split at hc
    · rename_i e0 hu
      simp only [Bool.and_eq_true] at hc
      obtain ⟨⟨⟨c1, c2⟩, c3⟩, c4⟩ := hc
      have e1 := (nbeq _ _).1 c1
      have e2 := (nbeq _ _).1 c2
      have e3 := Nat.le_of_ble_eq_true c3
      subst e1
      rcases open_slice hu h with ⟨rfl, _⟩ | ⟨a, len, cap, m, n, D0, Pl, rfl, hb, hl, hm, hmm, _, hi⟩
      · refine ⟨.l [], ?_, by simp [Ty.rng, D.toL]⟩
        simp only [Ty.leaves, lock_eq, D.toL]
        exact den1 (nil_den rfl .nsl) rfl
      · have hle : len ≤ m := by rw [hmm]; split <;> omega
        have each : ∀ i, ∃ q : D × List Value, i < len → q.2.length = e.size ∧ (∀ j, j < e.size → w.cell? (a.add (i * e.size + j)) = q.2[j]?) ∧ Dens PN w AN (e.leaves q.1) q.2 ∧ e.rng q.1 := fun i => by
          by_cases hil : i < len
          · obtain ⟨cs', g1, g2⟩ := hi i (by omega)
            obtain ⟨_, g3, g4⟩ := World.cells?_some g1
            obtain ⟨d, g5, g6⟩ := ih _ n cs' _ c4 g2
            refine ⟨(d, cs'), fun _ => ⟨by rw [g3, e2], fun j hj => ?_, g5, g6⟩⟩
            have := g4 j (by omega)
            rw [add_add, e2] at this
            exact this
          · exact ⟨(.i 0, []), fun h' => absurd h' hil⟩
        obtain ⟨f, hf⟩ := Classical.axiomOfChoice each
        refine ⟨.l ((List.range len).map fun i => (f i).1), ?_, ?_, ?_⟩
        · simp only [Ty.leaves, lock_eq, D.toL]
          refine den1 (open_row (by simp [rlen]) hl (by show 0 < e.size; omega) fun i hi => ⟨(f i).2, (hf i hi).1, (hf i hi).2.1, ?_⟩) rfl
          have : getD ((List.range len).map fun i => (f i).1) i = (f i).1 := by simp [getD, hi]
          simp only [R.elem, lock_eq, this]
          exact (hf i hi).2.2.1
        · simp [D.toL]; omega
        · intro y hy
          simp only [D.toL] at hy
          obtain ⟨i, h1, rfl⟩ := List.mem_map.1 hy
          exact (hf i (List.mem_range.1 h1)).2.2.2
    · cases hc
  · intro es ih t fuel cs x hc h
    simp only [tyChk] at hc
    split at hc
    · rename_i fl hu
      simp only [Bool.and_eq_true] at hc
      have e1 := (nbeq _ _).1 hc.1
      obtain ⟨xs, n, _, _, hlen, hxl, hx⟩ := DataW.trod_struct hu h
      obtain ⟨ds, h1, h2⟩ := ih fl.toList 0 cs hc.2 (fun f hf => by
        obtain ⟨i, hi, he⟩ := List.getElem_of_mem hf
        have hi' : i < fl.size := by simpa using hi
        have := hx i f (by rw [Array.getElem?_eq_getElem hi']; simpa using he)
        exact ⟨n, xs[i]'(by omega), by rw [this, List.getElem?_eq_getElem (by omega)]⟩) (by rw [hlen, e1]; omega)
      obtain ⟨g1, g2⟩ := h2 (.l ds) 0 (fun i hi => by rw [D.fld_l, Nat.zero_add])
      exact ⟨.l ds, by simp only [Ty.leaves]; simpa using g1, g2⟩
    · cases hc
  · intro fl o cs hc hf hl
    cases fl with
    | nil => exact ⟨[], rfl, fun d j _ => ⟨by simp only [Ty.leavesL]; rw [List.drop_of_length_le (by simp [Ty.sizes] at hl; omega)]; exact Dens.nil, trivial⟩⟩
    | cons f fl => simp [tysChk] at hc
  · intro e es ih1 ih2 fl o cs hc hf hl
    cases fl with
    | nil => simp [tysChk] at hc
    | cons f fl =>
      simp only [tysChk, Bool.and_eq_true] at hc
      obtain ⟨⟨⟨c1, c2⟩, c3⟩, c4⟩ := hc
      have e1 := (nbeq _ _).1 c1
      have e2 := (nbeq _ _).1 c2
      obtain ⟨fuel, x, hx⟩ := hf f (List.mem_cons_self ..)
      obtain ⟨d1, g1, g2⟩ := ih1 _ _ _ _ c3 hx
      simp only [Ty.sizes] at hl
      obtain ⟨ds, g3, g4⟩ := ih2 fl (o + e.size) cs c4 (fun f hf' => hf f (List.mem_cons_of_mem _ hf')) (by omega)
      refine ⟨d1 :: ds, by simp [g3], fun d j hd => ?_⟩
      have hd0 : d.fld j = d1 := by simpa using hd 0 (by simp)
      obtain ⟨k1, k2⟩ := g4 d (j + 1) (fun i hi => by
        have := hd (i + 1) (by simpa using hi)
        rw [Nat.add_assoc, Nat.add_comm 1 i, this, List.getD_cons_succ])
      rw [e1, e2] at g1
      refine ⟨?_, ?_, k2⟩
      · simp only [Ty.leavesL, lock_eq, hd0]
        have : cs.drop o = (cs.drop o).take e.size ++ cs.drop (o + e.size) := by
          rw [← List.drop_drop, List.take_append_drop]
        rw [this]
        exact dens_app g1 k1
      · rw [hd0]; exact g2
end
end Go.Proofs.Ytdagccoamfhdcaa
end
section
/-
  Words, as plain Lean reads them.
-/
set_option linter.unusedVariables false
set_option linter.unusedSimpArgs false
namespace Go.Proofs.Ytdagccoamfhdcaa

theorem pieq {a b : Int} : (ieq a b = true) = (a = b) := by simp [ieq]
theorem pilt {a b : Int} : (ilt a b = true) = (a < b) := by simp [ilt]
theorem pile {a b : Int} : (ile a b = true) = (a ≤ b) := by simp [ile]
theorem pseq {a b : List UInt8} : (seq a b = true) = (a = b) := by simp [seq]
theorem pbeq2 {a b : Bool} : (beq2 a b = true) = (a = b) := by simp [beq2]
theorem pband {a b : Bool} : (band a b = true) = (a = true ∧ b = true) := by simp [band]

/-- A number of 64 bits. -/
def U (x : Int) : Prop := 0 ≤ x ∧ x < 18446744073709551616
theorem U.lo {x : Int} (h : U x) : 0 ≤ x := h.1
theorem U.hi {x : Int} (h : U x) : x < 18446744073709551616 := h.2
theorem pwu64 (x : Int) : IntKind.u64.wrap x = x % 18446744073709551616 := by simp [IntKind.wrap, IntKind.signed, IntKind.bits]
theorem pwu32 (x : Int) : IntKind.u32.wrap x = x % 4294967296 := by simp [IntKind.wrap, IntKind.signed, IntKind.bits]
theorem pwu16 (x : Int) : IntKind.u16.wrap x = x % 65536 := by simp [IntKind.wrap, IntKind.signed, IntKind.bits]
theorem pwu8 (x : Int) : IntKind.u8.wrap x = x % 256 := by simp [IntKind.wrap, IntKind.signed, IntKind.bits]
theorem pwi64 {x : Int} (h1 : -9223372036854775808 ≤ x) (h2 : x ≤ 9223372036854775807) : IntKind.i64.wrap x = x := by
  simp only [IntKind.wrap, IntKind.signed, IntKind.bits]
  simp
  omega
theorem pu64 {x : Int} (h1 : 0 ≤ x) (h2 : x < 18446744073709551616) : IntKind.u64.wrap x = x := by rw [pwu64]; omega
theorem pu32 {x : Int} (h1 : 0 ≤ x) (h2 : x < 4294967296) : IntKind.u32.wrap x = x := by rw [pwu32]; omega
theorem pu16 {x : Int} (h1 : 0 ≤ x) (h2 : x < 65536) : IntKind.u16.wrap x = x := by rw [pwu16]; omega
theorem pu8 {x : Int} (h1 : 0 ≤ x) (h2 : x < 256) : IntKind.u8.wrap x = x := by rw [pwu8]; omega
theorem pofN (n : Nat) : ofN n = (n : Int) := rfl
theorem ptoN (n : Nat) : toN (n : Int) = n := rfl
theorem ptoN' (x : Int) : toN x = x.toNat := rfl
theorem pxlen {α : Type} (l : List α) : xlen l = l.length := rfl
/-- The next place. -/
theorem pnext {n : Nat} (h : n < 9223372036854775807) : iadd .i64 (n : Int) 1 = ((n + 1 : Nat) : Int) := by
  simp only [iadd]
  rw [pwi64] <;> omega
theorem pgetI {l : List Int} {n : Nat} (h : n < l.length) : getI l n = l[n] := by simp [getI, h]
theorem pgetD {l : List D} {n : Nat} (h : n < l.length) : getD l n = l[n] := by simp [getD, h]
theorem pgetB {l : List UInt8} {n : Nat} (h : n < l.length) : getB l n = ((l[n].toNat : Nat) : Int) := by simp [getB, h]
theorem pcopy {α : Type} (l : List α) (x : α) : lspl (lrep l.length x) 0 (lsub l 0 (nmin (xlen (lrep l.length x)) (xlen l))) = l := by
  simp [lspl, lrep, lsub, nmin, xlen]
theorem pimax (a b : Int) : imax a b = max a b := by
  unfold imax
  by_cases h : b > a
  · rw [if_pos h]; omega
  · rw [if_neg h]; omega
theorem pimin (a b : Int) : imin a b = min a b := by
  unfold imin
  by_cases h : b < a
  · rw [if_pos h]; omega
  · rw [if_neg h]; omega
end Go.Proofs.Ytdagccoamfhdcaa
end
section
/-
  What the functions of package fifo do, in plain words: a queue.
-/
set_option linter.unusedVariables false
set_option linter.unusedSimpArgs false
namespace Go.Proofs.Ytdagccoamfhdcaa

abbrev Pk := Int × Int × Int
def pk (d : D) : Pk := (D.toI (D.fld d 0), D.toI (D.fld d 1), D.toI (D.fld d 2))
def mkP (p : Pk) : D := .l [.i p.1, .i p.2.1, .i p.2.2]
theorem pk_mk (a b c : Int) : pk (D.l [D.i a, D.i b, D.i c]) = (a, b, c) := rfl
def zP : D := .l [.i 0, .i 0, .i 0]

/-- A ring: where its first packet stands, how many there are, and which. -/
structure QR (f n : Nat) (r : List D) (l : List Pk) : Prop where
  hn : l.length = n
  le : n ≤ r.length
  hf : f < r.length ∨ (r = [] ∧ f = 0)
  big : r.length ≤ 1000000
  at_ : ∀ i, (hi : i < l.length) → pk (r.getD ((f + i) % r.length) (.i 0)) = l[i]
theorem QR.nil : QR 0 0 [] [] := ⟨rfl, by simp, .inr ⟨rfl, rfl⟩, by simp, fun i h => absurd h (by simp)⟩
theorem QR.zero {r : List D} (h : 0 < r.length) (hb : r.length ≤ 1000000) : QR 0 0 r [] := ⟨rfl, by simp, .inl h, hb, fun i h => absurd h (by simp)⟩

theorem p_at {i f : Nat} {x y : Int} {r : List D} (hr : 0 < r.length) (hf : f ≤ 1000000) (hi : i ≤ 1000000) : F_fifo_Queue_at (i : Int) x (f : Int) y r = some (((f + i) % r.length : Nat) : Int) := by
  unfold F_fifo_Queue_at
  have e : iadd .i64 (f : Int) (i : Int) = ((f + i : Nat) : Int) := by simp only [iadd]; rw [pwi64 (by omega) (by omega)]; omega
  have e2 : irem ((f + i : Nat) : Int) (ofN (xlen r)) = (((f + i) % r.length : Nat) : Int) := by
    simp only [irem, ofN, xlen]
    rw [Int.tmod_eq_emod_of_nonneg (by omega)]
    exact (Int.natCast_emod _ _).symm
  rw [if_pos (by simp only [ofN, xlen]; omega), e, e2]

/-- A greater ring: the packets from the first one on, and those ahead of it behind them. -/
theorem p_grow2 {f : Nat} {x y : Int} {r : List D} (hf : f ≤ r.length) (hb : r.length ≤ 400000) : ∃ z : List D, F_fifo_Queue_grow_2 x (f : Int) y r = some (r.drop f ++ r.take f ++ z) ∧ r.length + z.length = max 4 (2 * r.length) := by
  obtain ⟨M, hM⟩ : ∃ M : Nat, M = max 4 (2 * r.length) := ⟨_, rfl⟩
  have hm : imax (4 : Int) (imul .i64 (2 : Int) (ofN (xlen r))) = (M : Int) := by
    have : imul .i64 (2 : Int) (ofN (xlen r)) = ((2 * r.length : Nat) : Int) := by simp only [imul, ofN, xlen]; rw [pwi64 (by omega) (by omega)]; omega
    rw [this, pimax]; omega
  obtain ⟨Z, hZ⟩ : ∃ Z : List D, Z = List.replicate M zP := ⟨_, rfl⟩
  have hZl : Z.length = M := by rw [hZ]; simp
  have e0 : @lrep D (toN (M : Int)) (D.l [(D.i (0 : Int)), (D.i (0 : Int)), (D.i (0 : Int))]) = Z := by rw [hZ]; rfl
  have ea : lsub r (toN (f : Int)) (ndec (xlen r) (toN (f : Int))) = r.drop f := by
    show (r.drop f).take (r.length - f) = _
    exact List.take_of_length_le (by simp)
  have eb : lsub r 0 (toN (f : Int)) = r.take f := by show (r.drop 0).take f = _; rfl
  have hla : (r.drop f).length = r.length - f := by simp
  have hlb : (r.take f).length = f := by simp; omega
  have em1 : nmin (xlen Z) (xlen (r.drop f)) = r.length - f := by simp only [nmin, xlen]; omega
  have el1 : lsub (r.drop f) 0 (r.length - f) = r.drop f := by show ((r.drop f).drop 0).take _ = _; exact List.take_of_length_le (by simp)
  have es1 : lspl Z 0 (r.drop f) = r.drop f ++ Z.drop (r.length - f) := by
    show Z.take 0 ++ r.drop f ++ Z.drop (0 + (r.drop f).length) = _
    rw [hla, Nat.zero_add]; rfl
  have hl1 : xlen (r.drop f ++ Z.drop (r.length - f)) = M := by simp only [xlen, List.length_append, List.length_drop]; omega
  have em2 : nmin (ndec M (toN (ofN (r.length - f)))) (xlen (r.take f)) = f := by simp only [nmin, ndec, xlen, hlb]; show min (M - (r.length - f)) f = f; omega
  have el2 : lsub (r.take f) 0 f = r.take f := by show ((r.take f).drop 0).take _ = _; exact List.take_of_length_le (by rw [List.drop_zero, hlb]; exact Nat.le_refl _)
  have es2 : lspl (r.drop f ++ Z.drop (r.length - f)) (toN (ofN (r.length - f))) (r.take f) = r.drop f ++ r.take f ++ Z.drop r.length := by
    show (r.drop f ++ Z.drop (r.length - f)).take (r.length - f) ++ r.take f ++ (r.drop f ++ Z.drop (r.length - f)).drop (r.length - f + (r.take f).length) = _
    rw [List.take_left' hla, hlb]
    congr 1
    rw [List.drop_append, List.drop_of_length_le (by omega), List.nil_append, List.drop_drop, hla]
    congr 1
    omega
  refine ⟨Z.drop r.length, ?_, by simp only [List.length_drop]; omega⟩
  unfold F_fifo_Queue_grow_2
  rw [hm, e0, ea, em1, el1, es1, eb, hl1, em2, el2, es2]
  rw [if_pos (by omega), if_pos (by simp only [ofN, xlen]; omega), if_pos (by simp only [ofN]; omega), if_pos (by simp only [ofN, xlen]; omega)]

theorem getD_append_l {l m : List D} {i : Nat} (h : i < l.length) : (l ++ m).getD i (.i 0) = l.getD i (.i 0) := by
  rw [List.getD_eq_getElem?_getD, List.getD_eq_getElem?_getD, List.getElem?_append_left h]
/-- What stands in the greater ring. -/
theorem rot_at {r : List D} {f i : Nat} {z : List D} (hf : f < r.length) (hi : i < r.length) : (r.drop f ++ r.take f ++ z).getD i (.i 0) = r.getD ((f + i) % r.length) (.i 0) := by
  have hl : (r.drop f ++ r.take f).length = r.length := by simp; omega
  rw [getD_append_l (by omega)]
  by_cases h : f + i < r.length
  · rw [Nat.mod_eq_of_lt h, getD_append_l (by simp; omega)]
    simp [List.getD_eq_getElem?_getD, List.getElem?_drop]
  · have e : (f + i) % r.length = f + i - r.length := by rw [Nat.mod_eq_sub_mod (by omega), Nat.mod_eq_of_lt (by omega)]
    rw [e, List.getD_eq_getElem?_getD, List.getElem?_append_right (by simp; omega), List.getD_eq_getElem?_getD]
    simp only [List.length_drop]
    rw [List.getElem?_take_of_lt (by omega)]
    congr 2
    omega
theorem getD_set_ne {r : List D} {i j : Nat} {d : D} (h : i ≠ j) : (r.set i d).getD j (.i 0) = r.getD j (.i 0) := by
  rw [List.getD_eq_getElem?_getD, List.getD_eq_getElem?_getD, List.getElem?_set_ne h]
theorem getD_set_eq {r : List D} {i : Nat} {d : D} (h : i < r.length) : (r.set i d).getD i (.i 0) = d := by
  rw [List.getD_eq_getElem?_getD, List.getElem?_set_self h]
  rfl
theorem mod_ne {L f n i : Nat} (hn : n < L) (hi : i < n) : (f + n) % L ≠ (f + i) % L := by
  intro e
  have h1 : (f + n) % L = (f + i + (n - i)) % L := by congr 1; omega
  rw [h1] at e
  have h2 : (f + i + (n - i)) % L = ((f + i) % L + (n - i)) % L := by rw [Nat.mod_add_mod]
  rw [h2] at e
  have hL : (f + i) % L < L := Nat.mod_lt _ (by omega)
  by_cases h : (f + i) % L + (n - i) < L
  · rw [Nat.mod_eq_of_lt h] at e; omega
  · rw [Nat.mod_eq_sub_mod (by omega), Nat.mod_eq_of_lt (by omega)] at e; omega
/-- A packet more. -/
theorem QR.put {f n : Nat} {r : List D} {l : List Pk} (h : QR f n r l) (hn : n < r.length) (d : D) : QR f (n + 1) (r.set ((f + n) % r.length) d) (l ++ [pk d]) := by
  have hf : f < r.length := by rcases h.hf with hf | ⟨rfl, _⟩; exact hf; simp at hn
  have hL : (f + n) % r.length < r.length := Nat.mod_lt _ (by omega)
  refine ⟨by simp [h.hn], by simp; omega, .inl (by simpa using hf), by simpa using h.big, fun i hi => ?_⟩
  simp only [List.length_set]
  have hl := h.hn
  by_cases hin : i < l.length
  · rw [getD_set_ne (mod_ne hn (by omega)), h.at_ i hin, List.getElem_append_left hin]
  · have : i = n := by simp at hi; omega
    subst this
    rw [getD_set_eq hL]
    simp [h.hn]
theorem p_put2 {a b c x : Int} {f n : Nat} {r : List D} {l : List Pk} (h : QR f n r l) (hn : n ≤ 400000) :
    ∃ (f' : Nat) (r' : List D), F_fifo_Queue_put_2 a b c x (f : Int) (n : Int) r = some ((f' : Int), ((n + 1 : Nat) : Int), r') ∧ QR f' (n + 1) r' (l ++ [(a, b, c)]) := by
  have hle := h.le
  have hbig := h.big
  have hfl : f ≤ r.length := by rcases h.hf with hf | ⟨rfl, rfl⟩ <;> omega
  unfold F_fifo_Queue_put_2
  by_cases c1 : n = r.length
  · rw [if_pos (by rw [pieq]; simp only [ofN, xlen]; omega)]
    obtain ⟨z, hz, hzl⟩ := p_grow2 (x := x) (f := f) (y := (n : Int)) (r := r) hfl (by omega)
    rw [hz]
    dsimp only
    generalize hq : r.drop f ++ r.take f ++ z = q
    have hql : q.length = max 4 (2 * r.length) := by rw [← hq]; simp only [List.length_append, List.length_drop, List.length_take]; omega
    have hQ : QR 0 n q l := by
      refine ⟨h.hn, by omega, .inl (by omega), by omega, fun i hi => ?_⟩
      have hi' : i < r.length := by have := h.hn; omega
      have hf : f < r.length := by rcases h.hf with hf | ⟨rfl, _⟩; exact hf; simp at hi'
      rw [Nat.zero_add, Nat.mod_eq_of_lt (by omega), ← hq, rot_at hf hi']
      exact h.at_ i hi
    have ha := p_at (i := n) (f := 0) (x := x) (y := (n : Int)) (r := q) (by omega) (by omega) (by omega)
    rw [show ((0 : Nat) : Int) = 0 from rfl] at ha
    rw [ha]
    dsimp only
    have hlt : (0 + n) % q.length < q.length := Nat.mod_lt _ (by omega)
    rw [if_pos (by simp only [ofN, xlen]; omega), pnext (by omega)]
    exact ⟨0, _, rfl, hQ.put (by omega) (D.l [D.i a, D.i b, D.i c])⟩
  · rw [if_neg (by rw [pieq]; simp only [ofN, xlen]; omega), p_at (by omega) (by omega) (by omega)]
    dsimp only
    have hlt : (f + n) % r.length < r.length := Nat.mod_lt _ (by omega)
    rw [if_pos (by simp only [ofN, xlen]; omega), pnext (by omega)]
    exact ⟨f, _, rfl, h.put (by omega) (D.l [D.i a, D.i b, D.i c])⟩
/-- Whether one more may come. -/
theorem p_push2 {a b c lim : Int} {f n : Nat} {r : List D} {l : List Pk} (h : QR f n r l) (hn : n ≤ 400000) :
    (lim ≤ (n : Int) ∧ F_fifo_Queue_Push_2 a b c lim (f : Int) (n : Int) r = some (false, (f : Int), (n : Int), r)) ∨
    ((n : Int) < lim ∧ ∃ (f' : Nat) (r' : List D), F_fifo_Queue_Push_2 a b c lim (f : Int) (n : Int) r = some (true, (f' : Int), ((n + 1 : Nat) : Int), r') ∧ QR f' (n + 1) r' (l ++ [(a, b, c)])) := by
  unfold F_fifo_Queue_Push_2
  by_cases c1 : lim ≤ (n : Int)
  · exact .inl ⟨c1, by rw [if_pos (by rw [pile]; exact c1)]⟩
  · refine .inr ⟨by omega, ?_⟩
    rw [if_neg (by rw [pile]; exact c1)]
    obtain ⟨f', r', h1, h2⟩ := p_put2 (a := a) (b := b) (c := c) (x := lim) h hn
    rw [h1]
    exact ⟨f', r', rfl, h2⟩
def headOf : List Pk → Int × Int × Int × Bool
  | [] => (0, 0, 0, false)
  | p :: _ => (p.1, p.2.1, p.2.2, true)
/-- The first one. -/
theorem p_head {lim : Int} {f n : Nat} {r : List D} {l : List Pk} (h : QR f n r l) : F_fifo_Queue_Head lim (f : Int) (n : Int) r = some (headOf l) := by
  unfold F_fifo_Queue_Head F_fifo_Queue_Len
  dsimp only
  have hl := h.hn
  cases l with
  | nil =>
    have : n = 0 := by simpa using hl.symm
    subst this
    rw [if_pos (by rw [pieq]; rfl)]
    rfl
  | cons p l =>
    simp only [List.length_cons] at hl
    have hle := h.le
    have hf : f < r.length := by rcases h.hf with hf | ⟨rfl, _⟩; exact hf; simp at hle; omega
    rw [if_neg (by rw [pieq]; omega), if_pos (by simp only [ofN, xlen]; omega)]
    have := h.at_ 0 (by simp)
    rw [Nat.add_zero, Nat.mod_eq_of_lt hf] at this
    have e : pk (getD r (toN (f : Int))) = p := this
    rw [← e]
    rfl
theorem QR.pop {f n : Nat} {r : List D} {p : Pk} {l : List Pk} (h : QR f n r (p :: l)) : QR ((f + 1) % r.length) (n - 1) r l := by
  have hl := h.hn
  have hle := h.le
  simp only [List.length_cons] at hl
  refine ⟨by omega, by omega, .inl (Nat.mod_lt _ (by omega)), h.big, fun i hi => ?_⟩
  have := h.at_ (i + 1) (by simpa using hi)
  rw [Nat.mod_add_mod, show f + 1 + i = f + (i + 1) by omega, this]
  simp
theorem p_pop {lim : Int} {f n : Nat} {r : List D} {l : List Pk} (h : QR f n r l) (hn : n ≤ 400000) :
    (l = [] ∧ F_fifo_Queue_Pop_2 lim (f : Int) (n : Int) r = some (0, 0, 0, false, (f : Int), (n : Int))) ∨
    ∃ p l' f', l = p :: l' ∧ F_fifo_Queue_Pop_2 lim (f : Int) (n : Int) r = some (p.1, p.2.1, p.2.2, true, ((f' : Nat) : Int), ((n - 1 : Nat) : Int)) ∧ QR f' (n - 1) r l' := by
  unfold F_fifo_Queue_Pop_2
  rw [p_head h]
  cases l with
  | nil => exact .inl ⟨rfl, rfl⟩
  | cons p l =>
    refine .inr ⟨p, l, (f + 1) % r.length, rfl, ?_, h.pop⟩
    have hl := h.hn
    simp only [List.length_cons] at hl
    have hle := h.le
    have hbig := h.big
    have hf : f < r.length := by rcases h.hf with hf | ⟨rfl, _⟩; exact hf; simp at hle; omega
    dsimp only
    have ha := p_at (i := 1) (f := f) (x := lim) (y := (n : Int)) (r := r) (by omega) (by omega) (by omega)
    rw [show ((1 : Nat) : Int) = 1 from rfl] at ha
    rw [show headOf (p :: l) = (p.1, p.2.1, p.2.2, true) from rfl]
    dsimp only
    rw [if_pos rfl, ha]
    dsimp only
    have : isub .i64 (n : Int) 1 = ((n - 1 : Nat) : Int) := by simp only [isub]; rw [pwi64 (by omega) (by omega)]; omega
    rw [this]
/-- All of them. -/
theorem p_all {lim : Int} {f n : Nat} {r : List D} {l : List Pk} (h : QR f n r l) (hn : n ≤ 400000) : ∃ q, F_fifo_Queue_All lim (f : Int) (n : Int) r = some q ∧ q.map pk = l := by
  unfold F_fifo_Queue_All F_fifo_Queue_Len
  dsimp only
  have hle := h.le
  have hbig := h.big
  have hl := h.hn
  have key : ∀ (m i : Nat) (q : List D), i + m = n → q.map pk = l.take i → ∃ q', iter (F_fifo_Queue_All_L1 (n : Int) lim (f : Int) r) ((i : Int), q) = some q' ∧ q'.map pk = l := by
    intro m
    induction m with
    | zero =>
      intro i q hi hq
      refine ⟨q, ?_, by rw [hq, List.take_of_length_le (by omega)]⟩
      apply iter_inr
      unfold F_fifo_Queue_All_L1
      dsimp only
      rw [if_neg (by rw [pilt]; omega)]
    | succ m ih =>
      intro i q hi hq
      have hf : f < r.length := by rcases h.hf with hf | ⟨rfl, _⟩; exact hf; simp at hle; omega
      have hql : q.length = i := by have := congrArg List.length hq; simp only [List.length_map, List.length_take] at this; omega
      have hlt : (f + i) % r.length < r.length := Nat.mod_lt _ (by omega)
      obtain ⟨q', h1, h2⟩ := ih (i + 1) (q ++ [D.l [D.i (D.toI (D.fld (getD r ((f + i) % r.length)) 0)), D.i (D.toI (D.fld (getD r ((f + i) % r.length)) 1)), D.i (D.toI (D.fld (getD r ((f + i) % r.length)) 2))]]) (by omega) (by
        rw [List.map_append, hq, List.take_succ_eq_append_getElem (by omega)]
        congr 1
        have := h.at_ i (by omega)
        rw [← this]
        rfl)
      refine ⟨q', ?_, h2⟩
      rw [← h1]
      apply iter_inl
      unfold F_fifo_Queue_All_L1
      dsimp only
      rw [if_pos (by rw [pilt]; omega), p_at (by omega) (by omega) (by omega)]
      dsimp only
      rw [if_pos (by simp only [ofN, xlen]; omega), if_pos (by simp only [xlen, List.length_cons, List.length_nil]; omega), pnext (by omega), ptoN]
      rfl
  exact key n 0 [] (by omega) rfl
/-- Are two rows the same? -/
theorem p_same {q s : List D} (hl : q.length ≤ 1000000) (h : q.map pk = s.map pk) : F_tollbarref22_Same q s = some true := by
  have hlen : q.length = s.length := by have := congrArg List.length h; simpa using this
  unfold F_tollbarref22_Same
  rw [if_pos (by rw [pieq]; simp only [ofN, xlen]; omega)]
  have key : ∀ (m i : Nat), i + m = q.length → iter (F_tollbarref22_Same_L1 q s) (i : Int) = some true := by
    intro m
    induction m with
    | zero =>
      intro i hi
      apply iter_inr
      unfold F_tollbarref22_Same_L1
      dsimp only
      rw [if_neg (by rw [pilt]; simp only [ofN, xlen]; omega)]
    | succ m ih =>
      intro i hi
      rw [iter_inl (y := ((i + 1 : Nat) : Int))]
      · exact ih (i + 1) (by omega)
      · unfold F_tollbarref22_Same_L1
        dsimp only
        have e : pk (getD q (toN (i : Int))) = pk (getD s (toN (i : Int))) := by
          rw [ptoN, pgetD (by omega), pgetD (by omega)]
          have h1 : (q.map pk)[i]'(by simp; omega) = (s.map pk)[i]'(by simp; omega) := by simp only [h]
          simpa using h1
        unfold pk at e
        simp only [Prod.mk.injEq] at e
        obtain ⟨e1, e2, e3⟩ := e
        rw [if_pos (by rw [pilt]; simp only [ofN, xlen]; omega), if_pos (by simp only [ofN, xlen]; omega), if_pos (by simp only [ofN, xlen]; omega), e1, e2, e3, if_pos (by simp [band, ieq]), pnext (by omega)]
  exact key q.length 0 (by omega)
/-- Just these packets. -/
theorem p_load2_loop {x : Int} {s : List D} (hs : s.length ≤ 400000) : ∀ (m i f : Nat) (r : List D), i + m = s.length → QR f i r ((s.map pk).take i) →
    ∃ (f' : Nat) (r' : List D), iter (F_fifo_Queue_Load_2_L1 s x) ((i : Int), (f : Int), (i : Int), r) = some ((f' : Int), (s.length : Int), r') ∧ QR f' s.length r' (s.map pk)
  | 0, i, f, r, hi, hq => by
    have : i = s.length := by omega
    subst this
    rw [List.take_of_length_le (by simp)] at hq
    refine ⟨f, r, ?_, hq⟩
    apply iter_inr
    unfold F_fifo_Queue_Load_2_L1
    dsimp only
    rw [if_neg (by rw [pilt]; simp only [ofN, xlen]; omega)]
  | m + 1, i, f, r, hi, hq => by
    obtain ⟨f', r', h1, h2⟩ := p_put2 (a := D.toI (D.fld (getD s (toN (i : Int))) 0)) (b := D.toI (D.fld (getD s (toN (i : Int))) 1)) (c := D.toI (D.fld (getD s (toN (i : Int))) 2)) (x := x) hq (by omega)
    have e : (s.map pk).take (i + 1) = (s.map pk).take i ++ [(D.toI (D.fld (getD s (toN (i : Int))) 0), D.toI (D.fld (getD s (toN (i : Int))) 1), D.toI (D.fld (getD s (toN (i : Int))) 2))] := by
      rw [List.take_succ_eq_append_getElem (by simp; omega)]
      congr 1
      rw [ptoN, pgetD (by omega)]
      simp [pk]
    rw [← e] at h2
    obtain ⟨f2, r2, h3, h4⟩ := p_load2_loop hs m (i + 1) f' r' (by omega) h2
    refine ⟨f2, r2, ?_, h4⟩
    rw [← h3]
    apply iter_inl
    unfold F_fifo_Queue_Load_2_L1
    dsimp only
    rw [if_pos (by rw [pilt]; simp only [ofN, xlen]; omega), if_pos (by simp only [ofN, xlen]; omega), h1]
    dsimp only
    rw [pnext (by omega)]
theorem p_load2 {x y z : Int} {s r : List D} (hs : s.length ≤ 400000) (hr : r.length ≤ 1000000) : ∃ (f' : Nat) (r' : List D), F_fifo_Queue_Load_2 s x y z r = some ((f' : Int), (s.length : Int), r') ∧ QR f' s.length r' (s.map pk) := by
  unfold F_fifo_Queue_Load_2
  have := p_load2_loop (x := x) hs s.length 0 0 (@lrep D (xlen r) (D.l [(D.i (0 : Int)), (D.i (0 : Int)), (D.i (0 : Int))])) (by omega) (by
    rw [List.take_zero]
    by_cases h0 : r.length = 0
    · have : @lrep D (xlen r) (D.l [(D.i (0 : Int)), (D.i (0 : Int)), (D.i (0 : Int))]) = [] := by simp [lrep, xlen, h0]
      rw [this]
      exact QR.nil
    · exact QR.zero (by simp [lrep, xlen]; omega) (by simpa [lrep, xlen] using hr))
  exact this
theorem p_load {x y z : Int} {s : List D} (hs : s.length ≤ 400000) : ∃ (f' : Nat) (r' : List D), F_fifo_Queue_Load s x y z = some ((f' : Int), (s.length : Int), r') ∧ QR f' s.length r' (s.map pk) := by
  have e : ∀ v, F_fifo_Queue_Load_L1 s x v = F_fifo_Queue_Load_2_L1 s x v := fun v => rfl
  have e' : F_fifo_Queue_Load_L1 s x = F_fifo_Queue_Load_2_L1 s x := funext e
  unfold F_fifo_Queue_Load
  rw [e']
  exact p_load2_loop (x := x) hs s.length 0 0 [] (by omega) (by rw [List.take_zero]; exact QR.nil)
end Go.Proofs.Ytdagccoamfhdcaa
end
section
/-
  What is known of arguments: their numbers fit.
-/
set_option linter.unusedVariables false
set_option linter.unusedSimpArgs false
namespace Go.Proofs.Ytdagccoamfhdcaa
theorem wf_U {x : Int} (h : (Lit.int .u64 x).wf = true) : U x := by
  have : 0 ≤ x ∧ x ≤ 18446744073709551615 := by simpa [Lit.wf, IntKind.min, IntKind.max, IntKind.signed, IntKind.bits, Int.lt_add_one_iff, Int.le_sub_one_iff] using h
  unfold U; omega
theorem wf_u32 {x : Int} (h : (Lit.int .u32 x).wf = true) : 0 ≤ x ∧ x < 4294967296 := by
  have : 0 ≤ x ∧ x ≤ 4294967295 := by simpa [Lit.wf, IntKind.min, IntKind.max, IntKind.signed, IntKind.bits, Int.lt_add_one_iff, Int.le_sub_one_iff] using h
  omega
theorem wf_u16 {x : Int} (h : (Lit.int .u16 x).wf = true) : 0 ≤ x ∧ x < 65536 := by
  have : 0 ≤ x ∧ x ≤ 65535 := by simpa [Lit.wf, IntKind.min, IntKind.max, IntKind.signed, IntKind.bits, Int.lt_add_one_iff, Int.le_sub_one_iff] using h
  omega
theorem wf_u8 {x : Int} (h : (Lit.int .u8 x).wf = true) : 0 ≤ x ∧ x < 256 := by
  have : 0 ≤ x ∧ x ≤ 255 := by simpa [Lit.wf, IntKind.min, IntKind.max, IntKind.signed, IntKind.bits, Int.lt_add_one_iff, Int.le_sub_one_iff] using h
  omega
theorem wf_i64 {x : Int} (h : (Lit.int .i64 x).wf = true) : -9223372036854775808 ≤ x ∧ x ≤ 9223372036854775807 := by
  simpa [Lit.wf, IntKind.min, IntKind.max, IntKind.signed, IntKind.bits, Int.lt_add_one_iff, Int.le_sub_one_iff] using h
end Go.Proofs.Ytdagccoamfhdcaa
end
section
/-
  What the functions of package fifo do, in plain words: two rows as one; the document's example; FifoMerges.
-/
set_option linter.unusedVariables false
set_option linter.unusedSimpArgs false
namespace Go.Proofs.Ytdagccoamfhdcaa

theorem p_concat3 {x y z : List D} (h : x.length + y.length + z.length ≤ 1000000) : F_slices_Concat [(D.l x), (D.l y), (D.l z)] = some (x ++ y ++ z) := by
  have g0 : getD [(D.l x), (D.l y), (D.l z)] (toN 0) = .l x := rfl
  have g1 : getD [(D.l x), (D.l y), (D.l z)] (toN 1) = .l y := rfl
  have g2 : getD [(D.l x), (D.l y), (D.l z)] (toN 2) = .l z := rfl
  have t : ∀ l, D.toL (.l l) = l := fun l => rfl
  have i0 : iadd .i64 (0 : Int) 1 = 1 := by decide
  have i1 : iadd .i64 (1 : Int) 1 = 2 := by decide
  have i2 : iadd .i64 (2 : Int) 1 = 3 := by decide
  have hx : ofN (xlen [(D.l x), (D.l y), (D.l z)]) = 3 := rfl
  have s0 : iadd .i64 (0 : Int) (ofN (xlen x)) = ((x.length : Nat) : Int) := by simp only [iadd, ofN, xlen]; rw [pwi64 (by omega) (by omega)]; omega
  have s1 : iadd .i64 ((x.length : Nat) : Int) (ofN (xlen y)) = ((x.length + y.length : Nat) : Int) := by simp only [iadd, ofN, xlen]; rw [pwi64 (by omega) (by omega)]; omega
  have s2 : iadd .i64 ((x.length + y.length : Nat) : Int) (ofN (xlen z)) = ((x.length + y.length + z.length : Nat) : Int) := by simp only [iadd, ofN, xlen]; rw [pwi64 (by omega) (by omega)]; omega
  have l0 : cat ([] : List D) x = x := by simp [cat]
  have l1 : cat x y = x ++ y := rfl
  have l2 : cat (x ++ y) z = x ++ y ++ z := rfl
  have body2 : iter (F_slices_Concat_L2 [(D.l x), (D.l y), (D.l z)]) ((0 : Int), ([] : List D)) = some (x ++ y ++ z) := by
    rw [iter_inl (y := ((1 : Int), x)), iter_inl (y := ((2 : Int), x ++ y)), iter_inl (y := ((3 : Int), x ++ y ++ z))]
    · apply iter_inr
      unfold F_slices_Concat_L2
      dsimp only
      rw [hx, if_neg (by rw [pilt]; omega)]
    · unfold F_slices_Concat_L2
      dsimp only
      rw [hx, if_pos (by rw [pilt]; omega), if_pos (by omega), g2, t, if_pos (by simp only [xlen, List.length_append]; omega), i2, l2]
    · unfold F_slices_Concat_L2
      dsimp only
      rw [hx, if_pos (by rw [pilt]; omega), if_pos (by omega), g1, t, if_pos (by simp only [xlen]; omega), i1, l1]
    · unfold F_slices_Concat_L2
      dsimp only
      rw [hx, if_pos (by rw [pilt]; omega), if_pos (by omega), g0, t, if_pos (by simp only [xlen, List.length_nil]; omega), i0, l0]
  have e3 : F_slices_Concat_L3 [(D.l x), (D.l y), (D.l z)] = F_slices_Concat_L2 [(D.l x), (D.l y), (D.l z)] := funext fun v => rfl
  unfold F_slices_Concat
  rw [iter_inl (y := (((x.length : Nat) : Int), (1 : Int))), iter_inl (y := (((x.length + y.length : Nat) : Int), (2 : Int))), iter_inl (y := (((x.length + y.length + z.length : Nat) : Int), (3 : Int)))]
  · apply iter_inr
    unfold F_slices_Concat_L1
    dsimp only
    rw [hx, if_neg (by rw [pilt]; omega), e3, body2]
    unfold growP
    rw [if_neg (by omega)]
    by_cases h0 : ((x.length + y.length + z.length : Nat) : Int) = 0
    · rw [if_pos h0]; rfl
    · rw [if_neg h0, if_pos (by omega)]; rfl
  · unfold F_slices_Concat_L1
    dsimp only
    rw [hx, if_pos (by rw [pilt]; omega), if_pos (by omega), g2, t, s2, if_neg (by rw [pilt]; omega), i2]
  · unfold F_slices_Concat_L1
    dsimp only
    rw [hx, if_pos (by rw [pilt]; omega), if_pos (by omega), g1, t, s1, if_neg (by rw [pilt]; omega), i1]
  · unfold F_slices_Concat_L1
    dsimp only
    rw [hx, if_pos (by rw [pilt]; omega), if_pos (by omega), g0, t, s0, if_neg (by rw [pilt]; omega), i0]

/-- Two rows as one. -/
def mrg : List Pk → List Pk → List Pk
  | [], b => b
  | x :: a, [] => x :: a
  | x :: a, y :: b => if y.1 < x.1 then y :: mrg (x :: a) b else x :: mrg a (y :: b)
termination_by a b => a.length + b.length
theorem mrg_nil (a : List Pk) : mrg a [] = a := by cases a <;> simp [mrg]
theorem mrg_len : ∀ (n : Nat) (a b : List Pk), a.length + b.length ≤ n → (mrg a b).length = a.length + b.length
  | n, [], b, h => by simp [mrg]
  | n, x :: a, [], h => by simp [mrg]
  | 0, x :: a, y :: b, h => by simp at h
  | n + 1, x :: a, y :: b, h => by
    simp only [List.length_cons] at h
    unfold mrg
    split
    · simp only [List.length_cons, mrg_len n (x :: a) b (by simp only [List.length_cons]; omega)]; omega
    · simp only [List.length_cons, mrg_len n a (y :: b) (by simp only [List.length_cons]; omega)]; omega

theorem tail1 (d : D) (t : List D) : lsub (d :: t) (toN (1 : Int)) (ndec (xlen (d :: t)) (toN (1 : Int))) = t := by
  show ((d :: t).drop 1).take ((d :: t).length - 1) = t
  simp
theorem getD0 (d : D) (t : List D) : getD (d :: t) (toN (0 : Int)) = d := rfl
theorem lenc (d : D) (t : List D) : ofN (xlen (d :: t)) = (t.length : Int) + 1 := by simp [ofN, xlen]
theorem len0 : ofN (xlen ([] : List D)) = 0 := rfl

theorem p_merge_loop : ∀ (n : Nat) (a b out : List D), a.length + b.length ≤ n → out.length + a.length + b.length ≤ 1000000 → ∃ q, iter F_fifo_Merge_L1 (a, b, out) = some q ∧ q.map pk = out.map pk ++ mrg (a.map pk) (b.map pk)
  | n, [], b, out, h, hb => by
    refine ⟨out ++ [] ++ b, ?_, by simp [mrg]⟩
    apply iter_inr
    unfold F_fifo_Merge_L1
    dsimp only
    rw [len0, if_neg (by rw [pilt]; omega), p_concat3 (by omega)]
  | n, d :: a, [], out, h, hb => by
    refine ⟨out ++ (d :: a) ++ [], ?_, by simp [mrg]⟩
    apply iter_inr
    unfold F_fifo_Merge_L1
    dsimp only
    rw [lenc, if_pos (by rw [pilt]; omega), len0, if_neg (by rw [pilt]; omega), p_concat3 (by omega)]
  | 0, d :: a, e :: b, out, h, hb => by simp at h
  | n + 1, d :: a, e :: b, out, h, hb => by
    simp only [List.length_cons] at h hb
    by_cases c : (pk e).1 < (pk d).1
    · obtain ⟨q, h1, h2⟩ := p_merge_loop n (d :: a) b (out ++ [D.l [D.i (D.toI (D.fld e 0)), D.i (D.toI (D.fld e 1)), D.i (D.toI (D.fld e 2))]]) (by simp only [List.length_cons]; omega) (by simp only [List.length_cons, List.length_append, List.length_nil]; omega)
      refine ⟨q, ?_, ?_⟩
      · rw [← h1]
        apply iter_inl
        unfold F_fifo_Merge_L1
        dsimp only
        have c' : (D.toI (D.fld e 0)) < (D.toI (D.fld d 0)) := c
        rw [tail1, getD0, getD0, lenc, lenc, if_pos (by rw [pilt]; omega), if_pos (by rw [pilt]; omega), if_pos (by omega), if_pos (by omega), if_pos (by rw [pilt]; exact c'), if_pos (by omega), if_pos (by simp only [xlen, List.length_cons, List.length_nil]; omega), if_pos (by omega)]
        rfl
      · rw [h2]
        simp only [List.map_cons, List.map_append, List.map_nil, List.append_assoc]
        congr 1
        rw [mrg, if_pos c]
        rfl
    · obtain ⟨q, h1, h2⟩ := p_merge_loop n a (e :: b) (out ++ [D.l [D.i (D.toI (D.fld d 0)), D.i (D.toI (D.fld d 1)), D.i (D.toI (D.fld d 2))]]) (by simp only [List.length_cons]; omega) (by simp only [List.length_cons, List.length_append, List.length_nil]; omega)
      refine ⟨q, ?_, ?_⟩
      · rw [← h1]
        apply iter_inl
        unfold F_fifo_Merge_L1
        dsimp only
        have c' : ¬ (D.toI (D.fld e 0)) < (D.toI (D.fld d 0)) := c
        rw [tail1, getD0, getD0, lenc, lenc, if_pos (by rw [pilt]; omega), if_pos (by rw [pilt]; omega), if_pos (by omega), if_pos (by omega), if_neg (by rw [pilt]; exact c'), if_pos (by omega), if_pos (by simp only [xlen, List.length_cons, List.length_nil]; omega), if_pos (by omega), tail1]
        rfl
      · rw [h2]
        simp only [List.map_cons, List.map_append, List.map_nil, List.append_assoc]
        congr 1
        rw [mrg, if_neg c]
        rfl
theorem p_merge {a b : List D} (h : a.length + b.length ≤ 1000000) : ∃ q, F_fifo_Merge a b = some q ∧ q.map pk = mrg (a.map pk) (b.map pk) := by
  obtain ⟨q, h1, h2⟩ := p_merge_loop _ a b [] (Nat.le_refl _) (by simpa using h)
  exact ⟨q, h1, by simpa using h2⟩
theorem p_rmerge_loop : ∀ (n : Nat) (a b out : List D), a.length + b.length ≤ n → out.length + a.length + b.length ≤ 1000000 → ∃ q, iter F_tollbarref22_Merge_L1 (a, b, out) = some q ∧ q.map pk = out.map pk ++ mrg (a.map pk) (b.map pk)
  | n, [], [], out, h, hb => by
    refine ⟨out, ?_, by simp [mrg]⟩
    apply iter_inr
    unfold F_tollbarref22_Merge_L1
    dsimp only
    rw [len0, if_neg (by rw [pilt]; omega), if_neg (by rw [pilt]; omega)]
  | 0, d :: a, b, out, h, hb => by simp at h
  | 0, [], e :: b, out, h, hb => by simp at h
  | n + 1, [], e :: b, out, h, hb => by
    simp only [List.length_cons, List.length_nil] at h hb
    obtain ⟨q, h1, h2⟩ := p_rmerge_loop n [] b (out ++ [D.l [D.i (D.toI (D.fld e 0)), D.i (D.toI (D.fld e 1)), D.i (D.toI (D.fld e 2))]]) (by simp only [List.length_nil]; omega) (by simp only [List.length_cons, List.length_append, List.length_nil]; omega)
    refine ⟨q, ?_, ?_⟩
    · rw [← h1]
      apply iter_inl
      unfold F_tollbarref22_Merge_L1
      dsimp only
      rw [tail1, getD0, lenc, len0, if_neg (by rw [pilt]; omega), if_pos (by rw [pilt]; omega), if_pos (by rw [pieq]), if_pos (by omega), if_pos (by simp only [xlen, List.length_cons, List.length_nil]; omega), if_pos (by omega)]
      rfl
    · rw [h2]
      simp only [List.map_cons, List.map_append, List.map_nil, List.append_assoc]
      simp [mrg]
      rfl
  | n + 1, d :: a, [], out, h, hb => by
    simp only [List.length_cons, List.length_nil] at h hb
    obtain ⟨q, h1, h2⟩ := p_rmerge_loop n a [] (out ++ [D.l [D.i (D.toI (D.fld d 0)), D.i (D.toI (D.fld d 1)), D.i (D.toI (D.fld d 2))]]) (by simp only [List.length_nil]; omega) (by simp only [List.length_cons, List.length_append, List.length_nil]; omega)
    refine ⟨q, ?_, ?_⟩
    · rw [← h1]
      apply iter_inl
      unfold F_tollbarref22_Merge_L1
      dsimp only
      rw [tail1, getD0, lenc, len0, if_pos (by rw [pilt]; omega), if_neg (by rw [pieq]; omega), if_neg (by rw [pilt]; omega), if_pos (by omega), if_pos (by simp only [xlen, List.length_cons, List.length_nil]; omega), if_pos (by omega)]
      rfl
    · rw [h2]
      simp only [List.map_cons, List.map_append, List.map_nil, List.append_assoc, mrg_nil]
      simp [mrg]
      rfl
  | n + 1, d :: a, e :: b, out, h, hb => by
    simp only [List.length_cons] at h hb
    by_cases c : (pk e).1 < (pk d).1
    · obtain ⟨q, h1, h2⟩ := p_rmerge_loop n (d :: a) b (out ++ [D.l [D.i (D.toI (D.fld e 0)), D.i (D.toI (D.fld e 1)), D.i (D.toI (D.fld e 2))]]) (by simp only [List.length_cons]; omega) (by simp only [List.length_cons, List.length_append, List.length_nil]; omega)
      refine ⟨q, ?_, ?_⟩
      · rw [← h1]
        apply iter_inl
        unfold F_tollbarref22_Merge_L1
        dsimp only
        have c' : (D.toI (D.fld e 0)) < (D.toI (D.fld d 0)) := c
        rw [getD0, getD0, lenc, lenc, if_pos (by rw [pilt]; omega), if_neg (by rw [pieq]; omega), if_pos (by rw [pilt]; omega), if_pos (by omega), if_pos (by omega), if_pos (by rw [pilt]; exact c'), if_pos (by omega), if_pos (by simp only [xlen, List.length_cons, List.length_nil]; omega), if_pos (by omega), tail1]
        rfl
      · rw [h2]
        simp only [List.map_cons, List.map_append, List.map_nil, List.append_assoc]
        congr 1
        rw [mrg, if_pos c]
        rfl
    · obtain ⟨q, h1, h2⟩ := p_rmerge_loop n a (e :: b) (out ++ [D.l [D.i (D.toI (D.fld d 0)), D.i (D.toI (D.fld d 1)), D.i (D.toI (D.fld d 2))]]) (by simp only [List.length_cons]; omega) (by simp only [List.length_cons, List.length_append, List.length_nil]; omega)
      refine ⟨q, ?_, ?_⟩
      · rw [← h1]
        apply iter_inl
        unfold F_tollbarref22_Merge_L1
        dsimp only
        have c' : ¬ (D.toI (D.fld e 0)) < (D.toI (D.fld d 0)) := c
        rw [getD0, getD0, lenc, lenc, if_pos (by rw [pilt]; omega), if_neg (by rw [pieq]; omega), if_pos (by rw [pilt]; omega), if_pos (by omega), if_pos (by omega), if_neg (by rw [pilt]; exact c'), if_pos (by omega), if_pos (by simp only [xlen, List.length_cons, List.length_nil]; omega), if_pos (by omega), tail1]
        rfl
      · rw [h2]
        simp only [List.map_cons, List.map_append, List.map_nil, List.append_assoc]
        congr 1
        rw [mrg, if_neg c]
        rfl
theorem p_rmerge {a b : List D} (h : a.length + b.length ≤ 1000000) : ∃ q, F_tollbarref22_Merge a b = some q ∧ q.map pk = mrg (a.map pk) (b.map pk) := by
  obtain ⟨q, h1, h2⟩ := p_rmerge_loop _ a b [] (Nat.le_refl _) (by simpa using h)
  exact ⟨q, h1, by simpa using h2⟩
end Go.Proofs.Ytdagccoamfhdcaa
end
section
/-
  The document's example; FifoMerges, in plain words.
-/
set_option linter.unusedVariables false
set_option linter.unusedSimpArgs false
namespace Go.Proofs.Ytdagccoamfhdcaa

theorem p_put1 {a b c x : Int} : ∃ r, F_fifo_Queue_put a b c x 0 0 = some (((1 : Nat) : Int), r) ∧ QR 0 1 r [(a, b, c)] := by
  have hg : F_fifo_Queue_grow x 0 0 = some (List.replicate 4 zP) := by
    unfold F_fifo_Queue_grow
    rw [show imax (4 : Int) (imul .i64 (2 : Int) (ofN 0)) = 4 by decide]
    rw [if_pos (by decide), if_pos (by decide), if_pos (by simp only [ofN, xlen, lrep, List.length_replicate]; omega), if_pos (by decide)]
    rfl
  unfold F_fifo_Queue_put
  rw [if_pos (by decide), hg]
  dsimp only
  have ha := p_at (i := 0) (f := 0) (x := x) (y := 0) (r := List.replicate 4 zP) (by simp) (by omega) (by omega)
  rw [show ((0 : Nat) : Int) = 0 from rfl] at ha
  rw [ha]
  dsimp only
  have hq : QR 0 0 (List.replicate 4 zP) [] := QR.zero (by simp) (by simp)
  have h1 := hq.put (by simp) (D.l [D.i a, D.i b, D.i c])
  rw [if_pos (by simp [ofN, xlen])]
  exact ⟨_, rfl, h1⟩
theorem p_awake : F_tollbarlaw22_awake = some true := by
  unfold F_tollbarlaw22_awake F_fifo_New
  dsimp only
  obtain ⟨r, e1, h1⟩ := p_put1 (a := 5) (b := 0) (c := 0) (x := 1)
  have hp : F_fifo_Queue_Push 5 0 0 1 0 0 = some (true, 0, ((1 : Nat) : Int), r) := by
    unfold F_fifo_Queue_Push
    rw [if_neg (by decide), e1]
  rw [hp]
  dsimp only
  have hz : (0 : Int) = ((0 : Nat) : Int) := rfl
  have h2 : F_fifo_Queue_Push_2 6 0 0 1 0 ((1 : Nat) : Int) r = some (false, 0, ((1 : Nat) : Int), r) := by
    rcases p_push2 (a := 6) (b := 0) (c := 0) (lim := 1) h1 (by omega) with ⟨_, h⟩ | ⟨h, _⟩
    · exact h
    · omega
  rw [h2]
  dsimp only
  have h3 : F_fifo_Queue_Head 1 0 ((1 : Nat) : Int) r = some (5, 0, 0, true) := p_head (lim := 1) h1
  rw [h3]
  dsimp only
  obtain ⟨q, h4, h5⟩ := p_merge (a := [D.l [D.i 2, D.i 0, D.i 0]]) (b := [D.l [D.i 1, D.i 0, D.i 0], D.l [D.i 3, D.i 0, D.i 0]]) (by simp)
  have h6 : mrg ([D.l [D.i 2, D.i 0, D.i 0]].map pk) ([D.l [D.i 1, D.i 0, D.i 0], D.l [D.i 3, D.i 0, D.i 0]].map pk) = [(1, 0, 0), (2, 0, 0), (3, 0, 0)] := by
    simp only [List.map_cons, List.map_nil, pk_mk]
    rw [mrg, if_pos (by decide), mrg, if_neg (by decide)]
    simp [mrg]
  rw [h6] at h5
  rw [h4]
  dsimp only
  obtain ⟨q4, h7, h8⟩ := p_all (lim := 1) h1 (by omega)
  have hl4 : q4.length = 1 := by have := congrArg List.length h8; simpa using this
  have hl3 : q.length = 3 := by have := congrArg List.length h5; simpa using this
  have x0 : D.toI (D.fld (getD q (toN 0)) 0) = 1 := by
    have : (q.map pk)[0]'(by simp; omega) = (1, 0, 0) := by simp only [h5]; rfl
    have e : pk (getD q (toN 0)) = (1, 0, 0) := by rw [← this]; show pk (getD q 0) = _; rw [pgetD (by omega)]; simp
    exact congrArg (·.1) e
  have x2 : D.toI (D.fld (getD q (toN 2)) 0) = 3 := by
    have : (q.map pk)[2]'(by simp; omega) = (3, 0, 0) := by simp only [h5]; rfl
    have e : pk (getD q (toN 2)) = (3, 0, 0) := by rw [← this]; show pk (getD q 2) = _; rw [pgetD (by omega)]; simp
    exact congrArg (·.1) e
  unfold F_fifo_Queue_Len F_fifo_Queue_Limit
  dsimp only
  have h7' : F_fifo_Queue_All 1 0 ((1 : Nat) : Int) r = some q4 := h7
  rw [if_pos rfl, if_neg (by simp), if_pos rfl, if_pos (by decide), if_pos (by decide), if_pos (by decide), h7']
  dsimp only
  rw [if_pos (by rw [pieq]; simp only [ofN, xlen]; omega), if_pos (by rw [pieq]; simp only [ofN, xlen]; omega), if_pos (by simp only [ofN, xlen]; omega), x0, if_pos (by decide), if_pos (by simp only [ofN, xlen]; omega), x2]
  rfl

/-- A row that does not fall, from a number on. -/
def SrtL : Int → List Pk → Prop
  | _, [] => True
  | lo, x :: t => lo ≤ x.1 ∧ SrtL x.1 t
theorem SrtL.mono {lo lo' : Int} {l : List Pk} (h : SrtL lo l) (hl : lo' ≤ lo) : SrtL lo' l := by
  cases l with
  | nil => trivial
  | cons x t => exact ⟨by have := h.1; omega, h.2⟩
theorem srt_mrg : ∀ (n : Nat) (lo : Int) (a b : List Pk), a.length + b.length ≤ n → SrtL lo a → SrtL lo b → SrtL lo (mrg a b)
  | n, lo, [], b, h, ha, hb => by simpa [mrg] using hb
  | n, lo, x :: a, [], h, ha, hb => by simpa [mrg] using ha
  | 0, lo, x :: a, y :: b, h, ha, hb => by simp at h
  | n + 1, lo, x :: a, y :: b, h, ha, hb => by
    simp only [List.length_cons] at h
    unfold mrg
    split
    · rename_i c
      exact ⟨hb.1, srt_mrg n y.1 (x :: a) b (by simp only [List.length_cons]; omega) ⟨by omega, ha.2⟩ hb.2⟩
    · rename_i c
      exact ⟨ha.1, srt_mrg n x.1 a (y :: b) (by simp only [List.length_cons]; omega) ha.2 ⟨by omega, hb.2⟩⟩
/-- The number of a packet. -/
def sq (r : List D) (i : Nat) : Int := (pk (r.getD i (.i 0))).1
theorem srt_of : ∀ (r : List D), (∀ j, j + 1 < r.length → sq r j < sq r (j + 1)) → ∀ lo, (∀ d t, r = d :: t → lo ≤ (pk d).1) → SrtL lo (r.map pk)
  | [], h, lo, hl => trivial
  | [d], h, lo, hl => ⟨hl d [] rfl, trivial⟩
  | d :: e :: t, h, lo, hl => by
    refine ⟨hl d _ rfl, ?_⟩
    have h0 := h 0 (by simp)
    refine srt_of (e :: t) (fun j hj => ?_) _ (fun d' t' e' => ?_)
    · have := h (j + 1) (by simpa using hj)
      simpa [sq] using this
    · injection e' with e1 e2
      subst e1
      have : (pk d).1 < (pk e).1 := by simpa [sq] using h0
      omega
theorem srt_adj : ∀ (l : List Pk) (lo : Int), SrtL lo l → ∀ (j : Nat) (h1 : j + 1 < l.length), (l[j]'(by omega)).1 ≤ (l[j + 1]).1
  | [], lo, h, j, h1 => by simp at h1
  | [x], lo, h, j, h1 => by simp at h1
  | x :: y :: t, lo, h, j, h1 => by
    cases j with
    | zero => exact h.2.1
    | succ j => exact srt_adj (y :: t) x.1 h.2 j (by simpa using h1)
theorem sq_map {r : List D} {i : Nat} (h : i < r.length) : sq r i = ((r.map pk)[i]'(by simpa using h)).1 := by
  simp [sq, h]
theorem isub1 {i : Nat} (h : 1 ≤ i) (h2 : i ≤ 1000000) : isub .i64 (i : Int) 1 = ((i - 1 : Nat) : Int) := by simp only [isub]; rw [pwi64 (by omega) (by omega)]; omega

theorem merges_L3 {q : List D} {b : Bool} (hl : q.length ≤ 400) (h : b = true → ∀ j, j + 1 < q.length → sq q j ≤ sq q (j + 1)) : ∀ (m i : Nat), 1 ≤ i → i + m = max q.length 1 → iter (F_tollbarlaw22_FifoMerges_L3 q b) (i : Int) = some true
  | 0, i, h1, hi => by
    apply iter_inr
    unfold F_tollbarlaw22_FifoMerges_L3
    dsimp only
    rw [if_neg (by rw [pilt]; simp only [ofN, xlen]; omega)]
  | m + 1, i, h1, hi => by
    cases b with
    | false =>
      apply iter_inr
      unfold F_tollbarlaw22_FifoMerges_L3
      dsimp only
      rw [if_pos (by rw [pilt]; simp only [ofN, xlen]; omega), if_neg (by simp)]
    | true =>
      have hh := h rfl (i - 1) (by omega)
      rw [show i - 1 + 1 = i by omega] at hh
      rw [iter_inl (y := ((i + 1 : Nat) : Int))]
      · exact merges_L3 hl h m (i + 1) (by omega) (by omega)
      · unfold F_tollbarlaw22_FifoMerges_L3
        dsimp only
        have hh' : ¬ D.toI (D.fld (getD q (toN (i : Int))) 0) < D.toI (D.fld (getD q (toN ((i - 1 : Nat) : Int))) 0) := by
          show ¬ sq q i < sq q (i - 1)
          omega
        rw [if_pos (by rw [pilt]; simp only [ofN, xlen]; omega), if_pos rfl, if_pos (by simp only [ofN, xlen]; omega), isub1 h1 (by omega), if_pos (by simp only [ofN, xlen]; omega), if_neg (by rw [pilt]; exact hh'), pnext (by omega)]
theorem merges_L2 {r q : List D} (hl : r.length ≤ 200) (H : ∀ b : Bool, (b = true → ∀ j, j + 1 < r.length → sq r j < sq r (j + 1)) → iter (F_tollbarlaw22_FifoMerges_L3 q b) (1 : Int) = some true) (b0 : Bool)
    (H0 : b0 = false → ∀ b : Bool, b = false → iter (F_tollbarlaw22_FifoMerges_L3 q b) (1 : Int) = some true) :
    ∀ (m i : Nat) (b : Bool), 1 ≤ i → i + m = max r.length 1 → (b0 = false → b = false) → (b = true → ∀ j, j + 1 < i → sq r j < sq r (j + 1)) → iter (F_tollbarlaw22_FifoMerges_L2 r q) (b, (i : Int)) = some true
  | 0, i, b, h1, hi, hb0, hb => by
    apply iter_inr
    unfold F_tollbarlaw22_FifoMerges_L2
    dsimp only
    have : iter (F_tollbarlaw22_FifoMerges_L3 q b) (1 : Int) = some true := H b (fun e j hj => hb e j (by omega))
    rw [if_neg (by rw [pilt]; simp only [ofN, xlen]; omega), this]
    rfl
  | m + 1, i, b, h1, hi, hb0, hb => by
    cases b with
    | false =>
      rw [iter_inl (y := (false, ((i + 1 : Nat) : Int)))]
      · exact merges_L2 hl H b0 H0 m (i + 1) false (by omega) (by omega) (fun _ => rfl) (fun e => by cases e)
      · unfold F_tollbarlaw22_FifoMerges_L2
        dsimp only
        rw [if_pos (by rw [pilt]; simp only [ofN, xlen]; omega), if_neg (by simp), pnext (by omega)]
    | true =>
      have hb0' : b0 = true := by cases b0 with | true => rfl | false => exact absurd (hb0 rfl) (by simp)
      rw [iter_inl (y := (ilt (sq r (i - 1)) (sq r i), ((i + 1 : Nat) : Int)))]
      · refine merges_L2 hl H b0 H0 m (i + 1) _ (by omega) (by omega) (fun e => by rw [hb0'] at e; cases e) (fun e j hj => ?_)
        by_cases c : j + 1 < i
        · exact hb rfl j c
        · have : j = i - 1 := by omega
          subst this
          rw [pilt] at e
          rw [show i - 1 + 1 = i by omega]
          exact e
      · unfold F_tollbarlaw22_FifoMerges_L2
        dsimp only
        rw [if_pos (by rw [pilt]; simp only [ofN, xlen]; omega), if_pos rfl, isub1 h1 (by omega), if_pos (by simp only [ofN, xlen]; omega), if_pos (by simp only [ofN, xlen]; omega), pnext (by omega)]
        rfl
theorem merges_L1 {r r2 q : List D} (hl : r.length ≤ 200) (H : ∀ b : Bool, (b = true → ∀ j, j + 1 < r.length → sq r j < sq r (j + 1)) → iter (F_tollbarlaw22_FifoMerges_L2 r2 q) (b, (1 : Int)) = some true) :
    ∀ (m i : Nat) (b : Bool), 1 ≤ i → i + m = max r.length 1 → (b = true → ∀ j, j + 1 < i → sq r j < sq r (j + 1)) → iter (F_tollbarlaw22_FifoMerges_L1 r r2 q) (b, (i : Int)) = some true
  | 0, i, b, h1, hi, hb => by
    apply iter_inr
    unfold F_tollbarlaw22_FifoMerges_L1
    dsimp only
    rw [if_neg (by rw [pilt]; simp only [ofN, xlen]; omega), H b (fun e j hj => hb e j (by omega))]
    rfl
  | m + 1, i, b, h1, hi, hb => by
    cases b with
    | false =>
      rw [iter_inl (y := (false, ((i + 1 : Nat) : Int)))]
      · exact merges_L1 hl H m (i + 1) false (by omega) (by omega) (fun e => by cases e)
      · unfold F_tollbarlaw22_FifoMerges_L1
        dsimp only
        rw [if_pos (by rw [pilt]; simp only [ofN, xlen]; omega), if_neg (by simp), pnext (by omega)]
    | true =>
      rw [iter_inl (y := (ilt (sq r (i - 1)) (sq r i), ((i + 1 : Nat) : Int)))]
      · refine merges_L1 hl H m (i + 1) _ (by omega) (by omega) (fun e j hj => ?_)
        by_cases c : j + 1 < i
        · exact hb rfl j c
        · have : j = i - 1 := by omega
          subst this
          rw [pilt] at e
          rw [show i - 1 + 1 = i by omega]
          exact e
      · unfold F_tollbarlaw22_FifoMerges_L1
        dsimp only
        rw [if_pos (by rw [pilt]; simp only [ofN, xlen]; omega), if_pos rfl, isub1 h1 (by omega), if_pos (by simp only [ofN, xlen]; omega), if_pos (by simp only [ofN, xlen]; omega), pnext (by omega)]
        rfl
theorem merges_law (r1 r2 : List D) : F_tollbarlaw22_FifoMerges r1 r2 = some true := by
  unfold F_tollbarlaw22_FifoMerges
  rw [p_awake]
  dsimp only
  rw [if_pos rfl]
  by_cases c1 : 200 < r1.length
  · rw [if_pos (by rw [pilt]; simp only [ofN, xlen]; omega)]
  by_cases c2 : 200 < r2.length
  · rw [if_neg (by rw [pilt]; simp only [ofN, xlen]; omega), if_pos (by rw [pilt]; simp only [ofN, xlen]; omega)]
  obtain ⟨q1, e1, h1⟩ := p_merge (a := r1) (b := r2) (by omega)
  obtain ⟨q2, e2, h2⟩ := p_rmerge (a := r1) (b := r2) (by omega)
  have hml := mrg_len _ (r1.map pk) (r2.map pk) (Nat.le_refl _)
  have hq1 : q1.length = r1.length + r2.length := by
    have := congrArg List.length h1
    rw [hml] at this
    simpa using this
  have e3 := p_same (q := q1) (s := q2) (by omega) (by rw [h1, h2])
  have e4 : iadd .i64 (ofN (xlen r1)) (ofN (xlen r2)) = ((r1.length + r2.length : Nat) : Int) := by simp only [iadd, ofN, xlen]; rw [pwi64 (by omega) (by omega)]; omega
  rw [if_neg (by rw [pilt]; simp only [ofN, xlen]; omega), if_neg (by rw [pilt]; simp only [ofN, xlen]; omega), e1]
  dsimp only
  rw [e2]
  dsimp only
  rw [e3]
  dsimp only
  rw [if_pos rfl, e4, if_pos (by rw [pieq]; simp only [ofN, xlen]; omega)]
  have srt : (∀ j, j + 1 < r1.length → sq r1 j < sq r1 (j + 1)) → (∀ j, j + 1 < r2.length → sq r2 j < sq r2 (j + 1)) → ∀ j, j + 1 < q1.length → sq q1 j ≤ sq q1 (j + 1) := by
    intro a1 a2 j hj
    obtain ⟨lo, l1, l2⟩ : ∃ lo : Int, (∀ d t, r1 = d :: t → lo ≤ (pk d).1) ∧ (∀ d t, r2 = d :: t → lo ≤ (pk d).1) := by
      refine ⟨min (sq r1 0) (sq r2 0), fun d t e => ?_, fun d t e => ?_⟩
      · subst e
        have : sq (d :: t) 0 = (pk d).1 := rfl
        omega
      · subst e
        have : sq (d :: t) 0 = (pk d).1 := rfl
        omega
    have s := srt_mrg _ lo _ _ (Nat.le_refl _) (srt_of r1 a1 lo l1) (srt_of r2 a2 lo l2)
    rw [← h1] at s
    have := srt_adj _ _ s j (by simpa using hj)
    rw [sq_map (by omega), sq_map hj]
    exact this
  refine merges_L1 (r := r1) (by omega) (fun b hb => ?_) (max r1.length 1 - 1) 1 true (by omega) (by omega) (fun _ j hj => by omega)
  cases b with
  | false =>
    have key : ∀ (m i : Nat), 1 ≤ i → i + m = max r2.length 1 → iter (F_tollbarlaw22_FifoMerges_L2 r2 q1) (false, (i : Int)) = some true := by
      intro m
      induction m with
      | zero =>
        intro i h1 hi
        apply iter_inr
        unfold F_tollbarlaw22_FifoMerges_L2
        dsimp only
        have := merges_L3 (q := q1) (b := false) (by omega) (fun e => by cases e) (max q1.length 1 - 1) 1 (by omega) (by omega)
        rw [if_neg (by rw [pilt]; simp only [ofN, xlen]; omega), show (1 : Int) = ((1 : Nat) : Int) from rfl, this]
        rfl
      | succ m ih =>
        intro i h1 hi
        rw [iter_inl (y := (false, ((i + 1 : Nat) : Int)))]
        · exact ih (i + 1) (by omega) (by omega)
        · unfold F_tollbarlaw22_FifoMerges_L2
          dsimp only
          rw [if_pos (by rw [pilt]; simp only [ofN, xlen]; omega), if_neg (by simp), pnext (by omega)]
    exact key (max r2.length 1 - 1) 1 (by omega) (by omega)
  | true =>
    refine merges_L2 (r := r2) (by omega) (fun b2 hb2 => ?_) true (fun e => by cases e) (max r2.length 1 - 1) 1 true (by omega) (by omega) (fun e => by cases e) (fun _ j hj => by omega)
    exact merges_L3 (q := q1) (b := b2) (by omega) (fun e => srt (hb rfl) (hb2 e)) (max q1.length 1 - 1) 1 (by omega) (by omega)
theorem p_FifoMerges (r1 r2 : List D) (h1 : (Ty.row 28 (.st [.int .u64, .int .i64, .int .i64])).rng (.l r1)) (h2 : (Ty.row 28 (.st [.int .u64, .int .i64, .int .i64])).rng (.l r2)) : F_tollbarlaw22_FifoMerges r1 r2 = some true := merges_law r1 r2
end Go.Proofs.Ytdagccoamfhdcaa
end
section
/-
  FifoOrder, FifoOwn, FifoDoes, in plain words.
-/
set_option linter.unusedVariables false
set_option linter.unusedSimpArgs false
namespace Go.Proofs.Ytdagccoamfhdcaa

/-- A row that rises, from above a number on, up to another one. -/
def RisL : Int → Int → List Pk → Prop
  | lo, hi, [] => lo ≤ hi
  | lo, hi, x :: t => lo < x.1 ∧ RisL x.1 hi t
theorem RisL.le : ∀ {l : List Pk} {lo hi : Int}, RisL lo hi l → lo ≤ hi
  | [], lo, hi, h => h
  | x :: t, lo, hi, h => by have := RisL.le h.2; have := h.1; omega
theorem RisL.wide : ∀ {l : List Pk} {lo hi hi' : Int}, RisL lo hi l → hi ≤ hi' → RisL lo hi' l
  | [], lo, hi, hi', h, k => by have h1 : lo ≤ hi := h; show lo ≤ hi'; omega
  | x :: t, lo, hi, hi', h, k => ⟨h.1, RisL.wide h.2 k⟩
theorem RisL.snoc : ∀ {l : List Pk} {lo hi : Int} {p : Pk}, RisL lo hi l → hi < p.1 → RisL lo p.1 (l ++ [p])
  | [], lo, hi, p, h, k => by have h1 : lo ≤ hi := h; exact ⟨by omega, Int.le_refl _⟩
  | x :: t, lo, hi, p, h, k => ⟨h.1, RisL.snoc h.2 k⟩
theorem fu8 {x : Int} (h : 0 ≤ x ∧ x < 256) : iconv .i64 x = x := by simp only [iconv]; rw [pwi64 (by omega) (by omega)]
theorem b2t {a b : Bool} (h : a = b) : beq2 a b = true := by rw [pbeq2]; exact h
theorem ilt_c {a b : Int} (h : a < b) : ilt a b = true := by rw [pilt]; exact h
theorem ilt_n {a b : Int} (h : b ≤ a) : ilt a b = false := by simp [ilt, h]

theorem order_loop {r : List D} {x : Int} (hx : 0 ≤ x ∧ x < 256) (hl : r.length ≤ 300) : ∀ (m i nx : Nat) (last : Int) (f n : Nat) (ring : List D) (l : List Pk), i + m = r.length → nx ≤ i → n ≤ i → 0 ≤ last → QR f n ring l → RisL last (nx : Int) l →
    iter (F_tollbarlaw22_FifoOrder_L1 r x) ((nx : Int), last, (n : Int), (i : Int), (f : Int), (n : Int), ring) = some true
  | 0, i, nx, last, f, n, ring, l, hi, h1, h2, h3, hq, hr => by
    apply iter_inr
    unfold F_tollbarlaw22_FifoOrder_L1
    dsimp only
    rw [if_neg (by rw [pilt]; simp only [ofN, xlen]; omega)]
  | m + 1, i, nx, last, f, n, ring, l, hi, h1, h2, h3, hq, hr => by
    have en : iadd .u64 (nx : Int) 1 = ((nx + 1 : Nat) : Int) := by simp only [iadd]; rw [pu64 (by omega) (by omega)]; omega
    have ei : iadd .i64 (i : Int) 1 = ((i + 1 : Nat) : Int) := pnext (by omega)
    have enn : iadd .i64 (n : Int) 1 = ((n + 1 : Nat) : Int) := pnext (by omega)
    have g1 : ilt (i : Int) (ofN (xlen r)) = true := by rw [pilt]; simp only [ofN, xlen]; omega
    have g2 : 0 ≤ (i : Int) ∧ (i : Int) < ofN (xlen r) := by simp only [ofN, xlen]; omega
    by_cases c : D.toB (getD r (toN (i : Int))) = true
    · rcases p_push2 (a := ((nx + 1 : Nat) : Int)) (b := 0) (c := 0) (lim := x) hq (by omega) with ⟨k1, k2⟩ | ⟨k1, f', r', k2, k3⟩
      · rw [iter_inl (y := (((nx + 1 : Nat) : Int), last, (n : Int), ((i + 1 : Nat) : Int), (f : Int), (n : Int), ring))]
        · exact order_loop hx hl m (i + 1) (nx + 1) last f n ring l (by omega) (by omega) (by omega) h3 hq (hr.wide (by omega))
        · unfold F_tollbarlaw22_FifoOrder_L1 F_fifo_Queue_Len
          dsimp only
          rw [if_pos g1, if_pos g2, if_pos c, en, fu8 hx, k2]
          dsimp only
          rw [if_pos (b2t (ilt_n k1).symm), if_neg (by simp), if_pos (by rw [pieq]), ei]
      · rw [iter_inl (y := (((nx + 1 : Nat) : Int), last, ((n + 1 : Nat) : Int), ((i + 1 : Nat) : Int), (f' : Int), ((n + 1 : Nat) : Int), r'))]
        · refine order_loop hx hl m (i + 1) (nx + 1) last f' (n + 1) r' _ (by omega) (by omega) (by omega) h3 k3 ?_
          exact RisL.snoc (p := (((nx + 1 : Nat) : Int), 0, 0)) hr (by show (nx : Int) < ((nx + 1 : Nat) : Int); omega)
        · unfold F_tollbarlaw22_FifoOrder_L1 F_fifo_Queue_Len
          dsimp only
          rw [if_pos g1, if_pos g2, if_pos c, en, fu8 hx, k2]
          dsimp only
          rw [if_pos (b2t (ilt_c k1).symm), if_pos rfl, if_pos (by rw [pieq, enn]), enn, ei]
    · rcases p_pop (lim := x) hq (by omega) with ⟨rfl, k2⟩ | ⟨p, l', f', rfl, k2, k3⟩
      · have hn0 : n = 0 := by have := hq.hn; simpa using this.symm
        subst hn0
        rw [iter_inl (y := ((nx : Int), last, ((0 : Nat) : Int), ((i + 1 : Nat) : Int), (f : Int), ((0 : Nat) : Int), ring))]
        · exact order_loop hx hl m (i + 1) nx last f 0 ring [] (by omega) (by omega) (by omega) h3 hq hr
        · unfold F_tollbarlaw22_FifoOrder_L1 F_fifo_Queue_Len
          dsimp only
          rw [if_pos g1, if_pos g2, if_neg c, fu8 hx, k2]
          dsimp only
          rw [if_pos (b2t (ilt_n (by omega)).symm), if_neg (by simp), if_neg (by simp), if_pos (by rw [pieq]), ei]
      · have hnp : 0 < n := by have := hq.hn; simp only [List.length_cons] at this; omega
        have e1 : isub .i64 (n : Int) 1 = ((n - 1 : Nat) : Int) := isub1 (by omega) (by omega)
        rw [iter_inl (y := ((nx : Int), p.1, ((n - 1 : Nat) : Int), ((i + 1 : Nat) : Int), (f' : Int), ((n - 1 : Nat) : Int), ring))]
        · exact order_loop hx hl m (i + 1) nx p.1 f' (n - 1) ring l' (by omega) (by omega) (by omega) (by have := hr.1; omega) k3 hr.2
        · unfold F_tollbarlaw22_FifoOrder_L1 F_fifo_Queue_Len
          dsimp only
          rw [if_pos g1, if_pos g2, if_neg c, fu8 hx, k2]
          dsimp only
          have hlt := hr.1
          rw [if_pos (b2t (ilt_c (by omega)).symm), if_pos rfl, if_neg (by rw [pile]; omega), if_pos rfl, if_pos (by rw [pieq, e1]), e1, ei]
theorem order_law {x : Int} {r : List D} (hx : 0 ≤ x ∧ x < 256) : F_tollbarlaw22_FifoOrder x r = some true := by
  unfold F_tollbarlaw22_FifoOrder F_fifo_New
  rw [p_awake]
  dsimp only
  rw [if_pos rfl]
  by_cases c1 : 300 < r.length
  · rw [if_pos (by rw [pilt]; simp only [ofN, xlen]; omega)]
  rw [if_neg (by rw [pilt]; simp only [ofN, xlen]; omega)]
  exact order_loop hx (by omega) r.length 0 0 0 0 0 [] [] (by omega) (by omega) (by omega) (by omega) QR.nil (Int.le_refl _)

theorem own_L3 {x : Int} {r q : List D} (hx : 0 ≤ x ∧ x < 256) (hl : r.length ≤ 200) {k : Nat} (hk : irem (iconv .i64 x) (iadd .i64 (ofN (xlen r)) 1) = (k : Int)) (hkl : k ≤ r.length) :
    ∀ (m i f : Nat) (l : List Pk), i + m = k → QR f (r.length - i) q l → iter (F_tollbarlaw22_FifoOwn_L3 x r q) ((i : Int), (f : Int), ((r.length - i : Nat) : Int)) = some true
  | 0, i, f, l, hi, hq => by
    have hik : i = k := by omega
    subst hik
    have e1 : isub .i64 (ofN (xlen r)) (i : Int) = ((r.length - i : Nat) : Int) := by simp only [isub, ofN, xlen]; rw [pwi64 (by omega) (by omega)]; omega
    apply iter_inr
    unfold F_tollbarlaw22_FifoOwn_L3 F_fifo_Queue_Len
    dsimp only
    rw [hk, if_neg (by rw [pilt]; omega), e1]
    rcases p_push2 (a := 7) (b := 0) (c := 0) (lim := 3) hq (by omega) with ⟨k1, k2⟩ | ⟨k1, f', r', k2, k3⟩
    · rw [k2]
      dsimp only
      rw [if_neg (by simp), if_pos (b2t (ilt_n k1).symm), show ieq ((r.length - i : Nat) : Int) ((r.length - i : Nat) : Int) = true by rw [pieq]]
    · rw [k2]
      dsimp only
      rw [if_pos rfl, if_pos (b2t (ilt_c k1).symm), pnext (by omega), show ieq ((r.length - i + 1 : Nat) : Int) ((r.length - i + 1 : Nat) : Int) = true by rw [pieq]]
  | m + 1, i, f, l, hi, hq => by
    rcases p_pop (lim := 3) hq (by omega) with ⟨rfl, k2⟩ | ⟨p, l', f', rfl, k2, k3⟩
    · have := hq.hn
      simp at this
      omega
    · rw [show r.length - i - 1 = r.length - (i + 1) by omega] at k2 k3
      rw [iter_inl (y := (((i + 1 : Nat) : Int), (f' : Int), ((r.length - (i + 1) : Nat) : Int)))]
      · exact own_L3 hx hl hk hkl m (i + 1) f' l' (by omega) k3
      · unfold F_tollbarlaw22_FifoOwn_L3
        dsimp only
        rw [hk, if_pos (by rw [pilt]; omega), k2]
        dsimp only
        rw [pnext (by omega)]
theorem own_L2 {x : Int} {r q : List D} (hx : 0 ≤ x ∧ x < 256) (hl : r.length ≤ 200) {f : Nat} (hq : QR f r.length q (r.map pk)) : ∀ (m i : Nat) (s : List D), i + m = s.length → s.length ≤ 1000 →
    iter (F_tollbarlaw22_FifoOwn_L2 r (f : Int) (r.length : Int) q x) ((i : Int), s) = some true
  | 0, i, s, hi, hs => by
    apply iter_inr
    unfold F_tollbarlaw22_FifoOwn_L2 F_fifo_Queue_Len
    dsimp only
    have e1 : iadd .i64 (ofN (xlen r)) 1 = ((r.length + 1 : Nat) : Int) := pnext (n := r.length) (by omega)
    obtain ⟨k, hk, hkl⟩ : ∃ k : Nat, irem (iconv .i64 x) (iadd .i64 (ofN (xlen r)) 1) = (k : Int) ∧ k ≤ r.length := by
      rw [e1, fu8 hx]
      have h2 := Int.emod_lt_of_pos x (show (0 : Int) < ((r.length + 1 : Nat) : Int) by omega)
      have h3 := Int.emod_nonneg x (show ((r.length + 1 : Nat) : Int) ≠ 0 by omega)
      refine ⟨(x % ((r.length + 1 : Nat) : Int)).toNat, ?_, by omega⟩
      rw [Int.toNat_of_nonneg h3]
      exact Int.tmod_eq_emod_of_nonneg hx.1
    obtain ⟨q3, h1, h2⟩ := p_all (lim := 3) hq (by omega)
    have hq3 : q3.length = r.length := by have := congrArg List.length h2; simpa using this
    have h4 := own_L3 hx hl hk hkl k 0 f (r.map pk) (by omega) hq
    rw [show ((0 : Nat) : Int) = 0 from rfl, Nat.sub_zero] at h4
    rw [if_neg (by rw [pilt]; simp only [ofN, xlen]; omega), if_pos (by rw [e1]; omega), h1]
    dsimp only
    rw [p_same (by omega) h2]
    dsimp only
    rw [if_pos rfl, if_pos (by rw [pieq]; rfl), h4]
    rfl
  | m + 1, i, s, hi, hs => by
    rw [iter_inl (y := (((i + 1 : Nat) : Int), setD s (toN (i : Int)) (D.l [D.i (D.toI (D.fld (getD s (toN (i : Int))) 0)), D.i (D.toI (D.fld (getD s (toN (i : Int))) 1)), D.i 77])))]
    · exact own_L2 hx hl hq m (i + 1) _ (by simp [setD]; omega) (by simp [setD]; omega)
    · unfold F_tollbarlaw22_FifoOwn_L2
      dsimp only
      rw [if_pos (by rw [pilt]; simp only [ofN, xlen]; omega), if_pos (by simp only [ofN, xlen]; omega), pnext (by omega)]
theorem own_L1 {x : Int} {r q : List D} (hx : 0 ≤ x ∧ x < 256) (hl : r.length ≤ 200) {f : Nat} (hq : QR f r.length q (r.map pk)) : ∀ (m i : Nat) (s : List D), i + m = s.length → s.length ≤ 1000 →
    iter (F_tollbarlaw22_FifoOwn_L1 (f : Int) (r.length : Int) q r x) ((i : Int), s) = some true
  | 0, i, s, hi, hs => by
    apply iter_inr
    unfold F_tollbarlaw22_FifoOwn_L1
    dsimp only
    obtain ⟨q2, h1, h2⟩ := p_all (lim := 3) hq (by omega)
    have hq2 : q2.length = r.length := by have := congrArg List.length h2; simpa using this
    have h3 := own_L2 hx hl hq q2.length 0 q2 (by omega) (by omega)
    rw [show ((0 : Nat) : Int) = 0 from rfl] at h3
    rw [if_neg (by rw [pilt]; simp only [ofN, xlen]; omega), h1]
    dsimp only
    rw [h3]
    rfl
  | m + 1, i, s, hi, hs => by
    rw [iter_inl (y := (((i + 1 : Nat) : Int), setD s (toN (i : Int)) (D.l [D.i 99, D.i (D.toI (D.fld (getD s (toN (i : Int))) 1)), D.i (D.toI (D.fld (getD s (toN (i : Int))) 2))])))]
    · exact own_L1 hx hl hq m (i + 1) _ (by simp [setD]; omega) (by simp [setD]; omega)
    · unfold F_tollbarlaw22_FifoOwn_L1
      dsimp only
      rw [if_pos (by rw [pilt]; simp only [ofN, xlen]; omega), if_pos (by simp only [ofN, xlen]; omega), pnext (by omega)]
theorem own_law {r : List D} {x : Int} (hx : 0 ≤ x ∧ x < 256) : F_tollbarlaw22_FifoOwn r x = some true := by
  unfold F_tollbarlaw22_FifoOwn F_fifo_New
  rw [p_awake]
  dsimp only
  rw [if_pos rfl]
  by_cases c1 : 200 < r.length
  · rw [if_pos (by rw [pilt]; simp only [ofN, xlen]; omega)]
  obtain ⟨f, q, h1, h2⟩ := p_load (x := 3) (y := 0) (z := 0) (s := r) (by omega)
  rw [if_neg (by rw [pilt]; simp only [ofN, xlen]; omega), if_pos (by simp only [xlen]; omega), h1]
  exact own_L1 hx (by omega) h2 r.length 0 r (by omega) (by omega)

theorem band3 {a b c a' b' c' : Int} (h1 : a = a') (h2 : b = b') (h3 : c = c') : (band (ieq a a') (band (ieq b b') (band (ieq c c') true))) = true := by subst h1; subst h2; subst h3; simp [band, ieq]
theorem p_small_loop {r : List D} (hl : r.length ≤ 9223372036854775807) : ∀ (m i : Nat), i + m = r.length → (iter (F_tollbarlaw22_small_L1 r) (i : Int) = some false) ∨
    (iter (F_tollbarlaw22_small_L1 r) (i : Int) = some (decide (r.length ≤ 200)) ∧ ∀ j, i ≤ j → j < r.length → (D.toL (D.fld (r.getD j (.i 0)) 3)).length ≤ 100)
  | 0, i, hi => by
    refine .inr ⟨?_, fun j h1 h2 => by omega⟩
    apply iter_inr
    unfold F_tollbarlaw22_small_L1
    dsimp only
    rw [if_neg (by rw [pilt]; simp only [ofN, xlen]; omega)]
    simp only [ile, ofN, xlen]
    congr 3
    apply propext
    omega
  | m + 1, i, hi => by
    by_cases c : 100 < (D.toL (D.fld (r.getD i (.i 0)) 3)).length
    · refine .inl ?_
      apply iter_inr
      unfold F_tollbarlaw22_small_L1
      dsimp only
      have c' : 100 < (D.toL (D.fld (getD r (toN (i : Int))) 3)).length := c
      rw [if_pos (by rw [pilt]; simp only [ofN, xlen]; omega), if_pos (by simp only [ofN, xlen]; omega), if_pos (by rw [pilt]; simp only [ofN, xlen]; omega)]
    · have st : iter (F_tollbarlaw22_small_L1 r) (i : Int) = iter (F_tollbarlaw22_small_L1 r) ((i + 1 : Nat) : Int) := by
        apply iter_inl
        unfold F_tollbarlaw22_small_L1
        dsimp only
        have c' : ¬ 100 < (D.toL (D.fld (getD r (toN (i : Int))) 3)).length := c
        rw [if_pos (by rw [pilt]; simp only [ofN, xlen]; omega), if_pos (by simp only [ofN, xlen]; omega), if_neg (by rw [pilt]; simp only [ofN, xlen]; omega), pnext (by omega)]
      rcases p_small_loop hl m (i + 1) (by omega) with h | ⟨h1, h2⟩
      · exact .inl (st.trans h)
      · refine .inr ⟨st.trans h1, fun j k1 k2 => ?_⟩
        by_cases e : j = i
        · subst e; omega
        · exact h2 j (by omega) k2

theorem does_end : F_fifo_Queue_All_3 = some () := by
  unfold F_fifo_Queue_All_3 F_fifo_Queue_Len_3
  dsimp only
  apply iter_inr
  unfold F_fifo_Queue_All_3_L1
  rw [if_neg (by decide)]
theorem does_loop {r : List D} (hl : r.length ≤ 200) (hs : ∀ j, j < r.length → (D.toL (D.fld (r.getD j (.i 0)) 3)).length ≤ 100) : ∀ (m i : Nat) (lim : Int) (f : Nat) (w ring : List D), i + m = r.length → w.length ≤ 100 + i → QR f w.length ring (w.map pk) →
    iter (F_tollbarlaw22_FifoDoes_L1 r) ((i : Int), lim, (f : Int), (w.length : Int), w, lim, ring) = some true
  | 0, i, lim, f, w, ring, hi, hw, hq => by
    have e1 : F_fifo_Queue_Tune_3 5 = some () := rfl
    have e2 : F_fifo_Queue_Load_3 [] = some () := rfl
    have e3 : F_fifo_Queue_Pop_3 = some () := by
      unfold F_fifo_Queue_Pop_3 F_fifo_Queue_Head_3 F_fifo_Queue_Len_3
      dsimp only
      rw [if_pos (by decide)]
    have e4 : F_fifo_Queue_Head_3 = some () := by
      unfold F_fifo_Queue_Head_3 F_fifo_Queue_Len_3
      dsimp only
      rw [if_pos (by decide)]
    have e5 : F_fifo_Queue_Push_3 0 0 0 = some () := rfl
    have e6 : F_fifo_Queue_Len_3 = some () := rfl
    have e7 : F_fifo_Queue_Limit_3 = some () := rfl
    apply iter_inr
    unfold F_tollbarlaw22_FifoDoes_L1
    dsimp only
    rw [if_neg (by rw [pilt]; simp only [ofN, xlen]; omega), e1]
    dsimp only
    rw [e2]
    dsimp only
    rw [e3]
    dsimp only
    rw [e4]
    dsimp only
    rw [e5]
    dsimp only
    rw [e6]
    dsimp only
    rw [e7]
    dsimp only
    rw [does_end]
    rfl
  | m + 1, i, lim, f, w, ring, hi, hw, hq => by
    have ei : iadd .i64 (i : Int) 1 = ((i + 1 : Nat) : Int) := pnext (by omega)
    have g1 : ilt (i : Int) (ofN (xlen r)) = true := by rw [pilt]; simp only [ofN, xlen]; omega
    have g2 : 0 ≤ (i : Int) ∧ (i : Int) < ofN (xlen r) := by simp only [ofN, xlen]; omega
    have eL : ∀ w : List D, ofN (xlen w) = (w.length : Int) := fun w => rfl
    obtain ⟨d, hd⟩ : ∃ d, getD r (toN (i : Int)) = d := ⟨_, rfl⟩
    have hsd : (D.toL (D.fld d 3)).length ≤ 100 := by rw [← hd]; exact hs i (by omega)
    by_cases k0 : D.toI (D.fld d 0) = 0
    · -- one comes
      rcases p_push2 (a := D.toI (D.fld (D.fld d 2) 0)) (b := D.toI (D.fld (D.fld d 2) 1)) (c := D.toI (D.fld (D.fld d 2) 2)) (lim := lim) hq (by omega) with ⟨k1, k2⟩ | ⟨k1, f', r', k2, k3⟩
      · have hr : F_tollbarref22_Push_4 w lim (D.toI (D.fld (D.fld d 2) 0)) (D.toI (D.fld (D.fld d 2) 1)) (D.toI (D.fld (D.fld d 2) 2)) = some (w, false) := by
          unfold F_tollbarref22_Push_4
          rw [if_pos (by rw [pile]; simp only [ofN, xlen]; omega)]
        obtain ⟨q, h1, h2⟩ := p_all (lim := lim) hq (by omega)
        have hql : q.length = w.length := by have := congrArg List.length h2; simpa using this
        rw [iter_inl (y := (((i + 1 : Nat) : Int), lim, (f : Int), (w.length : Int), w, lim, ring))]
        · exact does_loop hl hs m (i + 1) lim f w ring (by omega) (by omega) hq
        · unfold F_tollbarlaw22_FifoDoes_L1 F_fifo_Queue_Len F_fifo_Queue_Limit
          dsimp only
          rw [if_pos g1, if_pos g2, hd, if_pos (by rw [pieq]; exact k0), hr]
          dsimp only
          rw [k2]
          dsimp only
          rw [if_pos (b2t rfl), if_pos (by rw [pieq]; rfl), if_pos (by rw [pieq]), h1]
          dsimp only
          rw [p_same (by omega) h2]
          dsimp only
          rw [if_pos rfl, ei]
      · have hr : F_tollbarref22_Push_4 w lim (D.toI (D.fld (D.fld d 2) 0)) (D.toI (D.fld (D.fld d 2) 1)) (D.toI (D.fld (D.fld d 2) 2)) = some (w ++ [D.l [D.i (D.toI (D.fld (D.fld d 2) 0)), D.i (D.toI (D.fld (D.fld d 2) 1)), D.i (D.toI (D.fld (D.fld d 2) 2))]], true) := by
          unfold F_tollbarref22_Push_4
          rw [if_neg (by rw [pile]; simp only [ofN, xlen]; omega), if_pos (by simp only [xlen]; omega), if_pos (by simp only [xlen, List.length_cons, List.length_nil]; omega)]
          rfl
        generalize hw' : w ++ [D.l [D.i (D.toI (D.fld (D.fld d 2) 0)), D.i (D.toI (D.fld (D.fld d 2) 1)), D.i (D.toI (D.fld (D.fld d 2) 2))]] = w' at hr
        have hwl : w'.length = w.length + 1 := by rw [← hw']; simp
        have hq' : QR f' w'.length r' (w'.map pk) := by rw [hwl, ← hw', List.map_append]; exact k3
        rw [show ((w.length + 1 : Nat) : Int) = (w'.length : Int) by omega] at k2
        obtain ⟨q, h1, h2⟩ := p_all (lim := lim) hq' (by omega)
        have hql : q.length = w'.length := by have := congrArg List.length h2; simpa using this
        rw [iter_inl (y := (((i + 1 : Nat) : Int), lim, (f' : Int), (w'.length : Int), w', lim, r'))]
        · exact does_loop hl hs m (i + 1) lim f' w' r' (by omega) (by omega) hq'
        · unfold F_tollbarlaw22_FifoDoes_L1 F_fifo_Queue_Len F_fifo_Queue_Limit
          dsimp only
          rw [if_pos g1, if_pos g2, hd, if_pos (by rw [pieq]; exact k0), hr]
          dsimp only
          rw [k2]
          dsimp only
          rw [if_pos (b2t rfl), if_pos (by rw [pieq]; rfl), if_pos (by rw [pieq]), h1]
          dsimp only
          rw [p_same (by omega) h2]
          dsimp only
          rw [if_pos rfl, ei]
    by_cases k1 : D.toI (D.fld d 0) = 1
    · -- one goes
      have hhead := p_head (lim := lim) hq
      rcases p_pop (lim := lim) hq (by omega) with ⟨e0, k2⟩ | ⟨p, l', f', e0, k2, k3⟩
      · have hw0 : w = [] := by cases w with | nil => rfl | cons a b => simp at e0
        subst hw0
        have hr : F_tollbarref22_Pop_4 [] lim = some ([], 0, 0, 0, false) := by
          unfold F_tollbarref22_Pop_4
          rw [if_pos (by decide)]
        have hh : F_fifo_Queue_Head lim (f : Int) (([] : List D).length : Int) ring = some (0, 0, 0, false) := hhead
        obtain ⟨q, h1, h2⟩ := p_all (lim := lim) hq (by omega)
        have hql : q.length = 0 := by have := congrArg List.length h2; simpa using this
        rw [iter_inl (y := (((i + 1 : Nat) : Int), lim, (f : Int), (([] : List D).length : Int), [], lim, ring))]
        · exact does_loop hl hs m (i + 1) lim f [] ring (by omega) (by simp) hq
        · unfold F_tollbarlaw22_FifoDoes_L1 F_fifo_Queue_Len F_fifo_Queue_Limit
          dsimp only
          rw [if_pos g1, if_pos g2, hd, if_neg (by rw [pieq]; exact k0), if_pos (by rw [pieq]; exact k1), hr]
          dsimp only
          rw [hh]
          dsimp only
          rw [k2]
          dsimp only
          rw [if_pos (band3 rfl rfl rfl), if_pos (b2t rfl), if_pos (band3 rfl rfl rfl), if_pos (b2t rfl), if_pos (by rw [pieq]; rfl), if_pos (by rw [pieq]), h1]
          dsimp only
          rw [p_same (by omega) h2]
          dsimp only
          rw [if_pos rfl, ei]
      · cases w with
        | nil => simp at e0
        | cons a w =>
          simp only [List.map_cons, List.cons.injEq] at e0
          obtain ⟨ep, el⟩ := e0
          subst el
          have hr : F_tollbarref22_Pop_4 (a :: w) lim = some (w, p.1, p.2.1, p.2.2, true) := by
            unfold F_tollbarref22_Pop_4
            rw [lenc, if_neg (by rw [pieq]; omega), if_pos (by omega), if_pos (by omega), tail1, getD0, ← ep]
            rfl
          have hh : F_fifo_Queue_Head lim (f : Int) ((a :: w).length : Int) ring = some (p.1, p.2.1, p.2.2, true) := by rw [hhead, ← ep]; rfl
          have e9 : (a :: w).length - 1 = w.length := by simp
          rw [e9] at k2 k3
          obtain ⟨q, h1, h2⟩ := p_all (lim := lim) k3 (by simp only [List.length_cons] at hw; omega)
          have hql : q.length = w.length := by have := congrArg List.length h2; simpa using this
          simp only [List.length_cons] at hw
          rw [iter_inl (y := (((i + 1 : Nat) : Int), lim, (f' : Int), (w.length : Int), w, lim, ring))]
          · exact does_loop hl hs m (i + 1) lim f' w ring (by omega) (by omega) k3
          · unfold F_tollbarlaw22_FifoDoes_L1 F_fifo_Queue_Len F_fifo_Queue_Limit
            dsimp only
            rw [if_pos g1, if_pos g2, hd, if_neg (by rw [pieq]; exact k0), if_pos (by rw [pieq]; exact k1), hr]
            dsimp only
            rw [hh]
            dsimp only
            rw [k2]
            dsimp only
            rw [if_pos (band3 rfl rfl rfl), if_pos (b2t rfl), if_pos (band3 rfl rfl rfl), if_pos (b2t rfl), if_pos (by rw [pieq]; rfl), if_pos (by rw [pieq]), h1]
            dsimp only
            rw [p_same (by omega) h2]
            dsimp only
            rw [if_pos rfl, ei]
    obtain ⟨q, h1, h2⟩ := p_all (lim := lim) hq (by omega)
    have hql : q.length = w.length := by have := congrArg List.length h2; simpa using this
    by_cases k2 : D.toI (D.fld d 0) = 2
    · -- another limit
      obtain ⟨q, h1, h2⟩ := p_all (lim := D.toI (D.fld d 1)) hq (by omega)
      have hql : q.length = w.length := by have := congrArg List.length h2; simpa using this
      rw [iter_inl (y := (((i + 1 : Nat) : Int), D.toI (D.fld d 1), (f : Int), (w.length : Int), w, D.toI (D.fld d 1), ring))]
      · exact does_loop hl hs m (i + 1) _ f w ring (by omega) (by omega) hq
      · unfold F_tollbarlaw22_FifoDoes_L1 F_fifo_Queue_Len F_fifo_Queue_Limit F_fifo_Queue_Tune_2
        dsimp only
        rw [if_pos g1, if_pos g2, hd, if_neg (by rw [pieq]; exact k0), if_neg (by rw [pieq]; exact k1), if_pos (by rw [pieq]; exact k2), if_pos (by rw [pieq]; rfl), if_pos (by rw [pieq]), h1]
        dsimp only
        rw [p_same (by omega) h2]
        dsimp only
        rw [if_pos rfl, ei]
    by_cases k3 : D.toI (D.fld d 0) = 3
    · -- just these
      obtain ⟨f', r', h3, h4⟩ := p_load2 (x := lim) (y := (f : Int)) (z := (w.length : Int)) (s := D.toL (D.fld d 3)) (r := ring) (by omega) hq.big
      obtain ⟨q, h1, h2⟩ := p_all (lim := lim) h4 (by omega)
      have hql : q.length = (D.toL (D.fld d 3)).length := by have := congrArg List.length h2; simpa using this
      rw [iter_inl (y := (((i + 1 : Nat) : Int), lim, (f' : Int), ((D.toL (D.fld d 3)).length : Int), D.toL (D.fld d 3), lim, r'))]
      · exact does_loop hl hs m (i + 1) lim f' (D.toL (D.fld d 3)) r' (by omega) (by omega) h4
      · unfold F_tollbarlaw22_FifoDoes_L1 F_fifo_Queue_Len F_fifo_Queue_Limit
        dsimp only
        rw [if_pos g1, if_pos g2, hd, if_neg (by rw [pieq]; exact k0), if_neg (by rw [pieq]; exact k1), if_neg (by rw [pieq]; exact k2), if_pos (by rw [pieq]; exact k3), h3]
        dsimp only
        rw [if_pos (by rw [pieq]; rfl), if_pos (by rw [pieq]), h1]
        dsimp only
        rw [p_same (by omega) h2]
        dsimp only
        rw [if_pos rfl, ei]
    · -- nothing
      rw [iter_inl (y := (((i + 1 : Nat) : Int), lim, (f : Int), (w.length : Int), w, lim, ring))]
      · exact does_loop hl hs m (i + 1) lim f w ring (by omega) (by omega) hq
      · unfold F_tollbarlaw22_FifoDoes_L1 F_fifo_Queue_Len F_fifo_Queue_Limit
        dsimp only
        rw [if_pos g1, if_pos g2, hd, if_neg (by rw [pieq]; exact k0), if_neg (by rw [pieq]; exact k1), if_neg (by rw [pieq]; exact k2), if_neg (by rw [pieq]; exact k3), if_pos (by rw [pieq]; rfl), if_pos (by rw [pieq]), h1]
        dsimp only
        rw [p_same (by omega) h2]
        dsimp only
        rw [if_pos rfl, ei]
theorem does_law {x : Int} {r : List D} (hr : r.length ≤ maxLen) : F_tollbarlaw22_FifoDoes x r = some true := by
  unfold F_tollbarlaw22_FifoDoes F_fifo_New
  rw [p_awake]
  dsimp only
  rw [if_pos rfl]
  have hm : r.length ≤ 9223372036854775807 := hr
  unfold F_tollbarlaw22_small
  have e0 : (0 : Int) = ((0 : Nat) : Int) := rfl
  rcases p_small_loop hm r.length 0 (by omega) with h | ⟨h, hs⟩
  · rw [show ((0 : Nat) : Int) = 0 from rfl] at h
    rw [h]
    dsimp only
    rw [if_neg (by simp)]
  · rw [show ((0 : Nat) : Int) = 0 from rfl] at h
    rw [h]
    dsimp only
    by_cases c : r.length ≤ 200
    · rw [if_pos (by simpa using c)]
      exact does_loop c (fun j hj => hs j (by omega) hj) r.length 0 x 0 [] [] (by omega) (by simp) QR.nil
    · rw [if_neg (by simpa using c)]
theorem p_FifoOrder (x : Int) (r : List D) (h1 : (Lit.int .u8 x).wf = true) (h2 : (Ty.row 4 .bool).rng (.l r)) : F_tollbarlaw22_FifoOrder x r = some true := order_law (wf_u8 h1)
theorem p_FifoOwn (r : List D) (x : Int) (h1 : (Ty.row 28 (.st [.int .u64, .int .i64, .int .i64])).rng (.l r)) (h2 : (Lit.int .u8 x).wf = true) : F_tollbarlaw22_FifoOwn r x = some true := own_law (wf_u8 h2)
theorem p_FifoDoes (x : Int) (r : List D) (h1 : (Lit.int .i64 x).wf = true) (h2 : (Ty.row 45 (.st [.int .i64, .int .i64, .st [.int .u64, .int .i64, .int .i64], .row 28 (.st [.int .u64, .int .i64, .int .i64])])).rng (.l r)) : F_tollbarlaw22_FifoDoes x r = some true := does_law h2.1
end Go.Proofs.Ytdagccoamfhdcaa
end
