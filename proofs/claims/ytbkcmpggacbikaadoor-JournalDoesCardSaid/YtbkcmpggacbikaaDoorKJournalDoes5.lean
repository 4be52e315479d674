/-
  Texts that the row of this claim stands on, one behind the other.
-/
import Derived.Deep.Slices
import Derived.ChangeArms
import Derived.Test.YtbkcmpggacbikaaDoorKJournalDoes1
import Derived.Test.YtbkcmpggacbikaaDoorKJournalDoes2
import Derived.Test.YtbkcmpggacbikaaDoorKJournalDoes3
import Derived.Test.YtbkcmpggacbikaaDoorKJournalDoes4
section
/-
  The walk of tollbar/journal.Save (printed by a program of ours).
-/
set_option linter.unusedVariables false
set_option linter.unusedSimpArgs false
namespace Go.Proofs.YtbkcmpggacbikaaDoor
open Go.RowKit
noncomputable def tab_journal_Save : Nat → Option Con := look [(11, con_journal_Load), (23, con_journal_blocks), (10, con_block_Device_Write), (35, con_journal_head)]
set_option maxHeartbeats 20000000 in
set_option maxRecDepth 100000 in
theorem vc_journal_Save (P : Program) (T : Tab P tab_journal_Save) (hm : P.follows .mixedOrders = true) (hI34 : ItOK P 34 ic_34 38) : FnVC P tab_journal_Save ic_9 [.c 4 1 false] 42 con_journal_Save := by
 intro cargs ccks ce hce hob C hk
 apply Hidden.out
 replace hce : altC (con_journal_Save_1 cargs ccks) (altC (con_journal_Save_2 cargs ccks) (con_journal_Save_3 cargs ccks)) = some ce := hce
 replace hce := altC_inv hce
 rcases hce with hce | hce
 ·unfold con_journal_Save_1 at hce
  split at hce
  rotate_left
  ·cases hce
  obtain rfl := Option.some.inj hce
  rename_i s1 b1 x1 r1
  have hb1 := hob _ (List.mem_singleton.2 rfl)
  have hb2 := obl.1 hb1
  clear hb1 hob hce
  refine hb2.elim fun r hF => ?_
  clear hb2
  simp only [List.length_cons, List.length_nil, Nat.zero_add, Nat.reduceAdd] at hk
  have hr : F_journal_Save s1 b1 x1 r1 = some r := by rw [lock_eq] at hF; exact hF
  unfold F_journal_Save at hr
  constructor
  (try cbv)
  have hqe : ∃ qq, F_journal_Load b1 x1 r1 = some qq := by
   cases hq : F_journal_Load b1 x1 r1 with
   | none => rw [hq] at hr; cases hr
   | some qq => exact ⟨qq, rfl⟩
  refine ⟨obl.2 (by simp only [choice_lk, lock_eq]; exact hqe), (by rintro (⟨_, _, _, _⟩) _ <;> cbv), ?_⟩
  clear hqe
  intro qq hx1
  simp only [choice_lk, lock_eq] at hx1
  rcases qq with ⟨k1, y1, y2, t1⟩
  all_goals (rw [hx1] at hr; dsimp only at hr; constructor; (try cbv))
  refine sel_intro (fun h => ?_) (fun h => ?_)
  ·have h1 : (ieq y2 (1 : Int)) = true := by first | exact h | (have h2 := h; simp only [choice_lk, lock_eq] at h2; exact h2) | (simp only [choice_lk, lock_eq] at h; exact h)
   rw [if_pos h1] at hr
   (try cbv)
   apply Hidden.out
   have e := Option.some.inj hr
   obtain ⟨u0, u1, u2⟩ := r
   simp only [Prod.mk.injEq] at e
   obtain ⟨e0, e1, e2⟩ := e
   constructor
   refine ⟨_, hF, ?_⟩
   (try cbv); (try simp only [choice_lk, lock_eq, and_self, and_true, true_and]); (try first | exact e | exact e.symm | (and_intros <;> first | assumption | rfl | exact Eq.symm (by assumption)))
  ·as_aux_lemma =>
   have h1 : (ieq y2 (1 : Int)) = false := by first | exact h | (have h2 := h; simp only [choice_lk, lock_eq] at h2; exact h2) | (simp only [choice_lk, lock_eq] at h; exact h)
   rw [if_neg (by rw [h1]; exact Bool.false_ne_true)] at hr
   (try cbv)
   refine sel_intro (fun h => ?_) (fun h => ?_)
   ·have h1 : (ilt (8192 : Int) (ofN (xlen s1))) = true := by first | exact h | (have h2 := h; simp only [choice_lk, lock_eq] at h2; exact h2) | (simp only [choice_lk, lock_eq] at h; exact h)
    rw [if_pos h1] at hr
    (try cbv)
    apply Hidden.out
    have e := Option.some.inj hr
    obtain ⟨u0, u1, u2⟩ := r
    simp only [Prod.mk.injEq] at e
    obtain ⟨e0, e1, e2⟩ := e
    constructor
    refine ⟨_, hF, ?_⟩
    (try cbv); (try simp only [choice_lk, lock_eq, and_self, and_true, true_and]); (try first | exact e | exact e.symm | (and_intros <;> first | assumption | rfl | exact Eq.symm (by assumption)))
   ·as_aux_lemma =>
    have h1 : (ilt (8192 : Int) (ofN (xlen s1))) = false := by first | exact h | (have h2 := h; simp only [choice_lk, lock_eq] at h2; exact h2) | (simp only [choice_lk, lock_eq] at h; exact h)
    rw [if_neg (by rw [h1]; exact Bool.false_ne_true)] at hr
    (try cbv)
    refine sel_intro (fun h => ?_) (fun h => ?_)
    ·have h1 : (ieq y2 (3 : Int)) = true := by first | exact h | (have h2 := h; simp only [choice_lk, lock_eq] at h2; exact h2) | (simp only [choice_lk, lock_eq] at h; exact h)
     rw [if_pos h1] at hr
     (try cbv)
     apply Hidden.out
     have e := Option.some.inj hr
     obtain ⟨u0, u1, u2⟩ := r
     simp only [Prod.mk.injEq] at e
     obtain ⟨e0, e1, e2⟩ := e
     constructor
     refine ⟨_, hF, ?_⟩
     (try cbv); (try simp only [choice_lk, lock_eq, and_self, and_true, true_and]); (try first | exact e | exact e.symm | (and_intros <;> first | assumption | rfl | exact Eq.symm (by assumption)))
    ·as_aux_lemma =>
     have h1 : (ieq y2 (3 : Int)) = false := by first | exact h | (have h2 := h; simp only [choice_lk, lock_eq] at h2; exact h2) | (simp only [choice_lk, lock_eq] at h; exact h)
     rw [if_neg (by rw [h1]; exact Bool.false_ne_true)] at hr
     (try cbv)
     have hqe : ∃ qq, F_journal_blocks (iadd .u64 y1 (1 : Int)) s1 = some qq := by
      cases hq : F_journal_blocks (iadd .u64 y1 (1 : Int)) s1 with
      | none => rw [hq] at hr; cases hr
      | some qq => exact ⟨qq, rfl⟩
     refine ⟨obl.2 (by simp only [choice_lk, lock_eq]; exact hqe), (by rintro (_) _ <;> cbv), ?_⟩
     clear hqe
     intro qq hx2
     simp only [choice_lk, lock_eq] at hx2
     rcases qq with _
     all_goals (rw [hx2] at hr; dsimp only at hr; constructor; (try cbv))
     refine LoopOK.rfn T hI34 (s0 := ⟨mkFr [(2, (.ptr 2 0)), (4, (.ptr 3 0)), (32, (.fn 34 [(.ptr 4 0), (.ptr 5 0)]))] 42 0, [(0, .blk 61 [(.wsl 1), (.v (.bool b1)), (.v (.pointer none)), (.v (.int .i64 x1))]), (1, .row (.row 68 (.u8s 64) r1)), (2, .blk 24 [(.ptr 0 0)]), (3, .blk 26 [(.v (.int .i64 (0 : Int)))]), (4, .blk 29 [(.v (.int .u64 (lock iadd .u64 y1 (1 : Int))))]), (5, .blk 22 [(.rsl (.bs 5 s1))])], 6⟩) (caps := [(.ptr 4 0), (.ptr 5 0)]) ?_ rfl rfl ?_
     ·refine le_auto hk ?_
      (try cbv); (try simp only [choice_lk, lock_eq, and_self, and_true, true_and]); (try first | exact e | exact e.symm | (and_intros <;> first | assumption | rfl | exact Eq.symm (by assumption)))
     ·intro CM yl hM hk0
      have hk1 : (CM 0).k = 6 := hk0 0
      clear hk0
      constructor
      (try cbv)
      refine LoopI.iter hM (B := (F_journal_Save_L1 s1 y1 b1)) hr (fun | (i1, i2, r2) => ⟨mkFr [(0, (.v (.func (.yield yl) #[] #[]))), (1, (.ptr 4 0)), (2, (.ptr 5 0)), (4, (.v (.int .i64 (lock imul .i64 (lock iconv .i64 (lock irem (lock iadd .u64 y1 (1 : Int)) (2 : Int))) (130 : Int))))), (5, (.v (.int .i64 i1)))] 38 0, [(0, .blk 61 [(.wsl 1), (.v (.bool b1)), (.v (.pointer none)), (.v (.int .i64 i2))]), (1, .row (.row 68 (.u8s 64) r2)), (2, .blk 24 [(.ptr 0 0)]), (3, .blk 26 [(.v (.int .i64 (0 : Int)))]), (4, .blk 29 [(.v (.int .u64 (lock iadd .u64 y1 (1 : Int))))]), (5, .blk 22 [(.rsl (.bs 5 s1))])], 6⟩) ?_ ?_
      ·rintro ⟨u0, u1, u2⟩ e
       simp only [Prod.mk.injEq] at e
       obtain ⟨e0, e1, e2⟩ := e
       refine leR_auto hk1 rfl rfl ?_
       (try cbv); (try simp only [choice_lk, lock_eq, and_self, and_true, true_and]); (try first | exact e | exact e.symm | (and_intros <;> first | assumption | rfl | exact Eq.symm (by assumption)))
      ·clear hr
       intro x bb1 hr ht1
       obtain ⟨i1, i2, r2⟩ := x
       as_aux_lemma =>
       constructor
       unfold F_journal_Save_L1 at hr
       (try dsimp only at hr)
       (try cbv)
       refine sel_intro (fun h => ?_) (fun h => ?_)
       ·have h1 : (ilt i1 (ofN (xlen s1))) = true := by first | exact h | (have h2 := h; simp only [choice_lk, lock_eq] at h2; exact h2) | (simp only [choice_lk, lock_eq] at h; exact h)
        rw [if_pos h1] at hr
        (try cbv)
        have gg := guard_inv hr
        have g := gg.1
        replace hr := gg.2
        clear gg
        refine ⟨obl.2 (by first | (simp only [choice_lk, lock_eq, R.len, R.sub]; exact g) | exact g), ?_⟩
        have gg := guard_inv hr
        have g := gg.1
        replace hr := gg.2
        clear gg
        refine ⟨obl.2 (by first | (simp only [choice_lk, lock_eq, R.len, R.sub]; exact g) | exact g), ?_⟩
        have hqe : ∃ qq, F_block_Device_Write (iadd .i64 (iadd .i64 (imul .i64 (iconv .i64 (irem (iadd .u64 y1 (1 : Int)) (2 : Int))) (130 : Int)) (1 : Int)) (iquo .i64 i1 (64 : Int))) (lspl (@lrep UInt8 (toN (64 : Int)) (0 : UInt8)) 0 (lsub (lsub s1 (toN i1) (ndec (xlen s1) (toN i1))) 0 (nmin (xlen (@lrep UInt8 (toN (64 : Int)) (0 : UInt8))) (xlen (lsub s1 (toN i1) (ndec (xlen s1) (toN i1))))))) b1 i2 r2 = some qq := by
         cases hq : F_block_Device_Write (iadd .i64 (iadd .i64 (imul .i64 (iconv .i64 (irem (iadd .u64 y1 (1 : Int)) (2 : Int))) (130 : Int)) (1 : Int)) (iquo .i64 i1 (64 : Int))) (lspl (@lrep UInt8 (toN (64 : Int)) (0 : UInt8)) 0 (lsub (lsub s1 (toN i1) (ndec (xlen s1) (toN i1))) 0 (nmin (xlen (@lrep UInt8 (toN (64 : Int)) (0 : UInt8))) (xlen (lsub s1 (toN i1) (ndec (xlen s1) (toN i1))))))) b1 i2 r2 with
         | none => rw [hq] at hr; cases hr
         | some qq => exact ⟨qq, rfl⟩
        refine ⟨obl.2 (by simp only [choice_lk, lock_eq]; exact hqe), (by rintro (⟨_, _, _⟩) _ <;> cbv), ?_⟩
        clear hqe
        intro qq hx5
        simp only [choice_lk, lock_eq] at hx5
        rcases qq with ⟨y7, y8, q3⟩
        all_goals (rw [hx5] at hr; dsimp only at hr; constructor; (try cbv))
        refine sel_intro (fun h => ?_) (fun h => ?_)
        ·have h1 : (ieq y7 (0 : Int)) = false := by first | exact (bnot_t.1 h) | (have h2 := (bnot_t.1 h); simp only [choice_lk, lock_eq] at h2; exact h2) | (simp only [choice_lk, lock_eq] at h; exact (bnot_t.1 h))
         rw [if_neg (by rw [h1]; exact Bool.false_ne_true)] at hr
         (try cbv)
         apply Hidden.out
         obtain rfl := Option.some.inj hr
         have e := ht1 _ rfl
         obtain ⟨u0, u1, u2⟩ := r
         simp only [Prod.mk.injEq] at e
         obtain ⟨e0, e1, e2⟩ := e
         constructor
         refine ⟨_, hF, ?_⟩
         (try cbv); (try simp only [choice_lk, lock_eq, and_self, and_true, true_and]); (try first | exact e | exact e.symm | (and_intros <;> first | assumption | rfl | exact Eq.symm (by assumption)))
        ·have h1 : (ieq y7 (0 : Int)) = true := by first | exact (bnot_f.1 h) | (have h2 := (bnot_f.1 h); simp only [choice_lk, lock_eq] at h2; exact h2) | (simp only [choice_lk, lock_eq] at h; exact (bnot_f.1 h))
         rw [if_pos h1] at hr
         (try cbv)
         apply Hidden.out
         obtain rfl := Option.some.inj hr
         constructor
         refine ⟨⟨_, rfl⟩, ?_⟩
         rintro ⟨u0, u1, u2⟩ e
         replace e := Sum.inl.inj e
         simp only [Prod.mk.injEq] at e
         obtain ⟨e0, e1, e2⟩ := e
         refine leR_auto hk1 rfl rfl ?_
         (try cbv); (try simp only [choice_lk, lock_eq, and_self, and_true, true_and]); (try first | exact e | exact e.symm | (and_intros <;> first | assumption | rfl | exact Eq.symm (by assumption)))
       ·have h1 : (ilt i1 (ofN (xlen s1))) = false := by first | exact h | (have h2 := h; simp only [choice_lk, lock_eq] at h2; exact h2) | (simp only [choice_lk, lock_eq] at h; exact h)
        rw [if_neg (by rw [h1]; exact Bool.false_ne_true)] at hr
        (try cbv)
        have hqe : ∃ qq, F_journal_head_2 (iadd .u64 y1 (1 : Int)) s1 = some qq := by
         cases hq : F_journal_head_2 (iadd .u64 y1 (1 : Int)) s1 with
         | none => rw [hq] at hr; cases hr
         | some qq => exact ⟨qq, rfl⟩
        refine ⟨obl.2 (by simp only [choice_lk, lock_eq]; exact hqe), (by rintro (_) _ <;> cbv), ?_⟩
        clear hqe
        intro t2 hx6
        simp only [choice_lk, lock_eq] at hx6
        all_goals (rw [hx6] at hr; dsimp only at hr; constructor; (try cbv))
        have hqe : ∃ qq, F_block_Device_Write (imul .i64 (iconv .i64 (irem (iadd .u64 y1 (1 : Int)) (2 : Int))) (130 : Int)) t2 b1 i2 r2 = some qq := by
         cases hq : F_block_Device_Write (imul .i64 (iconv .i64 (irem (iadd .u64 y1 (1 : Int)) (2 : Int))) (130 : Int)) t2 b1 i2 r2 with
         | none => rw [hq] at hr; cases hr
         | some qq => exact ⟨qq, rfl⟩
        refine ⟨obl.2 (by simp only [choice_lk, lock_eq]; exact hqe), (by rintro (⟨_, _, _⟩) _ <;> cbv), ?_⟩
        clear hqe
        intro qq hx7
        simp only [choice_lk, lock_eq] at hx7
        rcases qq with ⟨y9, y10, q4⟩
        all_goals (rw [hx7] at hr; dsimp only at hr; constructor; (try cbv))
        refine sel_intro (fun h => ?_) (fun h => ?_)
        ·have h1 : (ieq y9 (0 : Int)) = false := by first | exact (bnot_t.1 h) | (have h2 := (bnot_t.1 h); simp only [choice_lk, lock_eq] at h2; exact h2) | (simp only [choice_lk, lock_eq] at h; exact (bnot_t.1 h))
         rw [if_neg (by rw [h1]; exact Bool.false_ne_true)] at hr
         (try cbv)
         apply Hidden.out
         obtain rfl := Option.some.inj hr
         have e := ht1 _ rfl
         obtain ⟨u0, u1, u2⟩ := r
         simp only [Prod.mk.injEq] at e
         obtain ⟨e0, e1, e2⟩ := e
         constructor
         refine ⟨_, hF, ?_⟩
         (try cbv); (try simp only [choice_lk, lock_eq, and_self, and_true, true_and]); (try first | exact e | exact e.symm | (and_intros <;> first | assumption | rfl | exact Eq.symm (by assumption)))
        ·have h1 : (ieq y9 (0 : Int)) = true := by first | exact (bnot_f.1 h) | (have h2 := (bnot_f.1 h); simp only [choice_lk, lock_eq] at h2; exact h2) | (simp only [choice_lk, lock_eq] at h; exact (bnot_f.1 h))
         rw [if_pos h1] at hr
         (try cbv)
         apply Hidden.out
         obtain rfl := Option.some.inj hr
         have e := ht1 _ rfl
         obtain ⟨u0, u1, u2⟩ := r
         simp only [Prod.mk.injEq] at e
         obtain ⟨e0, e1, e2⟩ := e
         constructor
         refine ⟨_, hF, ?_⟩
         (try cbv); (try simp only [choice_lk, lock_eq, and_self, and_true, true_and]); (try first | exact e | exact e.symm | (and_intros <;> first | assumption | rfl | exact Eq.symm (by assumption)))
 replace hce := altC_inv hce
 rcases hce with hce | hce
 ·unfold con_journal_Save_2 at hce
  split at hce
  rotate_left
  ·cases hce
  obtain rfl := Option.some.inj hce
  rename_i s1
  have hb1 := hob _ (List.mem_singleton.2 rfl)
  have hb2 := obl.1 hb1
  clear hb1 hob hce
  refine hb2.elim fun r hF => ?_
  clear hb2
  simp only [List.length_cons, List.length_nil, Nat.zero_add, Nat.reduceAdd] at hk
  have hr : F_journal_Save_2 s1 = some r := by rw [lock_eq] at hF; exact hF
  unfold F_journal_Save_2 at hr
  constructor
  (try cbv)
  have hqe : ∃ qq, F_journal_Load_2 = some qq := by
   cases hq : F_journal_Load_2 with
   | none => rw [hq] at hr; cases hr
   | some qq => exact ⟨qq, rfl⟩
  refine ⟨obl.2 (by simp only [choice_lk, lock_eq]; exact hqe), (by rintro (_) _ <;> cbv), ?_⟩
  clear hqe
  intro qq hx1
  simp only [choice_lk, lock_eq] at hx1
  rcases qq with _
  all_goals (rw [hx1] at hr; dsimp only at hr; constructor; (try cbv))
  refine sel_intro (fun h => ?_) (fun h => ?_)
  ·have h1 : (ieq (1 : Int) (1 : Int)) = true := by first | exact h | (have h2 := h; simp only [choice_lk, lock_eq] at h2; exact h2) | (simp only [choice_lk, lock_eq] at h; exact h)
   rw [if_pos h1] at hr
   (try cbv)
   apply Hidden.out
   have e := Option.some.inj hr
   constructor
   refine ⟨_, hF, ?_⟩
   (try cbv); (try simp only [choice_lk, lock_eq, and_self, and_true, true_and]); (try first | exact e | exact e.symm | (and_intros <;> first | assumption | rfl | exact Eq.symm (by assumption)))
  ·have h1 : (ieq (1 : Int) (1 : Int)) = false := by first | exact h | (have h2 := h; simp only [choice_lk, lock_eq] at h2; exact h2) | (simp only [choice_lk, lock_eq] at h; exact h)
   rw [if_neg (by rw [h1]; exact Bool.false_ne_true)] at hr
   (try cbv)
   cases hr
 ·unfold con_journal_Save_3 at hce
  split at hce
  rotate_left
  ·cases hce
  obtain rfl := Option.some.inj hce
  rename_i s1 b1 x1 r1 x2 x3
  have hb1 := hob _ (List.mem_singleton.2 rfl)
  have hb2 := obl.1 hb1
  clear hb1 hob hce
  refine hb2.elim fun r hF => ?_
  clear hb2
  simp only [List.length_cons, List.length_nil, Nat.zero_add, Nat.reduceAdd] at hk
  have hr : F_journal_Save_3 s1 b1 x1 r1 x2 x3 = some r := by rw [lock_eq] at hF; exact hF
  unfold F_journal_Save_3 at hr
  constructor
  (try cbv)
  have hqe : ∃ qq, F_journal_Load_3 b1 x1 r1 x2 x3 = some qq := by
   cases hq : F_journal_Load_3 b1 x1 r1 x2 x3 with
   | none => rw [hq] at hr; cases hr
   | some qq => exact ⟨qq, rfl⟩
  refine ⟨obl.2 (by simp only [choice_lk, lock_eq]; exact hqe), (by rintro (⟨_, _, _, _⟩) _ <;> cbv), ?_⟩
  clear hqe
  intro qq hx1
  simp only [choice_lk, lock_eq] at hx1
  rcases qq with ⟨k1, y1, y2, t1⟩
  all_goals (rw [hx1] at hr; dsimp only at hr; constructor; (try cbv))
  refine sel_intro (fun h => ?_) (fun h => ?_)
  ·have h1 : (ieq y2 (1 : Int)) = true := by first | exact h | (have h2 := h; simp only [choice_lk, lock_eq] at h2; exact h2) | (simp only [choice_lk, lock_eq] at h; exact h)
   rw [if_pos h1] at hr
   (try cbv)
   apply Hidden.out
   have e := Option.some.inj hr
   revert e
   rcases r with ⟨u0, u1, u2, u3⟩ | _ <;> intro e
   ·replace e := Sum.inl.inj e
    simp only [Prod.mk.injEq] at e
    obtain ⟨e0, e1, e2, e3⟩ := e
    constructor
    refine ⟨_, hF, ?_⟩
    (try cbv); (try simp only [choice_lk, lock_eq, and_self, and_true, true_and]); (try first | exact e | exact e.symm | (and_intros <;> first | assumption | rfl | exact Eq.symm (by assumption)))
   ·cases e
  ·as_aux_lemma =>
   have h1 : (ieq y2 (1 : Int)) = false := by first | exact h | (have h2 := h; simp only [choice_lk, lock_eq] at h2; exact h2) | (simp only [choice_lk, lock_eq] at h; exact h)
   rw [if_neg (by rw [h1]; exact Bool.false_ne_true)] at hr
   (try cbv)
   refine sel_intro (fun h => ?_) (fun h => ?_)
   ·have h1 : (ilt (8192 : Int) (ofN (xlen s1))) = true := by first | exact h | (have h2 := h; simp only [choice_lk, lock_eq] at h2; exact h2) | (simp only [choice_lk, lock_eq] at h; exact h)
    rw [if_pos h1] at hr
    (try cbv)
    apply Hidden.out
    have e := Option.some.inj hr
    revert e
    rcases r with ⟨u0, u1, u2, u3⟩ | _ <;> intro e
    ·replace e := Sum.inl.inj e
     simp only [Prod.mk.injEq] at e
     obtain ⟨e0, e1, e2, e3⟩ := e
     constructor
     refine ⟨_, hF, ?_⟩
     (try cbv); (try simp only [choice_lk, lock_eq, and_self, and_true, true_and]); (try first | exact e | exact e.symm | (and_intros <;> first | assumption | rfl | exact Eq.symm (by assumption)))
    ·cases e
   ·as_aux_lemma =>
    have h1 : (ilt (8192 : Int) (ofN (xlen s1))) = false := by first | exact h | (have h2 := h; simp only [choice_lk, lock_eq] at h2; exact h2) | (simp only [choice_lk, lock_eq] at h; exact h)
    rw [if_neg (by rw [h1]; exact Bool.false_ne_true)] at hr
    (try cbv)
    refine sel_intro (fun h => ?_) (fun h => ?_)
    ·have h1 : (ieq y2 (3 : Int)) = true := by first | exact h | (have h2 := h; simp only [choice_lk, lock_eq] at h2; exact h2) | (simp only [choice_lk, lock_eq] at h; exact h)
     rw [if_pos h1] at hr
     (try cbv)
     apply Hidden.out
     have e := Option.some.inj hr
     revert e
     rcases r with ⟨u0, u1, u2, u3⟩ | _ <;> intro e
     ·replace e := Sum.inl.inj e
      simp only [Prod.mk.injEq] at e
      obtain ⟨e0, e1, e2, e3⟩ := e
      constructor
      refine ⟨_, hF, ?_⟩
      (try cbv); (try simp only [choice_lk, lock_eq, and_self, and_true, true_and]); (try first | exact e | exact e.symm | (and_intros <;> first | assumption | rfl | exact Eq.symm (by assumption)))
     ·cases e
    ·as_aux_lemma =>
     have h1 : (ieq y2 (3 : Int)) = false := by first | exact h | (have h2 := h; simp only [choice_lk, lock_eq] at h2; exact h2) | (simp only [choice_lk, lock_eq] at h; exact h)
     rw [if_neg (by rw [h1]; exact Bool.false_ne_true)] at hr
     (try cbv)
     have hqe : ∃ qq, F_journal_blocks (iadd .u64 y1 (1 : Int)) s1 = some qq := by
      cases hq : F_journal_blocks (iadd .u64 y1 (1 : Int)) s1 with
      | none => rw [hq] at hr; cases hr
      | some qq => exact ⟨qq, rfl⟩
     refine ⟨obl.2 (by simp only [choice_lk, lock_eq]; exact hqe), (by rintro (_) _ <;> cbv), ?_⟩
     clear hqe
     intro qq hx2
     simp only [choice_lk, lock_eq] at hx2
     rcases qq with _
     all_goals (rw [hx2] at hr; dsimp only at hr; constructor; (try cbv))
     refine LoopOK.rfn T hI34 (s0 := ⟨mkFr [(2, (.ptr 3 0)), (4, (.ptr 4 0)), (32, (.fn 34 [(.ptr 5 0), (.ptr 6 0)]))] 42 0, [(0, .blk 61 [(.wsl 1), (.v (.bool b1)), (.ptr 2 0), (.v (.int .i64 x1))]), (1, .row (.row 68 (.u8s 64) r1)), (2, .blk 67 [(.v (.int .i64 x2)), (.v (.int .i64 x3))]), (3, .blk 24 [(.ptr 0 0)]), (4, .blk 26 [(.v (.int .i64 (0 : Int)))]), (5, .blk 29 [(.v (.int .u64 (lock iadd .u64 y1 (1 : Int))))]), (6, .blk 22 [(.rsl (.bs 5 s1))])], 7⟩) (caps := [(.ptr 5 0), (.ptr 6 0)]) ?_ rfl rfl ?_
     ·refine le_auto hk ?_
      (try cbv); (try simp only [choice_lk, lock_eq, and_self, and_true, true_and]); (try first | exact e | exact e.symm | (and_intros <;> first | assumption | rfl | exact Eq.symm (by assumption)))
     ·intro CM yl hM hk0
      have hk1 : (CM 0).k = 7 := hk0 0
      clear hk0
      constructor
      (try cbv)
      refine LoopI.iter hM (B := (F_journal_Save_3_L1 s1 y1 b1 x3)) hr (fun | (i1, i2, r2, i3) => ⟨mkFr [(0, (.v (.func (.yield yl) #[] #[]))), (1, (.ptr 5 0)), (2, (.ptr 6 0)), (4, (.v (.int .i64 (lock imul .i64 (lock iconv .i64 (lock irem (lock iadd .u64 y1 (1 : Int)) (2 : Int))) (130 : Int))))), (5, (.v (.int .i64 i1)))] 38 0, [(0, .blk 61 [(.wsl 1), (.v (.bool b1)), (.ptr 2 0), (.v (.int .i64 i2))]), (1, .row (.row 68 (.u8s 64) r2)), (2, .blk 67 [(.v (.int .i64 i3)), (.v (.int .i64 x3))]), (3, .blk 24 [(.ptr 0 0)]), (4, .blk 26 [(.v (.int .i64 (0 : Int)))]), (5, .blk 29 [(.v (.int .u64 (lock iadd .u64 y1 (1 : Int))))]), (6, .blk 22 [(.rsl (.bs 5 s1))])], 7⟩) ?_ ?_
      ·rintro ⟨u0, u1, u2, u3⟩ e
       simp only [Prod.mk.injEq] at e
       obtain ⟨e0, e1, e2, e3⟩ := e
       refine leR_auto hk1 rfl rfl ?_
       (try cbv); (try simp only [choice_lk, lock_eq, and_self, and_true, true_and]); (try first | exact e | exact e.symm | (and_intros <;> first | assumption | rfl | exact Eq.symm (by assumption)))
      ·clear hr
       intro x bb1 hr ht1
       obtain ⟨i1, i2, r2, i3⟩ := x
       as_aux_lemma =>
       constructor
       unfold F_journal_Save_3_L1 at hr
       (try dsimp only at hr)
       (try cbv)
       refine sel_intro (fun h => ?_) (fun h => ?_)
       ·as_aux_lemma =>
        have h1 : (ilt i1 (ofN (xlen s1))) = true := by first | exact h | (have h2 := h; simp only [choice_lk, lock_eq] at h2; exact h2) | (simp only [choice_lk, lock_eq] at h; exact h)
        rw [if_pos h1] at hr
        (try cbv)
        have gg := guard_inv hr
        have g := gg.1
        replace hr := gg.2
        clear gg
        refine ⟨obl.2 (by first | (simp only [choice_lk, lock_eq, R.len, R.sub]; exact g) | exact g), ?_⟩
        have gg := guard_inv hr
        have g := gg.1
        replace hr := gg.2
        clear gg
        refine ⟨obl.2 (by first | (simp only [choice_lk, lock_eq, R.len, R.sub]; exact g) | exact g), ?_⟩
        have hqe : ∃ qq, F_block_Device_Write_4 (iadd .i64 (iadd .i64 (imul .i64 (iconv .i64 (irem (iadd .u64 y1 (1 : Int)) (2 : Int))) (130 : Int)) (1 : Int)) (iquo .i64 i1 (64 : Int))) (lspl (@lrep UInt8 (toN (64 : Int)) (0 : UInt8)) 0 (lsub (lsub s1 (toN i1) (ndec (xlen s1) (toN i1))) 0 (nmin (xlen (@lrep UInt8 (toN (64 : Int)) (0 : UInt8))) (xlen (lsub s1 (toN i1) (ndec (xlen s1) (toN i1))))))) b1 i2 r2 i3 x3 = some qq := by
         cases hq : F_block_Device_Write_4 (iadd .i64 (iadd .i64 (imul .i64 (iconv .i64 (irem (iadd .u64 y1 (1 : Int)) (2 : Int))) (130 : Int)) (1 : Int)) (iquo .i64 i1 (64 : Int))) (lspl (@lrep UInt8 (toN (64 : Int)) (0 : UInt8)) 0 (lsub (lsub s1 (toN i1) (ndec (xlen s1) (toN i1))) 0 (nmin (xlen (@lrep UInt8 (toN (64 : Int)) (0 : UInt8))) (xlen (lsub s1 (toN i1) (ndec (xlen s1) (toN i1))))))) b1 i2 r2 i3 x3 with
         | none => rw [hq] at hr; cases hr
         | some qq => exact ⟨qq, rfl⟩
        refine ⟨obl.2 (by simp only [choice_lk, lock_eq]; exact hqe), (by rintro (⟨_, _, _, _⟩ | _) _ <;> cbv), ?_⟩
        clear hqe
        intro qq hx5
        simp only [choice_lk, lock_eq] at hx5
        rcases qq with ⟨y9, y10, q5, y11⟩ | q6
        all_goals (rw [hx5] at hr; dsimp only at hr; constructor; (try cbv))
        ·refine sel_intro (fun h => ?_) (fun h => ?_)
         ·have h1 : (ieq y9 (0 : Int)) = false := by first | exact (bnot_t.1 h) | (have h2 := (bnot_t.1 h); simp only [choice_lk, lock_eq] at h2; exact h2) | (simp only [choice_lk, lock_eq] at h; exact (bnot_t.1 h))
          rw [if_neg (by rw [h1]; exact Bool.false_ne_true)] at hr
          (try cbv)
          apply Hidden.out
          obtain rfl := Option.some.inj hr
          have e := ht1 _ rfl
          revert e
          rcases r with ⟨u0, u1, u2, u3⟩ | _ <;> intro e
          ·replace e := Sum.inl.inj e
           simp only [Prod.mk.injEq] at e
           obtain ⟨e0, e1, e2, e3⟩ := e
           constructor
           refine ⟨_, hF, ?_⟩
           (try cbv); (try simp only [choice_lk, lock_eq, and_self, and_true, true_and]); (try first | exact e | exact e.symm | (and_intros <;> first | assumption | rfl | exact Eq.symm (by assumption)))
          ·cases e
         ·have h1 : (ieq y9 (0 : Int)) = true := by first | exact (bnot_f.1 h) | (have h2 := (bnot_f.1 h); simp only [choice_lk, lock_eq] at h2; exact h2) | (simp only [choice_lk, lock_eq] at h; exact (bnot_f.1 h))
          rw [if_pos h1] at hr
          (try cbv)
          apply Hidden.out
          obtain rfl := Option.some.inj hr
          constructor
          refine ⟨⟨_, rfl⟩, ?_⟩
          rintro ⟨u0, u1, u2, u3⟩ e
          replace e := Sum.inl.inj e
          simp only [Prod.mk.injEq] at e
          obtain ⟨e0, e1, e2, e3⟩ := e
          refine leR_auto hk1 rfl rfl ?_
          (try cbv); (try simp only [choice_lk, lock_eq, and_self, and_true, true_and]); (try first | exact e | exact e.symm | (and_intros <;> first | assumption | rfl | exact Eq.symm (by assumption)))
        ·refine sel_intro (fun h => ?_) (fun h => ?_)
         ·have h1 : (ieq (3 : Int) (0 : Int)) = false := by first | exact (bnot_t.1 h) | (have h2 := (bnot_t.1 h); simp only [choice_lk, lock_eq] at h2; exact h2) | (simp only [choice_lk, lock_eq] at h; exact (bnot_t.1 h))
          rw [if_neg (by rw [h1]; exact Bool.false_ne_true)] at hr
          (try cbv)
          apply Hidden.out
          obtain rfl := Option.some.inj hr
          have e := ht1 _ rfl
          revert e
          rcases r with _ | ⟨u0, u1, u2⟩ <;> intro e
          ·cases e
          ·replace e := Sum.inr.inj e
           simp only [Prod.mk.injEq] at e
           obtain ⟨e0, e1, e2⟩ := e
           constructor
           refine ⟨_, hF, ?_⟩
           (try cbv); (try simp only [choice_lk, lock_eq, and_self, and_true, true_and]); (try first | exact e | exact e.symm | (and_intros <;> first | assumption | rfl | exact Eq.symm (by assumption)))
         ·have h1 : (ieq (3 : Int) (0 : Int)) = true := by first | exact (bnot_f.1 h) | (have h2 := (bnot_f.1 h); simp only [choice_lk, lock_eq] at h2; exact h2) | (simp only [choice_lk, lock_eq] at h; exact (bnot_f.1 h))
          rw [if_pos h1] at hr
          (try cbv)
          cases hr
       ·as_aux_lemma =>
        have h1 : (ilt i1 (ofN (xlen s1))) = false := by first | exact h | (have h2 := h; simp only [choice_lk, lock_eq] at h2; exact h2) | (simp only [choice_lk, lock_eq] at h; exact h)
        rw [if_neg (by rw [h1]; exact Bool.false_ne_true)] at hr
        (try cbv)
        have hqe : ∃ qq, F_journal_head_2 (iadd .u64 y1 (1 : Int)) s1 = some qq := by
         cases hq : F_journal_head_2 (iadd .u64 y1 (1 : Int)) s1 with
         | none => rw [hq] at hr; cases hr
         | some qq => exact ⟨qq, rfl⟩
        refine ⟨obl.2 (by simp only [choice_lk, lock_eq]; exact hqe), (by rintro (_) _ <;> cbv), ?_⟩
        clear hqe
        intro t2 hx6
        simp only [choice_lk, lock_eq] at hx6
        all_goals (rw [hx6] at hr; dsimp only at hr; constructor; (try cbv))
        have hqe : ∃ qq, F_block_Device_Write_4 (imul .i64 (iconv .i64 (irem (iadd .u64 y1 (1 : Int)) (2 : Int))) (130 : Int)) t2 b1 i2 r2 i3 x3 = some qq := by
         cases hq : F_block_Device_Write_4 (imul .i64 (iconv .i64 (irem (iadd .u64 y1 (1 : Int)) (2 : Int))) (130 : Int)) t2 b1 i2 r2 i3 x3 with
         | none => rw [hq] at hr; cases hr
         | some qq => exact ⟨qq, rfl⟩
        refine ⟨obl.2 (by simp only [choice_lk, lock_eq]; exact hqe), (by rintro (⟨_, _, _, _⟩ | _) _ <;> cbv), ?_⟩
        clear hqe
        intro qq hx7
        simp only [choice_lk, lock_eq] at hx7
        rcases qq with ⟨y12, y13, q7, y14⟩ | q8
        all_goals (rw [hx7] at hr; dsimp only at hr; constructor; (try cbv))
        ·refine sel_intro (fun h => ?_) (fun h => ?_)
         ·have h1 : (ieq y12 (0 : Int)) = false := by first | exact (bnot_t.1 h) | (have h2 := (bnot_t.1 h); simp only [choice_lk, lock_eq] at h2; exact h2) | (simp only [choice_lk, lock_eq] at h; exact (bnot_t.1 h))
          rw [if_neg (by rw [h1]; exact Bool.false_ne_true)] at hr
          (try cbv)
          apply Hidden.out
          obtain rfl := Option.some.inj hr
          have e := ht1 _ rfl
          revert e
          rcases r with ⟨u0, u1, u2, u3⟩ | _ <;> intro e
          ·replace e := Sum.inl.inj e
           simp only [Prod.mk.injEq] at e
           obtain ⟨e0, e1, e2, e3⟩ := e
           constructor
           refine ⟨_, hF, ?_⟩
           (try cbv); (try simp only [choice_lk, lock_eq, and_self, and_true, true_and]); (try first | exact e | exact e.symm | (and_intros <;> first | assumption | rfl | exact Eq.symm (by assumption)))
          ·cases e
         ·have h1 : (ieq y12 (0 : Int)) = true := by first | exact (bnot_f.1 h) | (have h2 := (bnot_f.1 h); simp only [choice_lk, lock_eq] at h2; exact h2) | (simp only [choice_lk, lock_eq] at h; exact (bnot_f.1 h))
          rw [if_pos h1] at hr
          (try cbv)
          apply Hidden.out
          obtain rfl := Option.some.inj hr
          have e := ht1 _ rfl
          revert e
          rcases r with ⟨u0, u1, u2, u3⟩ | _ <;> intro e
          ·replace e := Sum.inl.inj e
           simp only [Prod.mk.injEq] at e
           obtain ⟨e0, e1, e2, e3⟩ := e
           constructor
           refine ⟨_, hF, ?_⟩
           (try cbv); (try simp only [choice_lk, lock_eq, and_self, and_true, true_and]); (try first | exact e | exact e.symm | (and_intros <;> first | assumption | rfl | exact Eq.symm (by assumption)))
          ·cases e
        ·refine sel_intro (fun h => ?_) (fun h => ?_)
         ·have h1 : (ieq (3 : Int) (0 : Int)) = false := by first | exact (bnot_t.1 h) | (have h2 := (bnot_t.1 h); simp only [choice_lk, lock_eq] at h2; exact h2) | (simp only [choice_lk, lock_eq] at h; exact (bnot_t.1 h))
          rw [if_neg (by rw [h1]; exact Bool.false_ne_true)] at hr
          (try cbv)
          apply Hidden.out
          obtain rfl := Option.some.inj hr
          have e := ht1 _ rfl
          revert e
          rcases r with _ | ⟨u0, u1, u2⟩ <;> intro e
          ·cases e
          ·replace e := Sum.inr.inj e
           simp only [Prod.mk.injEq] at e
           obtain ⟨e0, e1, e2⟩ := e
           constructor
           refine ⟨_, hF, ?_⟩
           (try cbv); (try simp only [choice_lk, lock_eq, and_self, and_true, true_and]); (try first | exact e | exact e.symm | (and_intros <;> first | assumption | rfl | exact Eq.symm (by assumption)))
         ·have h1 : (ieq (3 : Int) (0 : Int)) = true := by first | exact (bnot_f.1 h) | (have h2 := (bnot_f.1 h); simp only [choice_lk, lock_eq] at h2; exact h2) | (simp only [choice_lk, lock_eq] at h; exact (bnot_f.1 h))
          rw [if_pos h1] at hr
          (try cbv)
          cases hr
end Go.Proofs.YtbkcmpggacbikaaDoor
end
section
/-
  The walk of tollbar/tollbarlaw32.awake (printed by a program of ours).
-/
set_option linter.unusedVariables false
set_option linter.unusedSimpArgs false
namespace Go.Proofs.YtbkcmpggacbikaaDoor
open Go.RowKit
noncomputable def tab_tollbarlaw32_awake : Nat → Option Con := look [(8, con_block_New), (11, con_journal_Load), (9, con_journal_Save)]
set_option maxHeartbeats 20000000 in
set_option maxRecDepth 100000 in
theorem vc_tollbarlaw32_awake (P : Program) (T : Tab P tab_tollbarlaw32_awake) (hm : P.follows .mixedOrders = true) : FnVC P tab_tollbarlaw32_awake ic_7 [.t 0] 53 con_tollbarlaw32_awake := by
 intro cargs ccks ce hce hob C hk
 apply Hidden.out
 replace hce : con_tollbarlaw32_awake_1 cargs ccks = some ce := hce
 ·unfold con_tollbarlaw32_awake_1 at hce
  split at hce
  rotate_left
  ·cases hce
  obtain rfl := Option.some.inj hce
  have hb1 := hob _ (List.mem_singleton.2 rfl)
  have hb2 := obl.1 hb1
  clear hb1 hob hce
  refine hb2.elim fun r hF => ?_
  clear hb2
  simp only [List.length_cons, List.length_nil, Nat.zero_add, Nat.reduceAdd] at hk
  have hr : F_tollbarlaw32_awake = some r := by rw [lock_eq] at hF; exact hF
  unfold F_tollbarlaw32_awake at hr
  constructor
  (try cbv)
  have hqe : ∃ qq, F_block_New (260 : Int) = some qq := by
   cases hq : F_block_New (260 : Int) with
   | none => rw [hq] at hr; cases hr
   | some qq => exact ⟨qq, rfl⟩
  refine ⟨obl.2 (by simp only [choice_lk, lock_eq]; exact hqe), (by rintro (_ | _) _ <;> cbv), ?_⟩
  clear hqe
  intro qq hx1
  simp only [choice_lk, lock_eq] at hx1
  rcases qq with _ | q1
  all_goals (rw [hx1] at hr; dsimp only at hr; constructor; (try cbv))
  ·apply Hidden.out
   have e := Option.some.inj hr
   constructor
   refine ⟨_, hF, ?_⟩
   (try cbv); (try simp only [choice_lk, lock_eq, and_self, and_true, true_and]); (try first | exact e | exact e.symm | (and_intros <;> first | assumption | rfl | exact Eq.symm (by assumption)))
  ·have hqe : ∃ qq, F_journal_Load false (0 : Int) q1 = some qq := by
    cases hq : F_journal_Load false (0 : Int) q1 with
    | none => rw [hq] at hr; cases hr
    | some qq => exact ⟨qq, rfl⟩
   refine ⟨obl.2 (by simp only [choice_lk, lock_eq]; exact hqe), (by rintro (⟨_, _, _, _⟩) _ <;> cbv), ?_⟩
   clear hqe
   intro qq hx2
   simp only [choice_lk, lock_eq] at hx2
   rcases qq with ⟨k1, y1, y2, t1⟩
   all_goals (rw [hx2] at hr; dsimp only at hr; constructor; (try cbv))
   have gg := guard_inv hr
   have g := gg.1
   replace hr := gg.2
   clear gg
   refine ⟨obl.2 (by first | (simp only [choice_lk, lock_eq, R.len, R.sub]; exact g) | exact g), ?_⟩
   have gg := guard_inv hr
   have g := gg.1
   replace hr := gg.2
   clear gg
   refine ⟨obl.2 (by first | (simp only [choice_lk, lock_eq, R.len, R.sub]; exact g) | exact g), ?_⟩
   have hqe : ∃ qq, F_journal_Save (byteOf (97 : Int) :: ([] : List UInt8)) false (0 : Int) q1 = some qq := by
    cases hq : F_journal_Save (byteOf (97 : Int) :: ([] : List UInt8)) false (0 : Int) q1 with
    | none => rw [hq] at hr; cases hr
    | some qq => exact ⟨qq, rfl⟩
   refine ⟨obl.2 (by simp only [choice_lk, lock_eq]; exact hqe), (by rintro (⟨_, _, _⟩) _ <;> cbv), ?_⟩
   clear hqe
   intro qq hx3
   simp only [choice_lk, lock_eq] at hx3
   rcases qq with ⟨y3, y4, q2⟩
   all_goals (rw [hx3] at hr; dsimp only at hr; constructor; (try cbv))
   have hqe : ∃ qq, F_journal_Load false y4 q2 = some qq := by
    cases hq : F_journal_Load false y4 q2 with
    | none => rw [hq] at hr; cases hr
    | some qq => exact ⟨qq, rfl⟩
   refine ⟨obl.2 (by simp only [choice_lk, lock_eq]; exact hqe), (by rintro (⟨_, _, _, _⟩) _ <;> cbv), ?_⟩
   clear hqe
   intro qq hx4
   simp only [choice_lk, lock_eq] at hx4
   rcases qq with ⟨k2, y5, y6, t2⟩
   all_goals (rw [hx4] at hr; dsimp only at hr; constructor; (try cbv))
   refine sel_intro (fun h => ?_) (fun h => ?_)
   ·as_aux_lemma =>
    have h1 : (ieq y2 (39 : Int)) = true := by first | exact h | (have h2 := h; simp only [choice_lk, lock_eq] at h2; exact h2) | (simp only [choice_lk, lock_eq] at h; exact h)
    rw [if_pos h1] at hr
    (try cbv)
    refine sel_intro (fun h => ?_) (fun h => ?_)
    ·have h1 : (ieq y3 (0 : Int)) = true := by first | exact h | (have h2 := h; simp only [choice_lk, lock_eq] at h2; exact h2) | (simp only [choice_lk, lock_eq] at h; exact h)
     rw [if_pos h1] at hr
     (try cbv)
     refine sel_intro (fun h => ?_) (fun h => ?_)
     ·have h1 : (seq (lsub t2 0 k2) ([97] : List UInt8)) = true := by first | exact h | (have h2 := h; simp only [choice_lk, lock_eq] at h2; exact h2) | (simp only [choice_lk, lock_eq] at h; exact h)
      rw [if_pos h1] at hr
      (try cbv)
      refine sel_intro (fun h => ?_) (fun h => ?_)
      ·have h1 : (ieq y5 (1 : Int)) = true := by first | exact h | (have h2 := h; simp only [choice_lk, lock_eq] at h2; exact h2) | (simp only [choice_lk, lock_eq] at h; exact h)
       rw [if_pos h1] at hr
       (try cbv)
       refine sel_intro (fun h => ?_) (fun h => ?_)
       ·have h1 : (ieq y6 (0 : Int)) = true := by first | exact h | (have h2 := h; simp only [choice_lk, lock_eq] at h2; exact h2) | (simp only [choice_lk, lock_eq] at h; exact h)
        rw [if_pos h1] at hr
        (try cbv)
        have hqe : ∃ qq, F_journal_Save_2 ([] : List UInt8) = some qq := by
         cases hq : F_journal_Save_2 ([] : List UInt8) with
         | none => rw [hq] at hr; cases hr
         | some qq => exact ⟨qq, rfl⟩
        refine ⟨obl.2 (by simp only [choice_lk, lock_eq]; exact hqe), (by rintro (_) _ <;> cbv), ?_⟩
        clear hqe
        intro qq hx5
        simp only [choice_lk, lock_eq] at hx5
        rcases qq with _
        all_goals (rw [hx5] at hr; dsimp only at hr; constructor; (try cbv))
        apply Hidden.out
        have e := Option.some.inj hr
        constructor
        refine ⟨_, hF, ?_⟩
        (try cbv); (try simp only [choice_lk, lock_eq, and_self, and_true, true_and]); (try first | exact e | exact e.symm | (and_intros <;> first | assumption | rfl | exact Eq.symm (by assumption)))
       ·have h1 : (ieq y6 (0 : Int)) = false := by first | exact h | (have h2 := h; simp only [choice_lk, lock_eq] at h2; exact h2) | (simp only [choice_lk, lock_eq] at h; exact h)
        rw [if_neg (by rw [h1]; exact Bool.false_ne_true)] at hr
        (try cbv)
        apply Hidden.out
        have e := Option.some.inj hr
        constructor
        refine ⟨_, hF, ?_⟩
        (try cbv); (try simp only [choice_lk, lock_eq, and_self, and_true, true_and]); (try first | exact e | exact e.symm | (and_intros <;> first | assumption | rfl | exact Eq.symm (by assumption)))
      ·have h1 : (ieq y5 (1 : Int)) = false := by first | exact h | (have h2 := h; simp only [choice_lk, lock_eq] at h2; exact h2) | (simp only [choice_lk, lock_eq] at h; exact h)
       rw [if_neg (by rw [h1]; exact Bool.false_ne_true)] at hr
       (try cbv)
       apply Hidden.out
       have e := Option.some.inj hr
       constructor
       refine ⟨_, hF, ?_⟩
       (try cbv); (try simp only [choice_lk, lock_eq, and_self, and_true, true_and]); (try first | exact e | exact e.symm | (and_intros <;> first | assumption | rfl | exact Eq.symm (by assumption)))
     ·have h1 : (seq (lsub t2 0 k2) ([97] : List UInt8)) = false := by first | exact h | (have h2 := h; simp only [choice_lk, lock_eq] at h2; exact h2) | (simp only [choice_lk, lock_eq] at h; exact h)
      rw [if_neg (by rw [h1]; exact Bool.false_ne_true)] at hr
      (try cbv)
      apply Hidden.out
      have e := Option.some.inj hr
      constructor
      refine ⟨_, hF, ?_⟩
      (try cbv); (try simp only [choice_lk, lock_eq, and_self, and_true, true_and]); (try first | exact e | exact e.symm | (and_intros <;> first | assumption | rfl | exact Eq.symm (by assumption)))
    ·have h1 : (ieq y3 (0 : Int)) = false := by first | exact h | (have h2 := h; simp only [choice_lk, lock_eq] at h2; exact h2) | (simp only [choice_lk, lock_eq] at h; exact h)
     rw [if_neg (by rw [h1]; exact Bool.false_ne_true)] at hr
     (try cbv)
     apply Hidden.out
     have e := Option.some.inj hr
     constructor
     refine ⟨_, hF, ?_⟩
     (try cbv); (try simp only [choice_lk, lock_eq, and_self, and_true, true_and]); (try first | exact e | exact e.symm | (and_intros <;> first | assumption | rfl | exact Eq.symm (by assumption)))
   ·have h1 : (ieq y2 (39 : Int)) = false := by first | exact h | (have h2 := h; simp only [choice_lk, lock_eq] at h2; exact h2) | (simp only [choice_lk, lock_eq] at h; exact h)
    rw [if_neg (by rw [h1]; exact Bool.false_ne_true)] at hr
    (try cbv)
    apply Hidden.out
    have e := Option.some.inj hr
    constructor
    refine ⟨_, hF, ?_⟩
    (try cbv); (try simp only [choice_lk, lock_eq, and_self, and_true, true_and]); (try first | exact e | exact e.symm | (and_intros <;> first | assumption | rfl | exact Eq.symm (by assumption)))
end Go.Proofs.YtbkcmpggacbikaaDoor
end
section
/-
  The walk of tollbar/tollbarref31.noughts (printed by a program of ours).
-/
set_option linter.unusedVariables false
set_option linter.unusedSimpArgs false
namespace Go.Proofs.YtbkcmpggacbikaaDoor
open Go.RowKit
noncomputable def tab_tollbarref31_noughts : Nat → Option Con := look []
set_option maxHeartbeats 20000000 in
set_option maxRecDepth 100000 in
theorem vc_tollbarref31_noughts (P : Program) (T : Tab P tab_tollbarref31_noughts) (hm : P.follows .mixedOrders = true) : FnVC P tab_tollbarref31_noughts ic_28 [.t 0] 3 con_tollbarref31_noughts := by
 intro cargs ccks ce hce hob C hk
 apply Hidden.out
 replace hce : con_tollbarref31_noughts_1 cargs ccks = some ce := hce
 ·unfold con_tollbarref31_noughts_1 at hce
  split at hce
  rotate_left
  ·cases hce
  obtain rfl := Option.some.inj hce
  have hb1 := hob _ (List.mem_singleton.2 rfl)
  have hb2 := obl.1 hb1
  clear hb1 hob hce
  refine hb2.elim fun r hF => ?_
  clear hb2
  simp only [List.length_cons, List.length_nil, Nat.zero_add, Nat.reduceAdd] at hk
  have hr : F_tollbarref31_noughts = some r := by rw [lock_eq] at hF; exact hF
  unfold F_tollbarref31_noughts at hr
  constructor
  (try cbv)
  have gg := guard_inv hr
  have g := gg.1
  replace hr := gg.2
  clear gg
  refine ⟨obl.2 (by first | (simp only [choice_lk, lock_eq, R.len, R.sub]; exact g) | exact g), ?_⟩
  apply Hidden.out
  have e := Option.some.inj hr
  constructor
  refine ⟨_, hF, ?_⟩
  (try cbv); (try simp only [choice_lk, lock_eq, and_self, and_true, true_and]); (try first | exact e | exact e.symm | (and_intros <;> first | assumption | rfl | exact Eq.symm (by assumption)))
end Go.Proofs.YtbkcmpggacbikaaDoor
end
section
/-
  The walk of tollbar/tollbarref31.New (printed by a program of ours).
-/
set_option linter.unusedVariables false
set_option linter.unusedSimpArgs false
namespace Go.Proofs.YtbkcmpggacbikaaDoor
open Go.RowKit
noncomputable def tab_tollbarref31_New : Nat → Option Con := look [(28, con_tollbarref31_noughts)]
set_option maxHeartbeats 20000000 in
set_option maxRecDepth 100000 in
theorem vc_tollbarref31_New (P : Program) (T : Tab P tab_tollbarref31_New) (hm : P.follows .mixedOrders = true) : FnVC P tab_tollbarref31_New ic_13 [.c 2 5 true] 18 con_tollbarref31_New := by
 intro cargs ccks ce hce hob C hk
 apply Hidden.out
 replace hce : con_tollbarref31_New_1 cargs ccks = some ce := hce
 ·unfold con_tollbarref31_New_1 at hce
  split at hce
  rotate_left
  ·cases hce
  obtain rfl := Option.some.inj hce
  rename_i x1
  have hb1 := hob _ (List.mem_singleton.2 rfl)
  have hb2 := obl.1 hb1
  clear hb1 hob hce
  refine hb2.elim fun r hF => ?_
  clear hb2
  simp only [List.length_cons, List.length_nil, Nat.zero_add, Nat.reduceAdd] at hk
  have hr : F_tollbarref31_New x1 = some r := by rw [lock_eq] at hF; exact hF
  unfold F_tollbarref31_New at hr
  constructor
  (try cbv)
  refine LoopOK.iter T (drawOK T hm) (B := (F_tollbarref31_New_L1 x1)) hr (fun | (i1, r1) => ⟨mkFr [(0, (.v (.int .i64 x1))), (2, (.ptr 0 0)), (3, (.ptr 1 0)), (4, (.v (.int .i64 i1)))] 18 0, [(0, .blk 39 [.nsl, (.v (.bool false)), (.v (.int .i64 (0 : Int))), (.v (.int .i64 (0 : Int))), (.v (.int .i64 (0 : Int)))]), (1, .blk 39 [(.wsl 2), (.v (.bool false)), (.v (.int .i64 (-1 : Int))), (.v (.int .i64 (0 : Int))), (.v (.int .i64 (0 : Int)))]), (2, .row (.row 9 .str r1))], 3⟩) ?_ ?_
  ·rintro ⟨u0, u1⟩ e
   simp only [Prod.mk.injEq] at e
   obtain ⟨e0, e1⟩ := e
   refine le_auto hk ?_
   (try cbv); (try simp only [choice_lk, lock_eq, and_self, and_true, true_and]); (try first | exact e | exact e.symm | (and_intros <;> first | assumption | rfl | exact Eq.symm (by assumption)))
  ·clear hr
   intro x bb1 hr ht1
   obtain ⟨i1, r1⟩ := x
   as_aux_lemma =>
   constructor
   unfold F_tollbarref31_New_L1 at hr
   (try dsimp only at hr)
   (try cbv)
   refine sel_intro (fun h => ?_) (fun h => ?_)
   ·have h1 : (ilt i1 x1) = true := by first | exact h | (have h2 := h; simp only [choice_lk, lock_eq] at h2; exact h2) | (simp only [choice_lk, lock_eq] at h; exact h)
    rw [if_pos h1] at hr
    (try cbv)
    have hqe : ∃ qq, F_tollbarref31_noughts = some qq := by
     cases hq : F_tollbarref31_noughts with
     | none => rw [hq] at hr; cases hr
     | some qq => exact ⟨qq, rfl⟩
    refine ⟨(by simp only [choice_lk, lock_eq]; exact hqe), obl.2 (by simp only [choice_lk, lock_eq]; exact hqe), (by rintro (_) _ <;> cbv), ?_⟩
    clear hqe
    intro t4 hx4
    simp only [choice_lk, lock_eq] at hx4
    all_goals (rw [hx4] at hr; dsimp only at hr; constructor; (try cbv))
    have gg := guard_inv hr
    have g := gg.1
    replace hr := gg.2
    clear gg
    refine ⟨obl.2 (by first | (simp only [choice_lk, lock_eq, R.len, R.sub]; exact g) | exact g), ?_⟩
    apply Hidden.out
    obtain rfl := Option.some.inj hr
    constructor
    refine ⟨⟨_, rfl⟩, ?_⟩
    rintro ⟨u0, u1⟩ e
    replace e := Sum.inl.inj e
    simp only [Prod.mk.injEq] at e
    obtain ⟨e0, e1⟩ := e
    refine le_auto hk ?_
    (try cbv); (try simp only [choice_lk, lock_eq, and_self, and_true, true_and]); (try first | exact e | exact e.symm | (and_intros <;> first | assumption | rfl | exact Eq.symm (by assumption)))
   ·have h1 : (ilt i1 x1) = false := by first | exact h | (have h2 := h; simp only [choice_lk, lock_eq] at h2; exact h2) | (simp only [choice_lk, lock_eq] at h; exact h)
    rw [if_neg (by rw [h1]; exact Bool.false_ne_true)] at hr
    (try cbv)
    apply Hidden.out
    obtain rfl := Option.some.inj hr
    have e := ht1 _ rfl
    constructor
    refine ⟨_, hF, ?_⟩
    (try cbv); (try simp only [choice_lk, lock_eq, and_self, and_true, true_and]); (try first | exact e | exact e.symm | (and_intros <;> first | assumption | rfl | exact Eq.symm (by assumption)))
end Go.Proofs.YtbkcmpggacbikaaDoor
end
section
/-
  The walk of tollbar/tollbarref31.Read (printed by a program of ours).
-/
set_option linter.unusedVariables false
set_option linter.unusedSimpArgs false
namespace Go.Proofs.YtbkcmpggacbikaaDoor
open Go.RowKit
noncomputable def tab_tollbarref31_Read : Nat → Option Con := look []
set_option maxHeartbeats 20000000 in
set_option maxRecDepth 100000 in
theorem vc_tollbarref31_Read (P : Program) (T : Tab P tab_tollbarref31_Read) (hm : P.follows .mixedOrders = true) : FnVC P tab_tollbarref31_Read ic_29 [.t 4, .t 5] 22 con_tollbarref31_Read := by
 intro cargs ccks ce hce hob C hk
 apply Hidden.out
 replace hce : con_tollbarref31_Read_1 cargs ccks = some ce := hce
 ·unfold con_tollbarref31_Read_1 at hce
  split at hce
  rotate_left
  ·cases hce
  obtain rfl := Option.some.inj hce
  rename_i b1 x1 x2 x3 x4 r1
  have hb1 := hob _ (List.mem_singleton.2 rfl)
  have hb2 := obl.1 hb1
  clear hb1 hob hce
  refine hb2.elim fun r hF => ?_
  clear hb2
  simp only [List.length_cons, List.length_nil, Nat.zero_add, Nat.reduceAdd] at hk
  have hr : F_tollbarref31_Read b1 x1 x2 x3 x4 r1 = some r := by rw [lock_eq] at hF; exact hF
  unfold F_tollbarref31_Read at hr
  constructor
  (try cbv)
  refine sel_intro (fun h => ?_) (fun h => ?_)
  ·have h1 : b1 = true := by first | exact h | (have h2 := h; simp only [choice_lk, lock_eq] at h2; exact h2) | (simp only [choice_lk, lock_eq] at h; exact h)
   rw [if_pos h1] at hr
   (try cbv)
   apply Hidden.out
   have e := Option.some.inj hr
   obtain ⟨u0, u1⟩ := r
   simp only [Prod.mk.injEq] at e
   obtain ⟨e0, e1⟩ := e
   constructor
   refine ⟨_, hF, ?_⟩
   (try cbv); (try simp only [choice_lk, lock_eq, and_self, and_true, true_and]); (try first | exact e | exact e.symm | (and_intros <;> first | assumption | rfl | exact Eq.symm (by assumption)))
  ·have h1 : b1 = false := by first | exact h | (have h2 := h; simp only [choice_lk, lock_eq] at h2; exact h2) | (simp only [choice_lk, lock_eq] at h; exact h)
   rw [if_neg (by rw [h1]; exact Bool.false_ne_true)] at hr
   (try cbv)
   refine sel_intro (fun h => ?_) (fun h => ?_)
   ·have h1 : (ilt x4 (0 : Int)) = true := by first | exact h | (have h2 := h; simp only [choice_lk, lock_eq] at h2; exact h2) | (simp only [choice_lk, lock_eq] at h; exact h)
    rw [if_pos h1] at hr
    (try cbv)
    apply Hidden.out
    have e := Option.some.inj hr
    obtain ⟨u0, u1⟩ := r
    simp only [Prod.mk.injEq] at e
    obtain ⟨e0, e1⟩ := e
    constructor
    refine ⟨_, hF, ?_⟩
    (try cbv); (try simp only [choice_lk, lock_eq, and_self, and_true, true_and]); (try first | exact e | exact e.symm | (and_intros <;> first | assumption | rfl | exact Eq.symm (by assumption)))
   ·have h1 : (ilt x4 (0 : Int)) = false := by first | exact h | (have h2 := h; simp only [choice_lk, lock_eq] at h2; exact h2) | (simp only [choice_lk, lock_eq] at h; exact h)
    rw [if_neg (by rw [h1]; exact Bool.false_ne_true)] at hr
    (try cbv)
    refine sel_intro (fun h => ?_) (fun h => ?_)
    ·have h1 : (ile (ofN (xlen r1)) x4) = true := by first | exact h | (have h2 := h; simp only [choice_lk, lock_eq] at h2; exact h2) | (simp only [choice_lk, lock_eq] at h; exact h)
     rw [if_pos h1] at hr
     (try cbv)
     apply Hidden.out
     have e := Option.some.inj hr
     obtain ⟨u0, u1⟩ := r
     simp only [Prod.mk.injEq] at e
     obtain ⟨e0, e1⟩ := e
     constructor
     refine ⟨_, hF, ?_⟩
     (try cbv); (try simp only [choice_lk, lock_eq, and_self, and_true, true_and]); (try first | exact e | exact e.symm | (and_intros <;> first | assumption | rfl | exact Eq.symm (by assumption)))
    ·have h1 : (ile (ofN (xlen r1)) x4) = false := by first | exact h | (have h2 := h; simp only [choice_lk, lock_eq] at h2; exact h2) | (simp only [choice_lk, lock_eq] at h; exact h)
     rw [if_neg (by rw [h1]; exact Bool.false_ne_true)] at hr
     (try cbv)
     have gg := guard_inv hr
     have g := gg.1
     replace hr := gg.2
     clear gg
     refine ⟨obl.2 (by first | (simp only [choice_lk, lock_eq, R.len, R.sub]; exact g) | exact g), ?_⟩
     apply Hidden.out
     have e := Option.some.inj hr
     obtain ⟨u0, u1⟩ := r
     simp only [Prod.mk.injEq] at e
     obtain ⟨e0, e1⟩ := e
     constructor
     refine ⟨_, hF, ?_⟩
     (try cbv); (try simp only [choice_lk, lock_eq, and_self, and_true, true_and]); (try first | exact e | exact e.symm | (and_intros <;> first | assumption | rfl | exact Eq.symm (by assumption)))
end Go.Proofs.YtbkcmpggacbikaaDoor
end
section
/-
  The walk of tollbar/tollbarref31.with (printed by a program of ours).
-/
set_option linter.unusedVariables false
set_option linter.unusedSimpArgs false
namespace Go.Proofs.YtbkcmpggacbikaaDoor
open Go.RowKit
noncomputable def tab_tollbarref31_with : Nat → Option Con := look []
set_option maxHeartbeats 20000000 in
set_option maxRecDepth 100000 in
theorem vc_tollbarref31_with (P : Program) (T : Tab P tab_tollbarref31_with) (hm : P.follows .mixedOrders = true) : FnVC P tab_tollbarref31_with ic_30 [.t 6] 16 con_tollbarref31_with := by
 intro cargs ccks ce hce hob C hk
 apply Hidden.out
 replace hce : con_tollbarref31_with_1 cargs ccks = some ce := hce
 ·unfold con_tollbarref31_with_1 at hce
  split at hce
  rotate_left
  ·cases hce
  obtain rfl := Option.some.inj hce
  rename_i r1 x1 s1
  have hb1 := hob _ (List.mem_singleton.2 rfl)
  have hb2 := obl.1 hb1
  clear hb1 hob hce
  refine hb2.elim fun r hF => ?_
  clear hb2
  simp only [List.length_cons, List.length_nil, Nat.zero_add, Nat.reduceAdd] at hk
  have hr : F_tollbarref31_with r1 x1 s1 = some r := by rw [lock_eq] at hF; exact hF
  unfold F_tollbarref31_with at hr
  constructor
  (try cbv)
  have gg := guard_inv hr
  have g := gg.1
  replace hr := gg.2
  clear gg
  refine ⟨obl.2 (by first | (simp only [choice_lk, lock_eq, R.len, R.sub]; exact g) | exact g), ?_⟩
  have gg := guard_inv hr
  have g := gg.1
  replace hr := gg.2
  clear gg
  refine ⟨obl.2 (by first | (simp only [choice_lk, lock_eq, R.len, R.sub]; exact g) | exact g), ?_⟩
  apply Hidden.out
  have e := Option.some.inj hr
  constructor
  refine ⟨_, hF, ?_⟩
  (try cbv); (try simp only [choice_lk, lock_eq, and_self, and_true, true_and]); (try first | exact e | exact e.symm | (and_intros <;> first | assumption | rfl | exact Eq.symm (by assumption)))
end Go.Proofs.YtbkcmpggacbikaaDoor
end
section
/-
  The walk of tollbar/tollbarref31.Write (printed by a program of ours).
-/
set_option linter.unusedVariables false
set_option linter.unusedSimpArgs false
namespace Go.Proofs.YtbkcmpggacbikaaDoor
open Go.RowKit
noncomputable def tab_tollbarref31_Write : Nat → Option Con := look [(29, con_tollbarref31_Read), (30, con_tollbarref31_with)]
set_option maxHeartbeats 20000000 in
set_option maxRecDepth 100000 in
theorem vc_tollbarref31_Write (P : Program) (T : Tab P tab_tollbarref31_Write) (hm : P.follows .mixedOrders = true) : FnVC P tab_tollbarref31_Write ic_14 [.c 6 5 true, .t 7] 70 con_tollbarref31_Write := by
 intro cargs ccks ce hce hob C hk
 apply Hidden.out
 replace hce : con_tollbarref31_Write_1 cargs ccks = some ce := hce
 ·unfold con_tollbarref31_Write_1 at hce
  split at hce
  rotate_left
  ·cases hce
  obtain rfl := Option.some.inj hce
  rename_i b1 x1 x2 x3 x4 s1 r1
  have hb1 := hob _ (List.mem_singleton.2 rfl)
  have hb2 := obl.1 hb1
  clear hb1 hob hce
  refine hb2.elim fun r hF => ?_
  clear hb2
  simp only [List.length_cons, List.length_nil, Nat.zero_add, Nat.reduceAdd] at hk
  have hr : F_tollbarref31_Write b1 x1 x2 x3 x4 s1 r1 = some r := by rw [lock_eq] at hF; exact hF
  unfold F_tollbarref31_Write at hr
  constructor
  (try cbv)
  have hqe : ∃ qq, F_tollbarref31_Read b1 x1 x2 x3 x4 r1 = some qq := by
   cases hq : F_tollbarref31_Read b1 x1 x2 x3 x4 r1 with
   | none => rw [hq] at hr; cases hr
   | some qq => exact ⟨qq, rfl⟩
  refine ⟨obl.2 (by simp only [choice_lk, lock_eq]; exact hqe), (by rintro (⟨_, _⟩) _ <;> cbv), ?_⟩
  clear hqe
  intro qq hx1
  simp only [choice_lk, lock_eq] at hx1
  rcases qq with ⟨t1, y1⟩
  all_goals (rw [hx1] at hr; dsimp only at hr; constructor; (try cbv))
  refine sel_intro (fun h => ?_) (fun h => ?_)
  ·as_aux_lemma =>
   have h1 : (ieq y1 (0 : Int)) = true := by first | exact h | (have h2 := h; simp only [choice_lk, lock_eq] at h2; exact h2) | (simp only [choice_lk, lock_eq] at h; exact h)
   rw [if_pos h1] at hr
   (try cbv)
   refine sel_intro (fun h => ?_) (fun h => ?_)
   ·have h1 : (ieq (ofN (xlen s1)) (64 : Int)) = false := by first | exact (bnot_t.1 h) | (have h2 := (bnot_t.1 h); simp only [choice_lk, lock_eq] at h2; exact h2) | (simp only [choice_lk, lock_eq] at h; exact (bnot_t.1 h))
    rw [if_neg (by rw [h1]; exact Bool.false_ne_true)] at hr
    (try cbv)
    refine sel_intro (fun h => ?_) (fun h => ?_)
    ·have h1 : (ieq (1 : Int) (0 : Int)) = false := by first | exact (bnot_t.1 h) | (have h2 := (bnot_t.1 h); simp only [choice_lk, lock_eq] at h2; exact h2) | (simp only [choice_lk, lock_eq] at h; exact (bnot_t.1 h))
     rw [if_neg (by rw [h1]; exact Bool.false_ne_true)] at hr
     (try cbv)
     apply Hidden.out
     have e := Option.some.inj hr
     obtain ⟨u0, u1, u2, u3, u4, u5⟩ := r
     simp only [Prod.mk.injEq] at e
     obtain ⟨e0, e1, e2, e3, e4, e5⟩ := e
     constructor
     refine ⟨_, hF, ?_⟩
     (try cbv); (try simp only [choice_lk, lock_eq, and_self, and_true, true_and]); (try first | exact e | exact e.symm | (and_intros <;> first | assumption | rfl | exact Eq.symm (by assumption)))
    ·have h1 : (ieq (1 : Int) (0 : Int)) = true := by first | exact (bnot_f.1 h) | (have h2 := (bnot_f.1 h); simp only [choice_lk, lock_eq] at h2; exact h2) | (simp only [choice_lk, lock_eq] at h; exact (bnot_f.1 h))
     rw [if_pos h1] at hr
     (try cbv)
     cases hr
   ·as_aux_lemma =>
    have h1 : (ieq (ofN (xlen s1)) (64 : Int)) = true := by first | exact (bnot_f.1 h) | (have h2 := (bnot_f.1 h); simp only [choice_lk, lock_eq] at h2; exact h2) | (simp only [choice_lk, lock_eq] at h; exact (bnot_f.1 h))
    rw [if_pos h1] at hr
    (try cbv)
    refine sel_intro (fun h => ?_) (fun h => ?_)
    ·have h1 : (ieq y1 (0 : Int)) = false := by first | exact (bnot_t.1 h) | (have h2 := (bnot_t.1 h); simp only [choice_lk, lock_eq] at h2; exact h2) | (simp only [choice_lk, lock_eq] at h; exact (bnot_t.1 h))
     rw [if_neg (by rw [h1]; exact Bool.false_ne_true)] at hr
     (try cbv)
     cases hr
    ·as_aux_lemma =>
     have h1 : (ieq y1 (0 : Int)) = true := by first | exact (bnot_f.1 h) | (have h2 := (bnot_f.1 h); simp only [choice_lk, lock_eq] at h2; exact h2) | (simp only [choice_lk, lock_eq] at h; exact (bnot_f.1 h))
     rw [if_pos h1] at hr
     (try cbv)
     refine sel_intro (fun h => ?_) (fun h => ?_)
     ·have h1 : (ieq x1 (0 : Int)) = true := by first | exact h | (have h2 := h; simp only [choice_lk, lock_eq] at h2; exact h2) | (simp only [choice_lk, lock_eq] at h; exact h)
      rw [if_pos h1] at hr
      (try cbv)
      have gg := guard_inv hr
      have g := gg.1
      replace hr := gg.2
      clear gg
      refine ⟨obl.2 (by first | (simp only [choice_lk, lock_eq, R.len, R.sub]; exact g) | exact g), ?_⟩
      have gg := guard_inv hr
      have g := gg.1
      replace hr := gg.2
      clear gg
      refine ⟨obl.2 (by first | (simp only [choice_lk, lock_eq, R.len, R.sub]; exact g) | exact g), ?_⟩
      have gg := guard_inv hr
      have g := gg.1
      replace hr := gg.2
      clear gg
      refine ⟨obl.2 (by first | (simp only [choice_lk, lock_eq, R.len, R.sub]; exact g) | exact g), ?_⟩
      have gg := guard_inv hr
      have g := gg.1
      replace hr := gg.2
      clear gg
      refine ⟨obl.2 (by first | (simp only [choice_lk, lock_eq, R.len, R.sub]; exact g) | exact g), ?_⟩
      have hqe : ∃ qq, F_tollbarref31_with r1 x4 (cat (lsub s1 0 (toN x2)) (lsub (D.toS (getD r1 (toN x4))) (toN x2) (ndec (xlen (D.toS (getD r1 (toN x4)))) (toN x2)))) = some qq := by
       cases hq : F_tollbarref31_with r1 x4 (cat (lsub s1 0 (toN x2)) (lsub (D.toS (getD r1 (toN x4))) (toN x2) (ndec (xlen (D.toS (getD r1 (toN x4)))) (toN x2)))) with
       | none => rw [hq] at hr; cases hr
       | some qq => exact ⟨qq, rfl⟩
      refine ⟨(by simp only [choice_lk, lock_eq]; exact hqe), obl.2 (by simp only [choice_lk, lock_eq]; exact hqe), (by rintro (_) _ <;> cbv), ?_⟩
      clear hqe
      intro q1 hx2
      simp only [choice_lk, lock_eq] at hx2
      all_goals (rw [hx2] at hr; dsimp only at hr; constructor; (try cbv))
      apply Hidden.out
      have e := Option.some.inj hr
      obtain ⟨u0, u1, u2, u3, u4, u5⟩ := r
      simp only [Prod.mk.injEq] at e
      obtain ⟨e0, e1, e2, e3, e4, e5⟩ := e
      constructor
      refine ⟨_, hF, ?_⟩
      (try cbv); (try simp only [choice_lk, lock_eq, and_self, and_true, true_and]); (try first | exact e | exact e.symm | (and_intros <;> first | assumption | rfl | exact Eq.symm (by assumption)))
     ·have h1 : (ieq x1 (0 : Int)) = false := by first | exact h | (have h2 := h; simp only [choice_lk, lock_eq] at h2; exact h2) | (simp only [choice_lk, lock_eq] at h; exact h)
      rw [if_neg (by rw [h1]; exact Bool.false_ne_true)] at hr
      (try cbv)
      have hqe : ∃ qq, F_tollbarref31_with r1 x4 s1 = some qq := by
       cases hq : F_tollbarref31_with r1 x4 s1 with
       | none => rw [hq] at hr; cases hr
       | some qq => exact ⟨qq, rfl⟩
      refine ⟨obl.2 (by simp only [choice_lk, lock_eq]; exact hqe), (by rintro (_) _ <;> cbv), ?_⟩
      clear hqe
      intro q2 hx3
      simp only [choice_lk, lock_eq] at hx3
      all_goals (rw [hx3] at hr; dsimp only at hr; constructor; (try cbv))
      refine sel_intro (fun h => ?_) (fun h => ?_)
      ·have h1 : (ilt (0 : Int) x1) = true := by first | exact h | (have h2 := h; simp only [choice_lk, lock_eq] at h2; exact h2) | (simp only [choice_lk, lock_eq] at h; exact h)
       rw [if_pos h1] at hr
       (try cbv)
       apply Hidden.out
       have e := Option.some.inj hr
       obtain ⟨u0, u1, u2, u3, u4, u5⟩ := r
       simp only [Prod.mk.injEq] at e
       obtain ⟨e0, e1, e2, e3, e4, e5⟩ := e
       constructor
       refine ⟨_, hF, ?_⟩
       (try cbv); (try simp only [choice_lk, lock_eq, and_self, and_true, true_and]); (try first | exact e | exact e.symm | (and_intros <;> first | assumption | rfl | exact Eq.symm (by assumption)))
      ·have h1 : (ilt (0 : Int) x1) = false := by first | exact h | (have h2 := h; simp only [choice_lk, lock_eq] at h2; exact h2) | (simp only [choice_lk, lock_eq] at h; exact h)
       rw [if_neg (by rw [h1]; exact Bool.false_ne_true)] at hr
       (try cbv)
       apply Hidden.out
       have e := Option.some.inj hr
       obtain ⟨u0, u1, u2, u3, u4, u5⟩ := r
       simp only [Prod.mk.injEq] at e
       obtain ⟨e0, e1, e2, e3, e4, e5⟩ := e
       constructor
       refine ⟨_, hF, ?_⟩
       (try cbv); (try simp only [choice_lk, lock_eq, and_self, and_true, true_and]); (try first | exact e | exact e.symm | (and_intros <;> first | assumption | rfl | exact Eq.symm (by assumption)))
  ·have h1 : (ieq y1 (0 : Int)) = false := by first | exact h | (have h2 := h; simp only [choice_lk, lock_eq] at h2; exact h2) | (simp only [choice_lk, lock_eq] at h; exact h)
   rw [if_neg (by rw [h1]; exact Bool.false_ne_true)] at hr
   (try cbv)
   refine sel_intro (fun h => ?_) (fun h => ?_)
   ·have h1 : (ieq y1 (0 : Int)) = false := by first | exact (bnot_t.1 h) | (have h2 := (bnot_t.1 h); simp only [choice_lk, lock_eq] at h2; exact h2) | (simp only [choice_lk, lock_eq] at h; exact (bnot_t.1 h))
    rw [if_neg (by rw [h1]; exact Bool.false_ne_true)] at hr
    (try cbv)
    apply Hidden.out
    have e := Option.some.inj hr
    obtain ⟨u0, u1, u2, u3, u4, u5⟩ := r
    simp only [Prod.mk.injEq] at e
    obtain ⟨e0, e1, e2, e3, e4, e5⟩ := e
    constructor
    refine ⟨_, hF, ?_⟩
    (try cbv); (try simp only [choice_lk, lock_eq, and_self, and_true, true_and]); (try first | exact e | exact e.symm | (and_intros <;> first | assumption | rfl | exact Eq.symm (by assumption)))
   ·have h1 : (ieq y1 (0 : Int)) = true := by first | exact (bnot_f.1 h) | (have h2 := (bnot_f.1 h); simp only [choice_lk, lock_eq] at h2; exact h2) | (simp only [choice_lk, lock_eq] at h; exact (bnot_f.1 h))
    rw [if_pos h1] at hr
    (try cbv)
    cases hr
end Go.Proofs.YtbkcmpggacbikaaDoor
end
section
/-
  The walk of (*tollbar/block.Device).Arm (printed by a program of ours).
-/
set_option linter.unusedVariables false
set_option linter.unusedSimpArgs false
namespace Go.Proofs.YtbkcmpggacbikaaDoor
open Go.RowKit
noncomputable def tab_block_Device_Arm : Nat → Option Con := look []
set_option maxHeartbeats 20000000 in
set_option maxRecDepth 100000 in
theorem vc_block_Device_Arm (P : Program) (T : Tab P tab_block_Device_Arm) (hm : P.follows .mixedOrders = true) : FnVC P tab_block_Device_Arm ic_15 [.t 6] 28 con_block_Device_Arm := by
 intro cargs ccks ce hce hob C hk
 apply Hidden.out
 replace hce : altC (con_block_Device_Arm_1 cargs ccks) (con_block_Device_Arm_2 cargs ccks) = some ce := hce
 replace hce := altC_inv hce
 rcases hce with hce | hce
 ·unfold con_block_Device_Arm_1 at hce
  split at hce
  rotate_left
  ·cases hce
  obtain rfl := Option.some.inj hce
  rename_i x1 x2
  have hb1 := hob _ (List.mem_singleton.2 rfl)
  have hb2 := obl.1 hb1
  clear hb1 hob hce
  refine hb2.elim fun r hF => ?_
  clear hb2
  simp only [List.length_cons, List.length_nil, Nat.zero_add, Nat.reduceAdd] at hk
  have hr : F_block_Device_Arm x1 x2 = some r := by rw [lock_eq] at hF; exact hF
  unfold F_block_Device_Arm at hr
  constructor
  (try cbv)
  apply Hidden.out
  have e := Option.some.inj hr
  constructor
  refine ⟨_, hF, ?_⟩
  (try cbv); (try simp only [choice_lk, lock_eq, and_self, and_true, true_and]); (try first | exact e | exact e.symm | (and_intros <;> first | assumption | rfl | exact Eq.symm (by assumption)))
 ·unfold con_block_Device_Arm_2 at hce
  split at hce
  rotate_left
  ·cases hce
  obtain rfl := Option.some.inj hce
  rename_i x1 x2 b1 x3 r1
  have hb1 := hob _ (List.mem_singleton.2 rfl)
  have hb2 := obl.1 hb1
  clear hb1 hob hce
  refine hb2.elim fun r hF => ?_
  clear hb2
  simp only [List.length_cons, List.length_nil, Nat.zero_add, Nat.reduceAdd] at hk
  have hr : F_block_Device_Arm_2 x1 x2 b1 x3 r1 = some r := by rw [lock_eq] at hF; exact hF
  unfold F_block_Device_Arm_2 at hr
  constructor
  (try cbv)
  refine sel_intro (fun h => ?_) (fun h => ?_)
  ·have h1 : (ilt x1 (0 : Int)) = true := by first | exact h | (have h2 := h; simp only [choice_lk, lock_eq] at h2; exact h2) | (simp only [choice_lk, lock_eq] at h; exact h)
   rw [if_pos h1] at hr
   (try cbv)
   apply Hidden.out
   have e := Option.some.inj hr
   revert e
   rcases r with _ | _ <;> intro e
   ·replace e := Sum.inl.inj e
    constructor
    refine ⟨_, hF, ?_⟩
    (try cbv); (try simp only [choice_lk, lock_eq, and_self, and_true, true_and]); (try first | exact e | exact e.symm | (and_intros <;> first | assumption | rfl | exact Eq.symm (by assumption)))
   ·cases e
  ·have h1 : (ilt x1 (0 : Int)) = false := by first | exact h | (have h2 := h; simp only [choice_lk, lock_eq] at h2; exact h2) | (simp only [choice_lk, lock_eq] at h; exact h)
   rw [if_neg (by rw [h1]; exact Bool.false_ne_true)] at hr
   (try cbv)
   refine sel_intro (fun h => ?_) (fun h => ?_)
   ·have h1 : (ilt x2 (0 : Int)) = true := by first | exact h | (have h2 := h; simp only [choice_lk, lock_eq] at h2; exact h2) | (simp only [choice_lk, lock_eq] at h; exact h)
    rw [if_pos h1] at hr
    (try cbv)
    apply Hidden.out
    have e := Option.some.inj hr
    revert e
    rcases r with _ | _ <;> intro e
    ·replace e := Sum.inl.inj e
     constructor
     refine ⟨_, hF, ?_⟩
     (try cbv); (try simp only [choice_lk, lock_eq, and_self, and_true, true_and]); (try first | exact e | exact e.symm | (and_intros <;> first | assumption | rfl | exact Eq.symm (by assumption)))
    ·cases e
   ·have h1 : (ilt x2 (0 : Int)) = false := by first | exact h | (have h2 := h; simp only [choice_lk, lock_eq] at h2; exact h2) | (simp only [choice_lk, lock_eq] at h; exact h)
    rw [if_neg (by rw [h1]; exact Bool.false_ne_true)] at hr
    (try cbv)
    refine sel_intro (fun h => ?_) (fun h => ?_)
    ·have h1 : (ilt (64 : Int) x2) = true := by first | exact h | (have h2 := h; simp only [choice_lk, lock_eq] at h2; exact h2) | (simp only [choice_lk, lock_eq] at h; exact h)
     rw [if_pos h1] at hr
     (try cbv)
     apply Hidden.out
     have e := Option.some.inj hr
     revert e
     rcases r with _ | _ <;> intro e
     ·replace e := Sum.inl.inj e
      constructor
      refine ⟨_, hF, ?_⟩
      (try cbv); (try simp only [choice_lk, lock_eq, and_self, and_true, true_and]); (try first | exact e | exact e.symm | (and_intros <;> first | assumption | rfl | exact Eq.symm (by assumption)))
     ·cases e
    ·have h1 : (ilt (64 : Int) x2) = false := by first | exact h | (have h2 := h; simp only [choice_lk, lock_eq] at h2; exact h2) | (simp only [choice_lk, lock_eq] at h; exact h)
     rw [if_neg (by rw [h1]; exact Bool.false_ne_true)] at hr
     (try cbv)
     apply Hidden.out
     have e := Option.some.inj hr
     revert e
     rcases r with _ | _ <;> intro e
     ·cases e
     ·replace e := Sum.inr.inj e
      constructor
      refine ⟨_, hF, ?_⟩
      (try cbv); (try simp only [choice_lk, lock_eq, and_self, and_true, true_and]); (try first | exact e | exact e.symm | (and_intros <;> first | assumption | rfl | exact Eq.symm (by assumption)))
end Go.Proofs.YtbkcmpggacbikaaDoor
end
section
/-
  The walk of tollbar/tollbarref31.Arm (printed by a program of ours).
-/
set_option linter.unusedVariables false
set_option linter.unusedSimpArgs false
namespace Go.Proofs.YtbkcmpggacbikaaDoor
open Go.RowKit
noncomputable def tab_tollbarref31_Arm : Nat → Option Con := look []
set_option maxHeartbeats 20000000 in
set_option maxRecDepth 100000 in
theorem vc_tollbarref31_Arm (P : Program) (T : Tab P tab_tollbarref31_Arm) (hm : P.follows .mixedOrders = true) : FnVC P tab_tollbarref31_Arm ic_16 [.c 6 5 true, .t 7] 24 con_tollbarref31_Arm := by
 intro cargs ccks ce hce hob C hk
 apply Hidden.out
 replace hce : con_tollbarref31_Arm_1 cargs ccks = some ce := hce
 ·unfold con_tollbarref31_Arm_1 at hce
  split at hce
  rotate_left
  ·cases hce
  obtain rfl := Option.some.inj hce
  rename_i b1 x1 x2 x3 x4 x5 r1
  have hb1 := hob _ (List.mem_singleton.2 rfl)
  have hb2 := obl.1 hb1
  clear hb1 hob hce
  refine hb2.elim fun r hF => ?_
  clear hb2
  simp only [List.length_cons, List.length_nil, Nat.zero_add, Nat.reduceAdd] at hk
  have hr : F_tollbarref31_Arm b1 x1 x2 x3 x4 x5 r1 = some r := by rw [lock_eq] at hF; exact hF
  unfold F_tollbarref31_Arm at hr
  constructor
  (try cbv)
  refine sel_intro (fun h => ?_) (fun h => ?_)
  ·have h1 : (ilt x4 (0 : Int)) = true := by first | exact h | (have h2 := h; simp only [choice_lk, lock_eq] at h2; exact h2) | (simp only [choice_lk, lock_eq] at h; exact h)
   rw [if_pos h1] at hr
   (try cbv)
   apply Hidden.out
   have e := Option.some.inj hr
   obtain ⟨u0, u1, u2⟩ := r
   simp only [Prod.mk.injEq] at e
   obtain ⟨e0, e1, e2⟩ := e
   constructor
   refine ⟨_, hF, ?_⟩
   (try cbv); (try simp only [choice_lk, lock_eq, and_self, and_true, true_and]); (try first | exact e | exact e.symm | (and_intros <;> first | assumption | rfl | exact Eq.symm (by assumption)))
  ·have h1 : (ilt x4 (0 : Int)) = false := by first | exact h | (have h2 := h; simp only [choice_lk, lock_eq] at h2; exact h2) | (simp only [choice_lk, lock_eq] at h; exact h)
   rw [if_neg (by rw [h1]; exact Bool.false_ne_true)] at hr
   (try cbv)
   refine sel_intro (fun h => ?_) (fun h => ?_)
   ·have h1 : (ilt x5 (0 : Int)) = true := by first | exact h | (have h2 := h; simp only [choice_lk, lock_eq] at h2; exact h2) | (simp only [choice_lk, lock_eq] at h; exact h)
    rw [if_pos h1] at hr
    (try cbv)
    apply Hidden.out
    have e := Option.some.inj hr
    obtain ⟨u0, u1, u2⟩ := r
    simp only [Prod.mk.injEq] at e
    obtain ⟨e0, e1, e2⟩ := e
    constructor
    refine ⟨_, hF, ?_⟩
    (try cbv); (try simp only [choice_lk, lock_eq, and_self, and_true, true_and]); (try first | exact e | exact e.symm | (and_intros <;> first | assumption | rfl | exact Eq.symm (by assumption)))
   ·have h1 : (ilt x5 (0 : Int)) = false := by first | exact h | (have h2 := h; simp only [choice_lk, lock_eq] at h2; exact h2) | (simp only [choice_lk, lock_eq] at h; exact h)
    rw [if_neg (by rw [h1]; exact Bool.false_ne_true)] at hr
    (try cbv)
    refine sel_intro (fun h => ?_) (fun h => ?_)
    ·have h1 : (ilt (64 : Int) x5) = true := by first | exact h | (have h2 := h; simp only [choice_lk, lock_eq] at h2; exact h2) | (simp only [choice_lk, lock_eq] at h; exact h)
     rw [if_pos h1] at hr
     (try cbv)
     apply Hidden.out
     have e := Option.some.inj hr
     obtain ⟨u0, u1, u2⟩ := r
     simp only [Prod.mk.injEq] at e
     obtain ⟨e0, e1, e2⟩ := e
     constructor
     refine ⟨_, hF, ?_⟩
     (try cbv); (try simp only [choice_lk, lock_eq, and_self, and_true, true_and]); (try first | exact e | exact e.symm | (and_intros <;> first | assumption | rfl | exact Eq.symm (by assumption)))
    ·have h1 : (ilt (64 : Int) x5) = false := by first | exact h | (have h2 := h; simp only [choice_lk, lock_eq] at h2; exact h2) | (simp only [choice_lk, lock_eq] at h; exact h)
     rw [if_neg (by rw [h1]; exact Bool.false_ne_true)] at hr
     (try cbv)
     apply Hidden.out
     have e := Option.some.inj hr
     obtain ⟨u0, u1, u2⟩ := r
     simp only [Prod.mk.injEq] at e
     obtain ⟨e0, e1, e2⟩ := e
     constructor
     refine ⟨_, hF, ?_⟩
     (try cbv); (try simp only [choice_lk, lock_eq, and_self, and_true, true_and]); (try first | exact e | exact e.symm | (and_intros <;> first | assumption | rfl | exact Eq.symm (by assumption)))
end Go.Proofs.YtbkcmpggacbikaaDoor
end
section
/-
  The walk of tollbar/tollbarlaw32.bytes (printed by a program of ours).
-/
set_option linter.unusedVariables false
set_option linter.unusedSimpArgs false
namespace Go.Proofs.YtbkcmpggacbikaaDoor
open Go.RowKit
noncomputable def tab_tollbarlaw32_bytes : Nat → Option Con := look []
set_option maxHeartbeats 20000000 in
set_option maxRecDepth 100000 in
theorem vc_tollbarlaw32_bytes (P : Program) (T : Tab P tab_tollbarlaw32_bytes) (hm : P.follows .mixedOrders = true) : FnVC P tab_tollbarlaw32_bytes ic_18 [.t 2] 26 con_tollbarlaw32_bytes := by
 intro cargs ccks ce hce hob C hk
 apply Hidden.out
 replace hce : con_tollbarlaw32_bytes_1 cargs ccks = some ce := hce
 ·unfold con_tollbarlaw32_bytes_1 at hce
  split at hce
  rotate_left
  ·cases hce
  obtain rfl := Option.some.inj hce
  rename_i x1 x2 x3 x4
  have hb1 := hob _ (List.mem_singleton.2 rfl)
  have hb2 := obl.1 hb1
  clear hb1 hob hce
  refine hb2.elim fun r hF => ?_
  clear hb2
  simp only [List.length_cons, List.length_nil, Nat.zero_add, Nat.reduceAdd] at hk
  have hr : F_tollbarlaw32_bytes x1 x2 x3 x4 = some r := by rw [lock_eq] at hF; exact hF
  unfold F_tollbarlaw32_bytes at hr
  constructor
  (try cbv)
  have gg := guard_inv hr
  have g := gg.1
  replace hr := gg.2
  clear gg
  refine ⟨obl.2 (by first | (simp only [choice_lk, lock_eq, R.len, R.sub]; exact g) | exact g), ?_⟩
  refine LoopOK.iter T (drawOK T hm) (B := (F_tollbarlaw32_bytes_L1 x2)) hr (fun | (i1, s1) => ⟨mkFr [(1, (.ptr 0 0)), (3, (.wsl 1)), (4, (.v (.int .i64 i1)))] 26 0, [(0, .blk 47 [(.v (.int .u16 x1)), (.v (.int .u8 x2)), (.v (.int .u8 x3)), (.v (.int .u8 x4))]), (1, .row (.bs 5 s1))], 2⟩) ?_ ?_
  ·rintro ⟨u0, u1⟩ e
   simp only [Prod.mk.injEq] at e
   obtain ⟨e0, e1⟩ := e
   refine le_auto hk ?_
   (try cbv); (try simp only [choice_lk, lock_eq, and_self, and_true, true_and]); (try first | exact e | exact e.symm | (and_intros <;> first | assumption | rfl | exact Eq.symm (by assumption)))
  ·clear hr
   intro x bb1 hr ht1
   obtain ⟨i1, s1⟩ := x
   as_aux_lemma =>
   constructor
   unfold F_tollbarlaw32_bytes_L1 at hr
   (try dsimp only at hr)
   (try cbv)
   refine sel_intro (fun h => ?_) (fun h => ?_)
   ·have h1 : (ilt i1 (ofN (xlen s1))) = true := by first | exact h | (have h2 := h; simp only [choice_lk, lock_eq] at h2; exact h2) | (simp only [choice_lk, lock_eq] at h; exact h)
    rw [if_pos h1] at hr
    (try cbv)
    have gg := guard_inv hr
    have g := gg.1
    replace hr := gg.2
    clear gg
    refine ⟨obl.2 (by first | (simp only [choice_lk, lock_eq, R.len, R.sub]; exact g) | exact g), ?_⟩
    have gg := guard_inv hr
    have g := gg.1
    replace hr := gg.2
    clear gg
    refine ⟨obl.2 (by first | (simp only [choice_lk, lock_eq, R.len, R.sub]; exact g) | exact g), ?_⟩
    apply Hidden.out
    obtain rfl := Option.some.inj hr
    constructor
    refine ⟨⟨_, rfl⟩, ?_⟩
    rintro ⟨u0, u1⟩ e
    replace e := Sum.inl.inj e
    simp only [Prod.mk.injEq] at e
    obtain ⟨e0, e1⟩ := e
    refine le_auto hk ?_
    (try cbv); (try simp only [choice_lk, lock_eq, and_self, and_true, true_and]); (try first | exact e | exact e.symm | (and_intros <;> first | assumption | rfl | exact Eq.symm (by assumption)))
   ·have h1 : (ilt i1 (ofN (xlen s1))) = false := by first | exact h | (have h2 := h; simp only [choice_lk, lock_eq] at h2; exact h2) | (simp only [choice_lk, lock_eq] at h; exact h)
    rw [if_neg (by rw [h1]; exact Bool.false_ne_true)] at hr
    (try cbv)
    apply Hidden.out
    obtain rfl := Option.some.inj hr
    have e := ht1 _ rfl
    constructor
    refine ⟨_, hF, ?_⟩
    (try cbv); (try simp only [choice_lk, lock_eq, and_self, and_true, true_and]); (try first | exact e | exact e.symm | (and_intros <;> first | assumption | rfl | exact Eq.symm (by assumption)))
end Go.Proofs.YtbkcmpggacbikaaDoor
end
section
/-
  The walk of tollbar/tollbarref01.Value (printed by a program of ours).
-/
set_option linter.unusedVariables false
set_option linter.unusedSimpArgs false
namespace Go.Proofs.YtbkcmpggacbikaaDoor
open Go.RowKit
noncomputable def tab_tollbarref01_Value : Nat → Option Con := look []
set_option maxHeartbeats 20000000 in
set_option maxRecDepth 100000 in
theorem vc_tollbarref01_Value (P : Program) (T : Tab P tab_tollbarref01_Value) (hm : P.follows .mixedOrders = true) : FnVC P tab_tollbarref01_Value ic_49 [.t 2, .t 3] 32 con_tollbarref01_Value := by
 intro cargs ccks ce hce hob C hk
 apply Hidden.out
 replace hce : con_tollbarref01_Value_1 cargs ccks = some ce := hce
 ·unfold con_tollbarref01_Value_1 at hce
  split at hce
  rotate_left
  ·cases hce
  obtain rfl := Option.some.inj hce
  rename_i s1
  have hb1 := hob _ (List.mem_singleton.2 rfl)
  have hb2 := obl.1 hb1
  clear hb1 hob hce
  refine hb2.elim fun r hF => ?_
  clear hb2
  simp only [List.length_cons, List.length_nil, Nat.zero_add, Nat.reduceAdd] at hk
  have hr : F_tollbarref01_Value s1 = some r := by rw [lock_eq] at hF; exact hF
  unfold F_tollbarref01_Value at hr
  constructor
  (try cbv)
  refine LoopOK.iter T (drawOK T hm) (B := F_tollbarref01_Value_L1) hr (fun | s2 => ⟨mkFr [(0, (.str s2))] 32 0, [], 0⟩) ?_ ?_
  ·rintro u0 e
   refine le_auto hk ?_
   (try cbv); (try simp only [choice_lk, lock_eq, and_self, and_true, true_and]); (try first | exact e | exact e.symm | (and_intros <;> first | assumption | rfl | exact Eq.symm (by assumption)))
  ·clear hr
   intro x bb1 hr ht1
   obtain ⟨s2, hz⟩ : ∃ z, z = x := ⟨x, rfl⟩
   subst hz
   as_aux_lemma =>
   constructor
   unfold F_tollbarref01_Value_L1 at hr
   (try dsimp only at hr)
   (try cbv)
   refine sel_intro (fun h => ?_) (fun h => ?_)
   ·as_aux_lemma =>
    have h1 : (seq s2 ([] : List UInt8)) = false := by first | exact (bnot_t.1 h) | (have h2 := (bnot_t.1 h); simp only [choice_lk, lock_eq] at h2; exact h2) | (simp only [choice_lk, lock_eq] at h; exact (bnot_t.1 h))
    rw [if_neg (by rw [h1]; exact Bool.false_ne_true)] at hr
    (try cbv)
    have gg := guard_inv hr
    have g := gg.1
    replace hr := gg.2
    clear gg
    refine ⟨obl.2 (by first | (simp only [choice_lk, lock_eq, R.len, R.sub]; exact g) | exact g), ?_⟩
    refine sel_intro (fun h => ?_) (fun h => ?_)
    ·have h1 : (ieq (getB s2 (toN (0 : Int))) (0 : Int)) = true := by first | exact h | (have h2 := h; simp only [choice_lk, lock_eq] at h2; exact h2) | (simp only [choice_lk, lock_eq] at h; exact h)
     rw [if_pos h1] at hr
     (try cbv)
     have gg := guard_inv hr
     have g := gg.1
     replace hr := gg.2
     clear gg
     refine ⟨obl.2 (by first | (simp only [choice_lk, lock_eq, R.len, R.sub]; exact g) | exact g), ?_⟩
     apply Hidden.out
     obtain rfl := Option.some.inj hr
     constructor
     refine ⟨⟨_, rfl⟩, ?_⟩
     rintro u0 e
     replace e := Sum.inl.inj e
     refine le_auto hk ?_
     (try cbv); (try simp only [choice_lk, lock_eq, and_self, and_true, true_and]); (try first | exact e | exact e.symm | (and_intros <;> first | assumption | rfl | exact Eq.symm (by assumption)))
    ·as_aux_lemma =>
     have h1 : (ieq (getB s2 (toN (0 : Int))) (0 : Int)) = false := by first | exact h | (have h2 := h; simp only [choice_lk, lock_eq] at h2; exact h2) | (simp only [choice_lk, lock_eq] at h; exact h)
     rw [if_neg (by rw [h1]; exact Bool.false_ne_true)] at hr
     (try cbv)
     refine sel_intro (fun h => ?_) (fun h => ?_)
     ·have h1 : (ilt (8 : Int) (ofN (xlen s2))) = true := by first | exact h | (have h2 := h; simp only [choice_lk, lock_eq] at h2; exact h2) | (simp only [choice_lk, lock_eq] at h; exact h)
      rw [if_pos h1] at hr
      (try cbv)
      apply Hidden.out
      obtain rfl := Option.some.inj hr
      have e := ht1 _ rfl
      obtain ⟨u0, u1⟩ := r
      simp only [Prod.mk.injEq] at e
      obtain ⟨e0, e1⟩ := e
      constructor
      refine ⟨_, hF, ?_⟩
      (try cbv); (try simp only [choice_lk, lock_eq, and_self, and_true, true_and]); (try first | exact e | exact e.symm | (and_intros <;> first | assumption | rfl | exact Eq.symm (by assumption)))
     ·have h1 : (ilt (8 : Int) (ofN (xlen s2))) = false := by first | exact h | (have h2 := h; simp only [choice_lk, lock_eq] at h2; exact h2) | (simp only [choice_lk, lock_eq] at h; exact h)
      rw [if_neg (by rw [h1]; exact Bool.false_ne_true)] at hr
      (try cbv)
      apply Hidden.out
      obtain ⟨t, hr2, hw⟩ := map_inv hr
      clear hr
      subst hw
      have e := (ht1 _ rfl).symm
      subst e
      have hr := hr2
      clear hr2
      constructor
      refine LoopOK.iter T (drawOK T hm) (B := (F_tollbarref01_Value_L2 s2)) hr (fun | (i1, i2) => ⟨mkFr [(0, (.str s2)), (4, (.v (.int .u64 i1))), (5, (.v (.int .i64 i2)))] 32 0, [], 0⟩) ?_ ?_
      ·rintro ⟨u0, u1⟩ e
       simp only [Prod.mk.injEq] at e
       obtain ⟨e0, e1⟩ := e
       refine le_auto hk ?_
       (try cbv); (try simp only [choice_lk, lock_eq, and_self, and_true, true_and]); (try first | exact e | exact e.symm | (and_intros <;> first | assumption | rfl | exact Eq.symm (by assumption)))
      ·clear hr
       intro x bb1 hr ht1
       obtain ⟨i1, i2⟩ := x
       as_aux_lemma =>
       constructor
       unfold F_tollbarref01_Value_L2 at hr
       (try dsimp only at hr)
       (try cbv)
       refine sel_intro (fun h => ?_) (fun h => ?_)
       ·have h1 : (ilt i2 (ofN (xlen s2))) = true := by first | exact h | (have h2 := h; simp only [choice_lk, lock_eq] at h2; exact h2) | (simp only [choice_lk, lock_eq] at h; exact h)
        rw [if_pos h1] at hr
        (try cbv)
        have gg := guard_inv hr
        have g := gg.1
        replace hr := gg.2
        clear gg
        refine ⟨obl.2 (by first | (simp only [choice_lk, lock_eq, R.len, R.sub]; exact g) | exact g), ?_⟩
        apply Hidden.out
        obtain rfl := Option.some.inj hr
        constructor
        refine ⟨⟨_, rfl⟩, ?_⟩
        rintro ⟨u0, u1⟩ e
        replace e := Sum.inl.inj e
        simp only [Prod.mk.injEq] at e
        obtain ⟨e0, e1⟩ := e
        refine le_auto hk ?_
        (try cbv); (try simp only [choice_lk, lock_eq, and_self, and_true, true_and]); (try first | exact e | exact e.symm | (and_intros <;> first | assumption | rfl | exact Eq.symm (by assumption)))
       ·have h1 : (ilt i2 (ofN (xlen s2))) = false := by first | exact h | (have h2 := h; simp only [choice_lk, lock_eq] at h2; exact h2) | (simp only [choice_lk, lock_eq] at h; exact h)
        rw [if_neg (by rw [h1]; exact Bool.false_ne_true)] at hr
        (try cbv)
        apply Hidden.out
        obtain rfl := Option.some.inj hr
        have e := ht1 _ rfl
        obtain ⟨u0, u1⟩ := r
        simp only [Prod.mk.injEq] at e
        obtain ⟨e0, e1⟩ := e
        constructor
        refine ⟨_, hF, ?_⟩
        (try cbv); (try simp only [choice_lk, lock_eq, and_self, and_true, true_and]); (try first | exact e | exact e.symm | (and_intros <;> first | assumption | rfl | exact Eq.symm (by assumption)))
   ·as_aux_lemma =>
    have h1 : (seq s2 ([] : List UInt8)) = true := by first | exact (bnot_f.1 h) | (have h2 := (bnot_f.1 h); simp only [choice_lk, lock_eq] at h2; exact h2) | (simp only [choice_lk, lock_eq] at h; exact (bnot_f.1 h))
    rw [if_pos h1] at hr
    (try cbv)
    refine sel_intro (fun h => ?_) (fun h => ?_)
    ·have h1 : (ilt (8 : Int) (ofN (xlen s2))) = true := by first | exact h | (have h2 := h; simp only [choice_lk, lock_eq] at h2; exact h2) | (simp only [choice_lk, lock_eq] at h; exact h)
     rw [if_pos h1] at hr
     (try cbv)
     apply Hidden.out
     obtain rfl := Option.some.inj hr
     have e := ht1 _ rfl
     obtain ⟨u0, u1⟩ := r
     simp only [Prod.mk.injEq] at e
     obtain ⟨e0, e1⟩ := e
     constructor
     refine ⟨_, hF, ?_⟩
     (try cbv); (try simp only [choice_lk, lock_eq, and_self, and_true, true_and]); (try first | exact e | exact e.symm | (and_intros <;> first | assumption | rfl | exact Eq.symm (by assumption)))
    ·have h1 : (ilt (8 : Int) (ofN (xlen s2))) = false := by first | exact h | (have h2 := h; simp only [choice_lk, lock_eq] at h2; exact h2) | (simp only [choice_lk, lock_eq] at h; exact h)
     rw [if_neg (by rw [h1]; exact Bool.false_ne_true)] at hr
     (try cbv)
     apply Hidden.out
     obtain ⟨t, hr2, hw⟩ := map_inv hr
     clear hr
     subst hw
     have e := (ht1 _ rfl).symm
     subst e
     have hr := hr2
     clear hr2
     constructor
     refine LoopOK.iter T (drawOK T hm) (B := (F_tollbarref01_Value_L3 s2)) hr (fun | (i3, i4) => ⟨mkFr [(0, (.str s2)), (4, (.v (.int .u64 i3))), (5, (.v (.int .i64 i4)))] 32 0, [], 0⟩) ?_ ?_
     ·rintro ⟨u0, u1⟩ e
      simp only [Prod.mk.injEq] at e
      obtain ⟨e0, e1⟩ := e
      refine le_auto hk ?_
      (try cbv); (try simp only [choice_lk, lock_eq, and_self, and_true, true_and]); (try first | exact e | exact e.symm | (and_intros <;> first | assumption | rfl | exact Eq.symm (by assumption)))
     ·clear hr
      intro x bb1 hr ht1
      obtain ⟨i3, i4⟩ := x
      as_aux_lemma =>
      constructor
      unfold F_tollbarref01_Value_L3 at hr
      (try dsimp only at hr)
      (try cbv)
      refine sel_intro (fun h => ?_) (fun h => ?_)
      ·have h1 : (ilt i4 (ofN (xlen s2))) = true := by first | exact h | (have h2 := h; simp only [choice_lk, lock_eq] at h2; exact h2) | (simp only [choice_lk, lock_eq] at h; exact h)
       rw [if_pos h1] at hr
       (try cbv)
       have gg := guard_inv hr
       have g := gg.1
       replace hr := gg.2
       clear gg
       refine ⟨obl.2 (by first | (simp only [choice_lk, lock_eq, R.len, R.sub]; exact g) | exact g), ?_⟩
       apply Hidden.out
       obtain rfl := Option.some.inj hr
       constructor
       refine ⟨⟨_, rfl⟩, ?_⟩
       rintro ⟨u0, u1⟩ e
       replace e := Sum.inl.inj e
       simp only [Prod.mk.injEq] at e
       obtain ⟨e0, e1⟩ := e
       refine le_auto hk ?_
       (try cbv); (try simp only [choice_lk, lock_eq, and_self, and_true, true_and]); (try first | exact e | exact e.symm | (and_intros <;> first | assumption | rfl | exact Eq.symm (by assumption)))
      ·have h1 : (ilt i4 (ofN (xlen s2))) = false := by first | exact h | (have h2 := h; simp only [choice_lk, lock_eq] at h2; exact h2) | (simp only [choice_lk, lock_eq] at h; exact h)
       rw [if_neg (by rw [h1]; exact Bool.false_ne_true)] at hr
       (try cbv)
       apply Hidden.out
       obtain rfl := Option.some.inj hr
       have e := ht1 _ rfl
       obtain ⟨u0, u1⟩ := r
       simp only [Prod.mk.injEq] at e
       obtain ⟨e0, e1⟩ := e
       constructor
       refine ⟨_, hF, ?_⟩
       (try cbv); (try simp only [choice_lk, lock_eq, and_self, and_true, true_and]); (try first | exact e | exact e.symm | (and_intros <;> first | assumption | rfl | exact Eq.symm (by assumption)))
end Go.Proofs.YtbkcmpggacbikaaDoor
end
section
/-
  The walk of tollbar/tollbarref32.number (printed by a program of ours).
-/
set_option linter.unusedVariables false
set_option linter.unusedSimpArgs false
namespace Go.Proofs.YtbkcmpggacbikaaDoor
open Go.RowKit
noncomputable def tab_tollbarref32_number : Nat → Option Con := look [(49, con_tollbarref01_Value)]
set_option maxHeartbeats 20000000 in
set_option maxRecDepth 100000 in
theorem vc_tollbarref32_number (P : Program) (T : Tab P tab_tollbarref32_number) (hm : P.follows .mixedOrders = true) : FnVC P tab_tollbarref32_number ic_41 [.t 6] 18 con_tollbarref32_number := by
 intro cargs ccks ce hce hob C hk
 apply Hidden.out
 replace hce : con_tollbarref32_number_1 cargs ccks = some ce := hce
 ·unfold con_tollbarref32_number_1 at hce
  split at hce
  rotate_left
  ·cases hce
  obtain rfl := Option.some.inj hce
  rename_i s1 x1 x2
  have hb1 := hob _ (List.mem_singleton.2 rfl)
  have hb2 := obl.1 hb1
  clear hb1 hob hce
  refine hb2.elim fun r hF => ?_
  clear hb2
  simp only [List.length_cons, List.length_nil, Nat.zero_add, Nat.reduceAdd] at hk
  have hr : F_tollbarref32_number s1 x1 x2 = some r := by rw [lock_eq] at hF; exact hF
  unfold F_tollbarref32_number at hr
  constructor
  (try cbv)
  have gg := guard_inv hr
  have g := gg.1
  replace hr := gg.2
  clear gg
  refine ⟨obl.2 (by first | (simp only [choice_lk, lock_eq, R.len, R.sub]; exact g) | exact g), ?_⟩
  have hqe : ∃ qq, F_tollbarref01_Value (lsub s1 (toN x1) (ndec (toN x2) (toN x1))) = some qq := by
   cases hq : F_tollbarref01_Value (lsub s1 (toN x1) (ndec (toN x2) (toN x1))) with
   | none => rw [hq] at hr; cases hr
   | some qq => exact ⟨qq, rfl⟩
  refine ⟨obl.2 (by simp only [choice_lk, lock_eq]; exact hqe), (by rintro (⟨_, _⟩) _ <;> cbv), ?_⟩
  clear hqe
  intro qq hx1
  simp only [choice_lk, lock_eq] at hx1
  rcases qq with ⟨y1, c1⟩
  all_goals (rw [hx1] at hr; dsimp only at hr; constructor; (try cbv))
  apply Hidden.out
  have e := Option.some.inj hr
  constructor
  refine ⟨_, hF, ?_⟩
  (try cbv); (try simp only [choice_lk, lock_eq, and_self, and_true, true_and]); (try first | exact e | exact e.symm | (and_intros <;> first | assumption | rfl | exact Eq.symm (by assumption)))
end Go.Proofs.YtbkcmpggacbikaaDoor
end
section
/-
  The walk of tollbar/tollbarref04.Sum (printed by a program of ours).
-/
set_option linter.unusedVariables false
set_option linter.unusedSimpArgs false
namespace Go.Proofs.YtbkcmpggacbikaaDoor
open Go.RowKit
noncomputable def tab_tollbarref04_Sum : Nat → Option Con := look []
set_option maxHeartbeats 20000000 in
set_option maxRecDepth 100000 in
theorem vc_tollbarref04_Sum (P : Program) (T : Tab P tab_tollbarref04_Sum) (hm : P.follows .mixedOrders = true) : FnVC P tab_tollbarref04_Sum ic_31 [.t 2] 33 con_tollbarref04_Sum := by
 intro cargs ccks ce hce hob C hk
 apply Hidden.out
 replace hce : con_tollbarref04_Sum_1 cargs ccks = some ce := hce
 ·unfold con_tollbarref04_Sum_1 at hce
  split at hce
  rotate_left
  ·cases hce
  obtain rfl := Option.some.inj hce
  rename_i s1
  have hb1 := hob _ (List.mem_singleton.2 rfl)
  have hb2 := obl.1 hb1
  clear hb1 hob hce
  refine hb2.elim fun r hF => ?_
  clear hb2
  simp only [List.length_cons, List.length_nil, Nat.zero_add, Nat.reduceAdd] at hk
  have hr : F_tollbarref04_Sum s1 = some r := by rw [lock_eq] at hF; exact hF
  unfold F_tollbarref04_Sum at hr
  constructor
  (try cbv)
  refine LoopOK.iter T (drawOK T hm) (B := (F_tollbarref04_Sum_L1 s1)) hr (fun | (i3, i4) => ⟨mkFr [(0, (.str s1)), (3, (.v (.int .u32 i3))), (4, (.v (.int .i64 i4)))] 33 0, [], 0⟩) ?_ ?_
  ·rintro ⟨u0, u1⟩ e
   simp only [Prod.mk.injEq] at e
   obtain ⟨e0, e1⟩ := e
   refine le_auto hk ?_
   (try cbv); (try simp only [choice_lk, lock_eq, and_self, and_true, true_and]); (try first | exact e | exact e.symm | (and_intros <;> first | assumption | rfl | exact Eq.symm (by assumption)))
  ·clear hr
   intro x bb1 hr ht1
   obtain ⟨i3, i4⟩ := x
   as_aux_lemma =>
   constructor
   unfold F_tollbarref04_Sum_L1 at hr
   (try dsimp only at hr)
   (try cbv)
   refine sel_intro (fun h => ?_) (fun h => ?_)
   ·as_aux_lemma =>
    have h1 : (ilt i4 (ofN (xlen s1))) = true := by first | exact h | (have h2 := h; simp only [choice_lk, lock_eq] at h2; exact h2) | (simp only [choice_lk, lock_eq] at h; exact h)
    rw [if_pos h1] at hr
    (try cbv)
    have gg := guard_inv hr
    have g := gg.1
    replace hr := gg.2
    clear gg
    refine ⟨obl.2 (by first | (simp only [choice_lk, lock_eq, R.len, R.sub]; exact g) | exact g), ?_⟩
    refine LoopOK.iter T (drawOK T hm) (B := (F_tollbarref04_Sum_L2 i4)) hr (fun | (i7, i8) => ⟨mkFr [(0, (.str s1)), (3, (.v (.int .u32 i7))), (4, (.v (.int .i64 i4))), (5, (.v (.int .i64 i8)))] 33 0, [], 0⟩) ?_ ?_
    ·rintro ⟨u0, u1⟩ e
     simp only [Prod.mk.injEq] at e
     obtain ⟨e0, e1⟩ := e
     refine le_auto hk ?_
     (try cbv); (try simp only [choice_lk, lock_eq, and_self, and_true, true_and]); (try first | exact e | exact e.symm | (and_intros <;> first | assumption | rfl | exact Eq.symm (by assumption)))
    ·clear hr
     intro x bb2 hr ht2
     obtain ⟨i7, i8⟩ := x
     as_aux_lemma =>
     constructor
     unfold F_tollbarref04_Sum_L2 at hr
     (try dsimp only at hr)
     (try cbv)
     refine sel_intro (fun h => ?_) (fun h => ?_)
     ·have h1 : (ilt i8 (8 : Int)) = true := by first | exact h | (have h2 := h; simp only [choice_lk, lock_eq] at h2; exact h2) | (simp only [choice_lk, lock_eq] at h; exact h)
      rw [if_pos h1] at hr
      (try cbv)
      refine sel_intro (fun h => ?_) (fun h => ?_)
      ·have h1 : (ieq (irem i7 (2 : Int)) (1 : Int)) = true := by first | exact h | (have h2 := h; simp only [choice_lk, lock_eq] at h2; exact h2) | (simp only [choice_lk, lock_eq] at h; exact h)
       rw [if_pos h1] at hr
       (try cbv)
       apply Hidden.out
       obtain rfl := Option.some.inj hr
       constructor
       refine ⟨⟨_, rfl⟩, ?_⟩
       rintro ⟨u0, u1⟩ e
       replace e := Sum.inl.inj e
       simp only [Prod.mk.injEq] at e
       obtain ⟨e0, e1⟩ := e
       refine le_auto hk ?_
       (try cbv); (try simp only [choice_lk, lock_eq, and_self, and_true, true_and]); (try first | exact e | exact e.symm | (and_intros <;> first | assumption | rfl | exact Eq.symm (by assumption)))
      ·have h1 : (ieq (irem i7 (2 : Int)) (1 : Int)) = false := by first | exact h | (have h2 := h; simp only [choice_lk, lock_eq] at h2; exact h2) | (simp only [choice_lk, lock_eq] at h; exact h)
       rw [if_neg (by rw [h1]; exact Bool.false_ne_true)] at hr
       (try cbv)
       apply Hidden.out
       obtain rfl := Option.some.inj hr
       constructor
       refine ⟨⟨_, rfl⟩, ?_⟩
       rintro ⟨u0, u1⟩ e
       replace e := Sum.inl.inj e
       simp only [Prod.mk.injEq] at e
       obtain ⟨e0, e1⟩ := e
       refine le_auto hk ?_
       (try cbv); (try simp only [choice_lk, lock_eq, and_self, and_true, true_and]); (try first | exact e | exact e.symm | (and_intros <;> first | assumption | rfl | exact Eq.symm (by assumption)))
     ·have h1 : (ilt i8 (8 : Int)) = false := by first | exact h | (have h2 := h; simp only [choice_lk, lock_eq] at h2; exact h2) | (simp only [choice_lk, lock_eq] at h; exact h)
      rw [if_neg (by rw [h1]; exact Bool.false_ne_true)] at hr
      (try cbv)
      apply Hidden.out
      obtain rfl := Option.some.inj hr
      have e := (ht2 _ rfl).symm
      subst e
      constructor
      refine ⟨⟨_, rfl⟩, ?_⟩
      rintro ⟨u0, u1⟩ e
      replace e := Sum.inl.inj e
      simp only [Prod.mk.injEq] at e
      obtain ⟨e0, e1⟩ := e
      refine le_auto hk ?_
      (try cbv); (try simp only [choice_lk, lock_eq, and_self, and_true, true_and]); (try first | exact e | exact e.symm | (and_intros <;> first | assumption | rfl | exact Eq.symm (by assumption)))
   ·have h1 : (ilt i4 (ofN (xlen s1))) = false := by first | exact h | (have h2 := h; simp only [choice_lk, lock_eq] at h2; exact h2) | (simp only [choice_lk, lock_eq] at h; exact h)
    rw [if_neg (by rw [h1]; exact Bool.false_ne_true)] at hr
    (try cbv)
    apply Hidden.out
    obtain rfl := Option.some.inj hr
    have e := ht1 _ rfl
    constructor
    refine ⟨_, hF, ?_⟩
    (try cbv); (try simp only [choice_lk, lock_eq, and_self, and_true, true_and]); (try first | exact e | exact e.symm | (and_intros <;> first | assumption | rfl | exact Eq.symm (by assumption)))
end Go.Proofs.YtbkcmpggacbikaaDoor
end
section
/-
  The walk of tollbar/tollbarref32.area (printed by a program of ours).
-/
set_option linter.unusedVariables false
set_option linter.unusedSimpArgs false
namespace Go.Proofs.YtbkcmpggacbikaaDoor
open Go.RowKit
noncomputable def tab_tollbarref32_area : Nat → Option Con := look [(41, con_tollbarref32_number), (31, con_tollbarref04_Sum)]
set_option maxHeartbeats 20000000 in
set_option maxRecDepth 100000 in
theorem vc_tollbarref32_area (P : Program) (T : Tab P tab_tollbarref32_area) (hm : P.follows .mixedOrders = true) : FnVC P tab_tollbarref32_area ic_33 [.t 4, .t 5] 80 con_tollbarref32_area := by
 intro cargs ccks ce hce hob C hk
 apply Hidden.out
 replace hce : con_tollbarref32_area_1 cargs ccks = some ce := hce
 ·unfold con_tollbarref32_area_1 at hce
  split at hce
  rotate_left
  ·cases hce
  obtain rfl := Option.some.inj hce
  rename_i b1 x1 x2 x3 x4 r1
  have hb1 := hob _ (List.mem_singleton.2 rfl)
  have hb2 := obl.1 hb1
  clear hb1 hob hce
  refine hb2.elim fun r hF => ?_
  clear hb2
  simp only [List.length_cons, List.length_nil, Nat.zero_add, Nat.reduceAdd] at hk
  have hr : F_tollbarref32_area b1 x1 x2 x3 x4 r1 = some r := by rw [lock_eq] at hF; exact hF
  unfold F_tollbarref32_area at hr
  constructor
  (try cbv)
  have gg := guard_inv hr
  have g := gg.1
  replace hr := gg.2
  clear gg
  refine ⟨obl.2 (by first | (simp only [choice_lk, lock_eq, R.len, R.sub]; exact g) | exact g), ?_⟩
  have hqe : ∃ qq, F_tollbarref32_number (D.toS (getD r1 (toN (imul .i64 (130 : Int) x4)))) (0 : Int) (8 : Int) = some qq := by
   cases hq : F_tollbarref32_number (D.toS (getD r1 (toN (imul .i64 (130 : Int) x4)))) (0 : Int) (8 : Int) with
   | none => rw [hq] at hr; cases hr
   | some qq => exact ⟨qq, rfl⟩
  refine ⟨obl.2 (by simp only [choice_lk, lock_eq]; exact hqe), (by rintro (_) _ <;> cbv), ?_⟩
  clear hqe
  intro y1 hx1
  simp only [choice_lk, lock_eq] at hx1
  all_goals (rw [hx1] at hr; dsimp only at hr; constructor; (try cbv))
  have hqe : ∃ qq, F_tollbarref32_number (D.toS (getD r1 (toN (imul .i64 (130 : Int) x4)))) (8 : Int) (12 : Int) = some qq := by
   cases hq : F_tollbarref32_number (D.toS (getD r1 (toN (imul .i64 (130 : Int) x4)))) (8 : Int) (12 : Int) with
   | none => rw [hq] at hr; cases hr
   | some qq => exact ⟨qq, rfl⟩
  refine ⟨obl.2 (by simp only [choice_lk, lock_eq]; exact hqe), (by rintro (_) _ <;> cbv), ?_⟩
  clear hqe
  intro y2 hx2
  simp only [choice_lk, lock_eq] at hx2
  all_goals (rw [hx2] at hr; dsimp only at hr; constructor; (try cbv))
  rcases Bool.eq_false_or_eq_true (ieq y1 (0 : Int)) with h1 | h1
  ·rw [if_pos h1] at hr
   have h2 : (lock ieq y1 (0 : Int)) = true := by simp only [lock_eq]; exact h1
   simp only [relock, h2]
   (try cbv)
   apply Hidden.out
   have e := Option.some.inj hr
   obtain ⟨u0, u1⟩ := r
   simp only [Prod.mk.injEq] at e
   obtain ⟨e0, e1⟩ := e
   constructor
   refine ⟨_, hF, ?_⟩
   (try cbv); (try simp only [choice_lk, lock_eq, and_self, and_true, true_and]); (try first | exact e | exact e.symm | (and_intros <;> first | assumption | rfl | exact Eq.symm (by assumption)))
  ·rw [if_neg (by rw [h1]; exact Bool.false_ne_true)] at hr
   have h2 : (lock ieq y1 (0 : Int)) = false := by simp only [lock_eq]; exact h1
   simp only [relock, h2]
   (try cbv)
   have hqe : ∃ qq, F_tollbarref32_number (D.toS (getD r1 (toN (imul .i64 (130 : Int) x4)))) (56 : Int) (64 : Int) = some qq := by
    cases hq : F_tollbarref32_number (D.toS (getD r1 (toN (imul .i64 (130 : Int) x4)))) (56 : Int) (64 : Int) with
    | none => rw [hq] at hr; cases hr
    | some qq => exact ⟨qq, rfl⟩
   refine ⟨(by simp only [choice_lk, lock_eq]; exact hqe), obl.2 (by simp only [choice_lk, lock_eq]; exact hqe), (by rintro (_) _ <;> cbv), ?_⟩
   clear hqe
   intro y3 hx3
   simp only [choice_lk, lock_eq] at hx3
   all_goals (rw [hx3] at hr; dsimp only at hr; constructor; (try cbv))
   rcases Bool.eq_false_or_eq_true (ieq y1 y3) with h1 | h1
   ·rw [if_pos h1] at hr
    have h2 : (lock ieq y1 y3) = true := by simp only [lock_eq]; exact h1
    simp only [relock, h2]
    (try cbv)
    rcases Bool.eq_false_or_eq_true (ieq (iconv .i64 (irem y1 (2 : Int))) x4) with h1 | h1
    ·rw [if_pos h1] at hr
     have h2 : (lock ieq (lock iconv .i64 (lock irem y1 (2 : Int))) x4) = true := by simp only [lock_eq]; exact h1
     simp only [relock, h2]
     (try cbv)
     rcases Bool.eq_false_or_eq_true (ilt (8192 : Int) y2) with h1 | h1
     ·rw [if_pos h1] at hr
      have h2 : (lock ilt (8192 : Int) y2) = true := by simp only [lock_eq]; exact h1
      simp only [relock, h2]
      (try cbv)
      apply Hidden.out
      have e := Option.some.inj hr
      obtain ⟨u0, u1⟩ := r
      simp only [Prod.mk.injEq] at e
      obtain ⟨e0, e1⟩ := e
      constructor
      refine ⟨_, hF, ?_⟩
      (try cbv); (try simp only [choice_lk, lock_eq, and_self, and_true, true_and]); (try first | exact e | exact e.symm | (and_intros <;> first | assumption | rfl | exact Eq.symm (by assumption)))
     ·rw [if_neg (by rw [h1]; exact Bool.false_ne_true)] at hr
      have h2 : (lock ilt (8192 : Int) y2) = false := by simp only [lock_eq]; exact h1
      simp only [relock, h2]
      (try cbv)
      have gg := guard_inv hr
      have g := gg.1
      replace hr := gg.2
      clear gg
      refine ⟨obl.2 (by first | (simp only [choice_lk, lock_eq, R.len, R.sub]; exact g) | exact g), ?_⟩
      have gg := guard_inv hr
      have g := gg.1
      replace hr := gg.2
      clear gg
      refine ⟨obl.2 (by first | (simp only [choice_lk, lock_eq, R.len, R.sub]; exact g) | exact g), ?_⟩
      refine sel_intro (fun h => ?_) (fun h => ?_)
      ·have h1 : (seq (lsub (D.toS (getD r1 (toN (imul .i64 (130 : Int) x4)))) (toN (16 : Int)) (ndec (toN (56 : Int)) (toN (16 : Int)))) (@lrep UInt8 (toN (40 : Int)) (0 : UInt8))) = false := by first | exact (bnot_t.1 h) | (have h2 := (bnot_t.1 h); simp only [choice_lk, lock_eq] at h2; exact h2) | (simp only [choice_lk, lock_eq] at h; exact (bnot_t.1 h))
       rw [if_neg (by rw [h1]; exact Bool.false_ne_true)] at hr
       (try cbv)
       apply Hidden.out
       have e := Option.some.inj hr
       obtain ⟨u0, u1⟩ := r
       simp only [Prod.mk.injEq] at e
       obtain ⟨e0, e1⟩ := e
       constructor
       refine ⟨_, hF, ?_⟩
       (try cbv); (try simp only [choice_lk, lock_eq, and_self, and_true, true_and]); (try first | exact e | exact e.symm | (and_intros <;> first | assumption | rfl | exact Eq.symm (by assumption)))
      ·as_aux_lemma =>
       have h1 : (seq (lsub (D.toS (getD r1 (toN (imul .i64 (130 : Int) x4)))) (toN (16 : Int)) (ndec (toN (56 : Int)) (toN (16 : Int)))) (@lrep UInt8 (toN (40 : Int)) (0 : UInt8))) = true := by first | exact (bnot_f.1 h) | (have h2 := (bnot_f.1 h); simp only [choice_lk, lock_eq] at h2; exact h2) | (simp only [choice_lk, lock_eq] at h; exact (bnot_f.1 h))
       rw [if_pos h1] at hr
       (try cbv)
       refine LoopOK.iter T (drawOK T hm) (B := (F_tollbarref32_area_L1 y2 x4 r1 y1)) hr (fun | (s1, i1) => ⟨mkFr [(1, (.v (.int .i64 x4))), (2, (.ptr 1 0)), (6, (.str (lock D.toS (lock getD r1 (lock toN (lock imul .i64 (130 : Int) x4)))))), (7, (.v (.int .u64 y1))), (8, (.v (.int .u64 y2))), (9, (.str s1)), (10, (.v (.int .i64 i1)))] 80 0, [(0, .row (.row 9 .str r1)), (1, .blk 39 [(.wsl 0), (.v (.bool b1)), (.v (.int .i64 x1)), (.v (.int .i64 x2)), (.v (.int .i64 x3))])], 2⟩) ?_ ?_
       ·rintro ⟨u0, u1⟩ e
        simp only [Prod.mk.injEq] at e
        obtain ⟨e0, e1⟩ := e
        refine le_auto hk ?_
        (try cbv); (try simp only [choice_lk, lock_eq, and_self, and_true, true_and]); (try first | exact e | exact e.symm | (and_intros <;> first | assumption | rfl | exact Eq.symm (by assumption)))
       ·clear hr
        intro x bb1 hr ht1
        obtain ⟨s1, i1⟩ := x
        as_aux_lemma =>
        constructor
        unfold F_tollbarref32_area_L1 at hr
        (try dsimp only at hr)
        (try cbv)
        refine sel_intro (fun h => ?_) (fun h => ?_)
        ·as_aux_lemma =>
         have h1 : (ilt i1 (128 : Int)) = true := by first | exact h | (have h2 := h; simp only [choice_lk, lock_eq] at h2; exact h2) | (simp only [choice_lk, lock_eq] at h; exact h)
         rw [if_pos h1] at hr
         (try cbv)
         refine sel_intro (fun h => ?_) (fun h => ?_)
         ·have h1 : (ilt (iconv .u64 (imul .i64 (64 : Int) i1)) y2) = true := by first | exact h | (have h2 := h; simp only [choice_lk, lock_eq] at h2; exact h2) | (simp only [choice_lk, lock_eq] at h; exact h)
          rw [if_pos h1] at hr
          (try cbv)
          have gg := guard_inv hr
          have g := gg.1
          replace hr := gg.2
          clear gg
          refine ⟨obl.2 (by first | (simp only [choice_lk, lock_eq, R.len, R.sub]; exact g) | exact g), ?_⟩
          have gg := guard_inv hr
          have g := gg.1
          replace hr := gg.2
          clear gg
          refine ⟨obl.2 (by first | (simp only [choice_lk, lock_eq, R.len, R.sub]; exact g) | exact g), ?_⟩
          apply Hidden.out
          obtain rfl := Option.some.inj hr
          constructor
          refine ⟨⟨_, rfl⟩, ?_⟩
          rintro ⟨u0, u1⟩ e
          replace e := Sum.inl.inj e
          simp only [Prod.mk.injEq] at e
          obtain ⟨e0, e1⟩ := e
          refine le_auto hk ?_
          (try cbv); (try simp only [choice_lk, lock_eq, and_self, and_true, true_and]); (try first | exact e | exact e.symm | (and_intros <;> first | assumption | rfl | exact Eq.symm (by assumption)))
         ·have h1 : (ilt (iconv .u64 (imul .i64 (64 : Int) i1)) y2) = false := by first | exact h | (have h2 := h; simp only [choice_lk, lock_eq] at h2; exact h2) | (simp only [choice_lk, lock_eq] at h; exact h)
          rw [if_neg (by rw [h1]; exact Bool.false_ne_true)] at hr
          (try cbv)
          have gg := guard_inv hr
          have g := gg.1
          replace hr := gg.2
          clear gg
          refine ⟨obl.2 (by first | (simp only [choice_lk, lock_eq, R.len, R.sub]; exact g) | exact g), ?_⟩
          have hqe : ∃ qq, F_tollbarref04_Sum (lsub s1 0 (toN y2)) = some qq := by
           cases hq : F_tollbarref04_Sum (lsub s1 0 (toN y2)) with
           | none => rw [hq] at hr; cases hr
           | some qq => exact ⟨qq, rfl⟩
          refine ⟨obl.2 (by simp only [choice_lk, lock_eq]; exact hqe), (by rintro (_) _ <;> cbv), ?_⟩
          clear hqe
          intro y4 hx4
          simp only [choice_lk, lock_eq] at hx4
          all_goals (rw [hx4] at hr; dsimp only at hr; constructor; (try cbv))
          have hqe : ∃ qq, F_tollbarref32_number (D.toS (getD r1 (toN (imul .i64 (130 : Int) x4)))) (12 : Int) (16 : Int) = some qq := by
           cases hq : F_tollbarref32_number (D.toS (getD r1 (toN (imul .i64 (130 : Int) x4)))) (12 : Int) (16 : Int) with
           | none => rw [hq] at hr; cases hr
           | some qq => exact ⟨qq, rfl⟩
          refine ⟨obl.2 (by simp only [choice_lk, lock_eq]; exact hqe), (by rintro (_) _ <;> cbv), ?_⟩
          clear hqe
          intro y5 hx5
          simp only [choice_lk, lock_eq] at hx5
          all_goals (rw [hx5] at hr; dsimp only at hr; constructor; (try cbv))
          refine sel_intro (fun h => ?_) (fun h => ?_)
          ·have h1 : (ieq (iconv .u64 y4) y5) = false := by first | exact (bnot_t.1 h) | (have h2 := (bnot_t.1 h); simp only [choice_lk, lock_eq] at h2; exact h2) | (simp only [choice_lk, lock_eq] at h; exact (bnot_t.1 h))
           rw [if_neg (by rw [h1]; exact Bool.false_ne_true)] at hr
           (try cbv)
           apply Hidden.out
           obtain rfl := Option.some.inj hr
           have e := ht1 _ rfl
           obtain ⟨u0, u1⟩ := r
           simp only [Prod.mk.injEq] at e
           obtain ⟨e0, e1⟩ := e
           constructor
           refine ⟨_, hF, ?_⟩
           (try cbv); (try simp only [choice_lk, lock_eq, and_self, and_true, true_and]); (try first | exact e | exact e.symm | (and_intros <;> first | assumption | rfl | exact Eq.symm (by assumption)))
          ·have h1 : (ieq (iconv .u64 y4) y5) = true := by first | exact (bnot_f.1 h) | (have h2 := (bnot_f.1 h); simp only [choice_lk, lock_eq] at h2; exact h2) | (simp only [choice_lk, lock_eq] at h; exact (bnot_f.1 h))
           rw [if_pos h1] at hr
           (try cbv)
           apply Hidden.out
           obtain rfl := Option.some.inj hr
           have e := ht1 _ rfl
           obtain ⟨u0, u1⟩ := r
           simp only [Prod.mk.injEq] at e
           obtain ⟨e0, e1⟩ := e
           constructor
           refine ⟨_, hF, ?_⟩
           (try cbv); (try simp only [choice_lk, lock_eq, and_self, and_true, true_and]); (try first | exact e | exact e.symm | (and_intros <;> first | assumption | rfl | exact Eq.symm (by assumption)))
        ·have h1 : (ilt i1 (128 : Int)) = false := by first | exact h | (have h2 := h; simp only [choice_lk, lock_eq] at h2; exact h2) | (simp only [choice_lk, lock_eq] at h; exact h)
         rw [if_neg (by rw [h1]; exact Bool.false_ne_true)] at hr
         (try cbv)
         have gg := guard_inv hr
         have g := gg.1
         replace hr := gg.2
         clear gg
         refine ⟨obl.2 (by first | (simp only [choice_lk, lock_eq, R.len, R.sub]; exact g) | exact g), ?_⟩
         have hqe : ∃ qq, F_tollbarref04_Sum (lsub s1 0 (toN y2)) = some qq := by
          cases hq : F_tollbarref04_Sum (lsub s1 0 (toN y2)) with
          | none => rw [hq] at hr; cases hr
          | some qq => exact ⟨qq, rfl⟩
         refine ⟨obl.2 (by simp only [choice_lk, lock_eq]; exact hqe), (by rintro (_) _ <;> cbv), ?_⟩
         clear hqe
         intro y6 hx6
         simp only [choice_lk, lock_eq] at hx6
         all_goals (rw [hx6] at hr; dsimp only at hr; constructor; (try cbv))
         have hqe : ∃ qq, F_tollbarref32_number (D.toS (getD r1 (toN (imul .i64 (130 : Int) x4)))) (12 : Int) (16 : Int) = some qq := by
          cases hq : F_tollbarref32_number (D.toS (getD r1 (toN (imul .i64 (130 : Int) x4)))) (12 : Int) (16 : Int) with
          | none => rw [hq] at hr; cases hr
          | some qq => exact ⟨qq, rfl⟩
         refine ⟨obl.2 (by simp only [choice_lk, lock_eq]; exact hqe), (by rintro (_) _ <;> cbv), ?_⟩
         clear hqe
         intro y7 hx7
         simp only [choice_lk, lock_eq] at hx7
         all_goals (rw [hx7] at hr; dsimp only at hr; constructor; (try cbv))
         refine sel_intro (fun h => ?_) (fun h => ?_)
         ·have h1 : (ieq (iconv .u64 y6) y7) = false := by first | exact (bnot_t.1 h) | (have h2 := (bnot_t.1 h); simp only [choice_lk, lock_eq] at h2; exact h2) | (simp only [choice_lk, lock_eq] at h; exact (bnot_t.1 h))
          rw [if_neg (by rw [h1]; exact Bool.false_ne_true)] at hr
          (try cbv)
          apply Hidden.out
          obtain rfl := Option.some.inj hr
          have e := ht1 _ rfl
          obtain ⟨u0, u1⟩ := r
          simp only [Prod.mk.injEq] at e
          obtain ⟨e0, e1⟩ := e
          constructor
          refine ⟨_, hF, ?_⟩
          (try cbv); (try simp only [choice_lk, lock_eq, and_self, and_true, true_and]); (try first | exact e | exact e.symm | (and_intros <;> first | assumption | rfl | exact Eq.symm (by assumption)))
         ·have h1 : (ieq (iconv .u64 y6) y7) = true := by first | exact (bnot_f.1 h) | (have h2 := (bnot_f.1 h); simp only [choice_lk, lock_eq] at h2; exact h2) | (simp only [choice_lk, lock_eq] at h; exact (bnot_f.1 h))
          rw [if_pos h1] at hr
          (try cbv)
          apply Hidden.out
          obtain rfl := Option.some.inj hr
          have e := ht1 _ rfl
          obtain ⟨u0, u1⟩ := r
          simp only [Prod.mk.injEq] at e
          obtain ⟨e0, e1⟩ := e
          constructor
          refine ⟨_, hF, ?_⟩
          (try cbv); (try simp only [choice_lk, lock_eq, and_self, and_true, true_and]); (try first | exact e | exact e.symm | (and_intros <;> first | assumption | rfl | exact Eq.symm (by assumption)))
    ·rw [if_neg (by rw [h1]; exact Bool.false_ne_true)] at hr
     have h2 : (lock ieq (lock iconv .i64 (lock irem y1 (2 : Int))) x4) = false := by simp only [lock_eq]; exact h1
     simp only [relock, h2]
     (try cbv)
     apply Hidden.out
     have e := Option.some.inj hr
     obtain ⟨u0, u1⟩ := r
     simp only [Prod.mk.injEq] at e
     obtain ⟨e0, e1⟩ := e
     constructor
     refine ⟨_, hF, ?_⟩
     (try cbv); (try simp only [choice_lk, lock_eq, and_self, and_true, true_and]); (try first | exact e | exact e.symm | (and_intros <;> first | assumption | rfl | exact Eq.symm (by assumption)))
   ·rw [if_neg (by rw [h1]; exact Bool.false_ne_true)] at hr
    have h2 : (lock ieq y1 y3) = false := by simp only [lock_eq]; exact h1
    simp only [relock, h2]
    (try cbv)
    apply Hidden.out
    have e := Option.some.inj hr
    obtain ⟨u0, u1⟩ := r
    simp only [Prod.mk.injEq] at e
    obtain ⟨e0, e1⟩ := e
    constructor
    refine ⟨_, hF, ?_⟩
    (try cbv); (try simp only [choice_lk, lock_eq, and_self, and_true, true_and]); (try first | exact e | exact e.symm | (and_intros <;> first | assumption | rfl | exact Eq.symm (by assumption)))
end Go.Proofs.YtbkcmpggacbikaaDoor
end
section
/-
  The walk of tollbar/tollbarref32.Load (printed by a program of ours).
-/
set_option linter.unusedVariables false
set_option linter.unusedSimpArgs false
namespace Go.Proofs.YtbkcmpggacbikaaDoor
open Go.RowKit
noncomputable def tab_tollbarref32_Load : Nat → Option Con := look [(33, con_tollbarref32_area)]
set_option maxHeartbeats 20000000 in
set_option maxRecDepth 100000 in
theorem vc_tollbarref32_Load (P : Program) (T : Tab P tab_tollbarref32_Load) (hm : P.follows .mixedOrders = true) : FnVC P tab_tollbarref32_Load ic_19 [.t 2, .t 3, .t 4] 36 con_tollbarref32_Load := by
 intro cargs ccks ce hce hob C hk
 apply Hidden.out
 replace hce : con_tollbarref32_Load_1 cargs ccks = some ce := hce
 ·unfold con_tollbarref32_Load_1 at hce
  split at hce
  rotate_left
  ·cases hce
  obtain rfl := Option.some.inj hce
  rename_i b1 x1 x2 x3 r1
  have hb1 := hob _ (List.mem_singleton.2 rfl)
  have hb2 := obl.1 hb1
  clear hb1 hob hce
  refine hb2.elim fun r hF => ?_
  clear hb2
  simp only [List.length_cons, List.length_nil, Nat.zero_add, Nat.reduceAdd] at hk
  have hr : F_tollbarref32_Load b1 x1 x2 x3 r1 = some r := by rw [lock_eq] at hF; exact hF
  unfold F_tollbarref32_Load at hr
  constructor
  (try cbv)
  refine sel_intro (fun h => ?_) (fun h => ?_)
  ·have h1 : (ilt (ofN (xlen r1)) (260 : Int)) = true := by first | exact h | (have h2 := h; simp only [choice_lk, lock_eq] at h2; exact h2) | (simp only [choice_lk, lock_eq] at h; exact h)
   rw [if_pos h1] at hr
   (try cbv)
   apply Hidden.out
   have e := Option.some.inj hr
   obtain ⟨u0, u1, u2⟩ := r
   simp only [Prod.mk.injEq] at e
   obtain ⟨e0, e1, e2⟩ := e
   constructor
   refine ⟨_, hF, ?_⟩
   (try cbv); (try simp only [choice_lk, lock_eq, and_self, and_true, true_and]); (try first | exact e | exact e.symm | (and_intros <;> first | assumption | rfl | exact Eq.symm (by assumption)))
  ·as_aux_lemma =>
   have h1 : (ilt (ofN (xlen r1)) (260 : Int)) = false := by first | exact h | (have h2 := h; simp only [choice_lk, lock_eq] at h2; exact h2) | (simp only [choice_lk, lock_eq] at h; exact h)
   rw [if_neg (by rw [h1]; exact Bool.false_ne_true)] at hr
   (try cbv)
   refine sel_intro (fun h => ?_) (fun h => ?_)
   ·have h1 : b1 = true := by first | exact h | (have h2 := h; simp only [choice_lk, lock_eq] at h2; exact h2) | (simp only [choice_lk, lock_eq] at h; exact h)
    rw [if_pos h1] at hr
    (try cbv)
    apply Hidden.out
    have e := Option.some.inj hr
    obtain ⟨u0, u1, u2⟩ := r
    simp only [Prod.mk.injEq] at e
    obtain ⟨e0, e1, e2⟩ := e
    constructor
    refine ⟨_, hF, ?_⟩
    (try cbv); (try simp only [choice_lk, lock_eq, and_self, and_true, true_and]); (try first | exact e | exact e.symm | (and_intros <;> first | assumption | rfl | exact Eq.symm (by assumption)))
   ·have h1 : b1 = false := by first | exact h | (have h2 := h; simp only [choice_lk, lock_eq] at h2; exact h2) | (simp only [choice_lk, lock_eq] at h; exact h)
    rw [if_neg (by rw [h1]; exact Bool.false_ne_true)] at hr
    (try cbv)
    have hqe : ∃ qq, F_tollbarref32_area b1 x1 x2 x3 (0 : Int) r1 = some qq := by
     cases hq : F_tollbarref32_area b1 x1 x2 x3 (0 : Int) r1 with
     | none => rw [hq] at hr; cases hr
     | some qq => exact ⟨qq, rfl⟩
    refine ⟨obl.2 (by simp only [choice_lk, lock_eq]; exact hqe), (by rintro (⟨_, _⟩) _ <;> cbv), ?_⟩
    clear hqe
    intro qq hx1
    simp only [choice_lk, lock_eq] at hx1
    rcases qq with ⟨t1, y1⟩
    all_goals (rw [hx1] at hr; dsimp only at hr; constructor; (try cbv))
    have hqe : ∃ qq, F_tollbarref32_area b1 x1 x2 x3 (1 : Int) r1 = some qq := by
     cases hq : F_tollbarref32_area b1 x1 x2 x3 (1 : Int) r1 with
     | none => rw [hq] at hr; cases hr
     | some qq => exact ⟨qq, rfl⟩
    refine ⟨obl.2 (by simp only [choice_lk, lock_eq]; exact hqe), (by rintro (⟨_, _⟩) _ <;> cbv), ?_⟩
    clear hqe
    intro qq hx2
    simp only [choice_lk, lock_eq] at hx2
    rcases qq with ⟨t2, y2⟩
    all_goals (rw [hx2] at hr; dsimp only at hr; constructor; (try cbv))
    refine sel_intro (fun h => ?_) (fun h => ?_)
    ·have h1 : (ieq (iadd .u64 y1 y2) (0 : Int)) = true := by first | exact h | (have h2 := h; simp only [choice_lk, lock_eq] at h2; exact h2) | (simp only [choice_lk, lock_eq] at h; exact h)
     rw [if_pos h1] at hr
     (try cbv)
     apply Hidden.out
     have e := Option.some.inj hr
     obtain ⟨u0, u1, u2⟩ := r
     simp only [Prod.mk.injEq] at e
     obtain ⟨e0, e1, e2⟩ := e
     constructor
     refine ⟨_, hF, ?_⟩
     (try cbv); (try simp only [choice_lk, lock_eq, and_self, and_true, true_and]); (try first | exact e | exact e.symm | (and_intros <;> first | assumption | rfl | exact Eq.symm (by assumption)))
    ·have h1 : (ieq (iadd .u64 y1 y2) (0 : Int)) = false := by first | exact h | (have h2 := h; simp only [choice_lk, lock_eq] at h2; exact h2) | (simp only [choice_lk, lock_eq] at h; exact h)
     rw [if_neg (by rw [h1]; exact Bool.false_ne_true)] at hr
     (try cbv)
     refine sel_intro (fun h => ?_) (fun h => ?_)
     ·have h1 : (ilt y2 y1) = true := by first | exact h | (have h2 := h; simp only [choice_lk, lock_eq] at h2; exact h2) | (simp only [choice_lk, lock_eq] at h; exact h)
      rw [if_pos h1] at hr
      (try cbv)
      apply Hidden.out
      have e := Option.some.inj hr
      obtain ⟨u0, u1, u2⟩ := r
      simp only [Prod.mk.injEq] at e
      obtain ⟨e0, e1, e2⟩ := e
      constructor
      refine ⟨_, hF, ?_⟩
      (try cbv); (try simp only [choice_lk, lock_eq, and_self, and_true, true_and]); (try first | exact e | exact e.symm | (and_intros <;> first | assumption | rfl | exact Eq.symm (by assumption)))
     ·have h1 : (ilt y2 y1) = false := by first | exact h | (have h2 := h; simp only [choice_lk, lock_eq] at h2; exact h2) | (simp only [choice_lk, lock_eq] at h; exact h)
      rw [if_neg (by rw [h1]; exact Bool.false_ne_true)] at hr
      (try cbv)
      apply Hidden.out
      have e := Option.some.inj hr
      obtain ⟨u0, u1, u2⟩ := r
      simp only [Prod.mk.injEq] at e
      obtain ⟨e0, e1, e2⟩ := e
      constructor
      refine ⟨_, hF, ?_⟩
      (try cbv); (try simp only [choice_lk, lock_eq, and_self, and_true, true_and]); (try first | exact e | exact e.symm | (and_intros <;> first | assumption | rfl | exact Eq.symm (by assumption)))
end Go.Proofs.YtbkcmpggacbikaaDoor
end
section
/-
  The walk of tollbar/tollbarref01.one (printed by a program of ours).
-/
set_option linter.unusedVariables false
set_option linter.unusedSimpArgs false
namespace Go.Proofs.YtbkcmpggacbikaaDoor
open Go.RowKit
noncomputable def tab_tollbarref01_one : Nat → Option Con := look []
set_option maxHeartbeats 20000000 in
set_option maxRecDepth 100000 in
theorem vc_tollbarref01_one (P : Program) (T : Tab P tab_tollbarref01_one) (hm : P.follows .mixedOrders = true) : FnVC P tab_tollbarref01_one ic_40 [.t 2] 8 con_tollbarref01_one := by
 intro cargs ccks ce hce hob C hk
 apply Hidden.out
 replace hce : con_tollbarref01_one_1 cargs ccks = some ce := hce
 ·unfold con_tollbarref01_one_1 at hce
  split at hce
  rotate_left
  ·cases hce
  obtain rfl := Option.some.inj hce
  rename_i x1
  have hb1 := hob _ (List.mem_singleton.2 rfl)
  have hb2 := obl.1 hb1
  clear hb1 hob hce
  refine hb2.elim fun r hF => ?_
  clear hb2
  simp only [List.length_cons, List.length_nil, Nat.zero_add, Nat.reduceAdd] at hk
  have hr : F_tollbarref01_one x1 = some r := by rw [lock_eq] at hF; exact hF
  unfold F_tollbarref01_one at hr
  constructor
  (try cbv)
  have gg := guard_inv hr
  have g := gg.1
  replace hr := gg.2
  clear gg
  refine ⟨obl.2 (by first | (simp only [choice_lk, lock_eq, R.len, R.sub]; exact g) | exact g), ?_⟩
  apply Hidden.out
  have e := Option.some.inj hr
  constructor
  refine ⟨_, hF, ?_⟩
  (try cbv); (try simp only [choice_lk, lock_eq, and_self, and_true, true_and]); (try first | exact e | exact e.symm | (and_intros <;> first | assumption | rfl | exact Eq.symm (by assumption)))
end Go.Proofs.YtbkcmpggacbikaaDoor
end
section
/-
  The walk of tollbar/tollbarref01.Big (printed by a program of ours).
-/
set_option linter.unusedVariables false
set_option linter.unusedSimpArgs false
namespace Go.Proofs.YtbkcmpggacbikaaDoor
open Go.RowKit
noncomputable def tab_tollbarref01_Big : Nat → Option Con := look [(40, con_tollbarref01_one)]
set_option maxHeartbeats 20000000 in
set_option maxRecDepth 100000 in
theorem vc_tollbarref01_Big (P : Program) (T : Tab P tab_tollbarref01_Big) (hm : P.follows .mixedOrders = true) : FnVC P tab_tollbarref01_Big ic_32 [.t 4] 23 con_tollbarref01_Big := by
 intro cargs ccks ce hce hob C hk
 apply Hidden.out
 replace hce : con_tollbarref01_Big_1 cargs ccks = some ce := hce
 ·unfold con_tollbarref01_Big_1 at hce
  split at hce
  rotate_left
  ·cases hce
  obtain rfl := Option.some.inj hce
  rename_i x1 x2
  have hb1 := hob _ (List.mem_singleton.2 rfl)
  have hb2 := obl.1 hb1
  clear hb1 hob hce
  refine hb2.elim fun r hF => ?_
  clear hb2
  simp only [List.length_cons, List.length_nil, Nat.zero_add, Nat.reduceAdd] at hk
  have hr : F_tollbarref01_Big x1 x2 = some r := by rw [lock_eq] at hF; exact hF
  unfold F_tollbarref01_Big at hr
  constructor
  (try cbv)
  refine LoopOK.iter T (drawOK T hm) (B := (F_tollbarref01_Big_L1 x2)) hr (fun | (i1, s1, i2) => ⟨mkFr [(0, (.v (.int .u64 i1))), (1, (.v (.int .i64 x2))), (5, (.str s1)), (6, (.v (.int .i64 i2)))] 23 0, [], 0⟩) ?_ ?_
  ·rintro ⟨u0, u1, u2⟩ e
   simp only [Prod.mk.injEq] at e
   obtain ⟨e0, e1, e2⟩ := e
   refine le_auto hk ?_
   (try cbv); (try simp only [choice_lk, lock_eq, and_self, and_true, true_and]); (try first | exact e | exact e.symm | (and_intros <;> first | assumption | rfl | exact Eq.symm (by assumption)))
  ·clear hr
   intro x bb1 hr ht1
   obtain ⟨i1, s1, i2⟩ := x
   as_aux_lemma =>
   constructor
   unfold F_tollbarref01_Big_L1 at hr
   (try dsimp only at hr)
   (try cbv)
   refine sel_intro (fun h => ?_) (fun h => ?_)
   ·have h1 : (ilt i2 x2) = true := by first | exact h | (have h2 := h; simp only [choice_lk, lock_eq] at h2; exact h2) | (simp only [choice_lk, lock_eq] at h; exact h)
    rw [if_pos h1] at hr
    (try cbv)
    refine sel_intro (fun h => ?_) (fun h => ?_)
    ·have h1 : (ile x2 (8 : Int)) = true := by first | exact h | (have h2 := h; simp only [choice_lk, lock_eq] at h2; exact h2) | (simp only [choice_lk, lock_eq] at h; exact h)
     rw [if_pos h1] at hr
     (try cbv)
     have hqe : ∃ qq, F_tollbarref01_one i1 = some qq := by
      cases hq : F_tollbarref01_one i1 with
      | none => rw [hq] at hr; cases hr
      | some qq => exact ⟨qq, rfl⟩
     refine ⟨obl.2 (by simp only [choice_lk, lock_eq]; exact hqe), (by rintro (_) _ <;> cbv), ?_⟩
     clear hqe
     intro t3 hx3
     simp only [choice_lk, lock_eq] at hx3
     all_goals (rw [hx3] at hr; dsimp only at hr; constructor; (try cbv))
     have gg := guard_inv hr
     have g := gg.1
     replace hr := gg.2
     clear gg
     refine ⟨obl.2 (by first | (simp only [choice_lk, lock_eq, R.len, R.sub]; exact g) | exact g), ?_⟩
     apply Hidden.out
     obtain rfl := Option.some.inj hr
     constructor
     refine ⟨⟨_, rfl⟩, ?_⟩
     rintro ⟨u0, u1, u2⟩ e
     replace e := Sum.inl.inj e
     simp only [Prod.mk.injEq] at e
     obtain ⟨e0, e1, e2⟩ := e
     refine le_auto hk ?_
     (try cbv); (try simp only [choice_lk, lock_eq, and_self, and_true, true_and]); (try first | exact e | exact e.symm | (and_intros <;> first | assumption | rfl | exact Eq.symm (by assumption)))
    ·have h1 : (ile x2 (8 : Int)) = false := by first | exact h | (have h2 := h; simp only [choice_lk, lock_eq] at h2; exact h2) | (simp only [choice_lk, lock_eq] at h; exact h)
     rw [if_neg (by rw [h1]; exact Bool.false_ne_true)] at hr
     (try cbv)
     apply Hidden.out
     obtain rfl := Option.some.inj hr
     have e := ht1 _ rfl
     constructor
     refine ⟨_, hF, ?_⟩
     (try cbv); (try simp only [choice_lk, lock_eq, and_self, and_true, true_and]); (try first | exact e | exact e.symm | (and_intros <;> first | assumption | rfl | exact Eq.symm (by assumption)))
   ·have h1 : (ilt i2 x2) = false := by first | exact h | (have h2 := h; simp only [choice_lk, lock_eq] at h2; exact h2) | (simp only [choice_lk, lock_eq] at h; exact h)
    rw [if_neg (by rw [h1]; exact Bool.false_ne_true)] at hr
    (try cbv)
    apply Hidden.out
    obtain rfl := Option.some.inj hr
    have e := ht1 _ rfl
    constructor
    refine ⟨_, hF, ?_⟩
    (try cbv); (try simp only [choice_lk, lock_eq, and_self, and_true, true_and]); (try first | exact e | exact e.symm | (and_intros <;> first | assumption | rfl | exact Eq.symm (by assumption)))
end Go.Proofs.YtbkcmpggacbikaaDoor
end
section
/-
  The walk of tollbar/tollbarref32.Save (printed by a program of ours).
-/
set_option linter.unusedVariables false
set_option linter.unusedSimpArgs false
namespace Go.Proofs.YtbkcmpggacbikaaDoor
open Go.RowKit
noncomputable def tab_tollbarref32_Save : Nat → Option Con := look [(19, con_tollbarref32_Load), (31, con_tollbarref04_Sum), (32, con_tollbarref01_Big), (14, con_tollbarref31_Write)]
set_option maxHeartbeats 20000000 in
set_option maxRecDepth 100000 in
theorem vc_tollbarref32_Save (P : Program) (T : Tab P tab_tollbarref32_Save) (hm : P.follows .mixedOrders = true) : FnVC P tab_tollbarref32_Save ic_17 [.c 4 5 true, .t 5] 103 con_tollbarref32_Save := by
 intro cargs ccks ce hce hob C hk
 apply Hidden.out
 replace hce : con_tollbarref32_Save_1 cargs ccks = some ce := hce
 ·unfold con_tollbarref32_Save_1 at hce
  split at hce
  rotate_left
  ·cases hce
  obtain rfl := Option.some.inj hce
  rename_i b1 x1 x2 x3 s1 r1
  have hb1 := hob _ (List.mem_singleton.2 rfl)
  have hb2 := obl.1 hb1
  clear hb1 hob hce
  refine hb2.elim fun r hF => ?_
  clear hb2
  simp only [List.length_cons, List.length_nil, Nat.zero_add, Nat.reduceAdd] at hk
  have hr : F_tollbarref32_Save b1 x1 x2 x3 s1 r1 = some r := by rw [lock_eq] at hF; exact hF
  unfold F_tollbarref32_Save at hr
  constructor
  (try cbv)
  have hqe : ∃ qq, F_tollbarref32_Load b1 x1 x2 x3 r1 = some qq := by
   cases hq : F_tollbarref32_Load b1 x1 x2 x3 r1 with
   | none => rw [hq] at hr; cases hr
   | some qq => exact ⟨qq, rfl⟩
  refine ⟨obl.2 (by simp only [choice_lk, lock_eq]; exact hqe), (by rintro (⟨_, _, _⟩) _ <;> cbv), ?_⟩
  clear hqe
  intro qq hx1
  simp only [choice_lk, lock_eq] at hx1
  rcases qq with ⟨t1, y1, y2⟩
  all_goals (rw [hx1] at hr; dsimp only at hr; constructor; (try cbv))
  refine sel_intro (fun h => ?_) (fun h => ?_)
  ·have h1 : (ieq y2 (1 : Int)) = true := by first | exact h | (have h2 := h; simp only [choice_lk, lock_eq] at h2; exact h2) | (simp only [choice_lk, lock_eq] at h; exact h)
   rw [if_pos h1] at hr
   (try cbv)
   apply Hidden.out
   have e := Option.some.inj hr
   obtain ⟨u0, u1, u2, u3, u4, u5⟩ := r
   simp only [Prod.mk.injEq] at e
   obtain ⟨e0, e1, e2, e3, e4, e5⟩ := e
   constructor
   refine ⟨_, hF, ?_⟩
   (try cbv); (try simp only [choice_lk, lock_eq, and_self, and_true, true_and]); (try first | exact e | exact e.symm | (and_intros <;> first | assumption | rfl | exact Eq.symm (by assumption)))
  ·as_aux_lemma =>
   have h1 : (ieq y2 (1 : Int)) = false := by first | exact h | (have h2 := h; simp only [choice_lk, lock_eq] at h2; exact h2) | (simp only [choice_lk, lock_eq] at h; exact h)
   rw [if_neg (by rw [h1]; exact Bool.false_ne_true)] at hr
   (try cbv)
   refine sel_intro (fun h => ?_) (fun h => ?_)
   ·have h1 : (ilt (8192 : Int) (ofN (xlen s1))) = true := by first | exact h | (have h2 := h; simp only [choice_lk, lock_eq] at h2; exact h2) | (simp only [choice_lk, lock_eq] at h; exact h)
    rw [if_pos h1] at hr
    (try cbv)
    apply Hidden.out
    have e := Option.some.inj hr
    obtain ⟨u0, u1, u2, u3, u4, u5⟩ := r
    simp only [Prod.mk.injEq] at e
    obtain ⟨e0, e1, e2, e3, e4, e5⟩ := e
    constructor
    refine ⟨_, hF, ?_⟩
    (try cbv); (try simp only [choice_lk, lock_eq, and_self, and_true, true_and]); (try first | exact e | exact e.symm | (and_intros <;> first | assumption | rfl | exact Eq.symm (by assumption)))
   ·as_aux_lemma =>
    have h1 : (ilt (8192 : Int) (ofN (xlen s1))) = false := by first | exact h | (have h2 := h; simp only [choice_lk, lock_eq] at h2; exact h2) | (simp only [choice_lk, lock_eq] at h; exact h)
    rw [if_neg (by rw [h1]; exact Bool.false_ne_true)] at hr
    (try cbv)
    refine sel_intro (fun h => ?_) (fun h => ?_)
    ·have h1 : (ieq y2 (3 : Int)) = true := by first | exact h | (have h2 := h; simp only [choice_lk, lock_eq] at h2; exact h2) | (simp only [choice_lk, lock_eq] at h; exact h)
     rw [if_pos h1] at hr
     (try cbv)
     apply Hidden.out
     have e := Option.some.inj hr
     obtain ⟨u0, u1, u2, u3, u4, u5⟩ := r
     simp only [Prod.mk.injEq] at e
     obtain ⟨e0, e1, e2, e3, e4, e5⟩ := e
     constructor
     refine ⟨_, hF, ?_⟩
     (try cbv); (try simp only [choice_lk, lock_eq, and_self, and_true, true_and]); (try first | exact e | exact e.symm | (and_intros <;> first | assumption | rfl | exact Eq.symm (by assumption)))
    ·as_aux_lemma =>
     have h1 : (ieq y2 (3 : Int)) = false := by first | exact h | (have h2 := h; simp only [choice_lk, lock_eq] at h2; exact h2) | (simp only [choice_lk, lock_eq] at h; exact h)
     rw [if_neg (by rw [h1]; exact Bool.false_ne_true)] at hr
     (try cbv)
     have hqe : ∃ qq, F_tollbarref04_Sum s1 = some qq := by
      cases hq : F_tollbarref04_Sum s1 with
      | none => rw [hq] at hr; cases hr
      | some qq => exact ⟨qq, rfl⟩
     refine ⟨obl.2 (by simp only [choice_lk, lock_eq]; exact hqe), (by rintro (_) _ <;> cbv), ?_⟩
     clear hqe
     intro y3 hx2
     simp only [choice_lk, lock_eq] at hx2
     all_goals (rw [hx2] at hr; dsimp only at hr; constructor; (try cbv))
     have hqe : ∃ qq, F_tollbarref01_Big (iadd .u64 y1 (1 : Int)) (8 : Int) = some qq := by
      cases hq : F_tollbarref01_Big (iadd .u64 y1 (1 : Int)) (8 : Int) with
      | none => rw [hq] at hr; cases hr
      | some qq => exact ⟨qq, rfl⟩
     refine ⟨(by simp only [choice_lk, lock_eq]; exact hqe), obl.2 (by simp only [choice_lk, lock_eq]; exact hqe), (by rintro (_) _ <;> cbv), ?_⟩
     clear hqe
     intro t2 hx3
     simp only [choice_lk, lock_eq] at hx3
     all_goals (rw [hx3] at hr; dsimp only at hr; constructor; (try cbv))
     have hqe : ∃ qq, F_tollbarref01_Big (iconv .u64 (ofN (xlen s1))) (4 : Int) = some qq := by
      cases hq : F_tollbarref01_Big (iconv .u64 (ofN (xlen s1))) (4 : Int) with
      | none => rw [hq] at hr; cases hr
      | some qq => exact ⟨qq, rfl⟩
     refine ⟨(by simp only [choice_lk, lock_eq]; exact hqe), obl.2 (by simp only [choice_lk, lock_eq]; exact hqe), (by rintro (_) _ <;> cbv), ?_⟩
     clear hqe
     intro t3 hx4
     simp only [choice_lk, lock_eq] at hx4
     all_goals (rw [hx4] at hr; dsimp only at hr; constructor; (try cbv))
     have gg := guard_inv hr
     have g := gg.1
     replace hr := gg.2
     clear gg
     refine ⟨obl.2 (by first | (simp only [choice_lk, lock_eq, R.len, R.sub]; exact g) | exact g), ?_⟩
     have hqe : ∃ qq, F_tollbarref01_Big (iconv .u64 y3) (4 : Int) = some qq := by
      cases hq : F_tollbarref01_Big (iconv .u64 y3) (4 : Int) with
      | none => rw [hq] at hr; cases hr
      | some qq => exact ⟨qq, rfl⟩
     refine ⟨(by simp only [choice_lk, lock_eq]; exact hqe), obl.2 (by simp only [choice_lk, lock_eq]; exact hqe), (by rintro (_) _ <;> cbv), ?_⟩
     clear hqe
     intro t4 hx5
     simp only [choice_lk, lock_eq] at hx5
     all_goals (rw [hx5] at hr; dsimp only at hr; constructor; (try cbv))
     have gg := guard_inv hr
     have g := gg.1
     replace hr := gg.2
     clear gg
     refine ⟨obl.2 (by first | (simp only [choice_lk, lock_eq, R.len, R.sub]; exact g) | exact g), ?_⟩
     have gg := guard_inv hr
     have g := gg.1
     replace hr := gg.2
     clear gg
     refine ⟨obl.2 (by first | (simp only [choice_lk, lock_eq, R.len, R.sub]; exact g) | exact g), ?_⟩
     have gg := guard_inv hr
     have g := gg.1
     replace hr := gg.2
     clear gg
     refine ⟨obl.2 (by first | (simp only [choice_lk, lock_eq, R.len, R.sub]; exact g) | exact g), ?_⟩
     refine ⟨(by simp only [choice_lk, lock_eq]; exact ⟨_, hx3⟩), obl.2 (by simp only [choice_lk, lock_eq]; exact ⟨_, hx3⟩), (by rintro (_) _ <;> cbv), ?_⟩
     intro qq hx
     simp only [choice_lk, lock_eq] at hx
     obtain rfl := Option.some.inj (hx3.symm.trans hx)
     constructor
     (try cbv)
     have gg := guard_inv hr
     have g := gg.1
     replace hr := gg.2
     clear gg
     refine ⟨obl.2 (by first | (simp only [choice_lk, lock_eq, R.len, R.sub]; exact g) | exact g), ?_⟩
     refine LoopOK.iter T (drawOK T hm) (B := (F_tollbarref32_Save_L1 s1 y1 t2 t3 t4)) hr (fun | (i1, b2, i2, i3, i4, r2) => ⟨mkFr [(1, (.str s1)), (2, (.ptr 1 0)), (4, (.ptr 2 0)), (9, (.v (.int .i64 (lock imul .i64 (130 : Int) (lock iconv .i64 (lock irem (lock iadd .u64 y1 (1 : Int)) (2 : Int))))))), (11, (.str (lock (@cat UInt8) (lock (@cat UInt8) (lock (@cat UInt8) (lock (@cat UInt8) t2 t3) t4) (lock (@lrep UInt8) (lock toN (40 : Int)) (0 : UInt8))) t2))), (12, (.v (.int .i64 i1)))] 103 0, [(1, .blk 39 [(.wsl 3), (.v (.bool b2)), (.v (.int .i64 i2)), (.v (.int .i64 i3)), (.v (.int .i64 i4))]), (2, .blk 39 [.nsl, (.v (.bool false)), (.v (.int .i64 (0 : Int))), (.v (.int .i64 (0 : Int))), (.v (.int .i64 (0 : Int)))]), (3, .row (.row 9 .str r2))], 4⟩) ?_ ?_
     ·rintro ⟨u0, u1, u2, u3, u4, u5⟩ e
      simp only [Prod.mk.injEq] at e
      obtain ⟨e0, e1, e2, e3, e4, e5⟩ := e
      refine le_auto hk ?_
      (try cbv); (try simp only [choice_lk, lock_eq, and_self, and_true, true_and]); (try first | exact e | exact e.symm | (and_intros <;> first | assumption | rfl | exact Eq.symm (by assumption)))
     ·clear hr
      intro x bb1 hr ht1
      obtain ⟨i1, b2, i2, i3, i4, r2⟩ := x
      as_aux_lemma =>
      constructor
      unfold F_tollbarref32_Save_L1 at hr
      (try dsimp only at hr)
      (try cbv)
      refine sel_intro (fun h => ?_) (fun h => ?_)
      ·as_aux_lemma =>
       have h1 : (ilt (imul .i64 (64 : Int) i1) (ofN (xlen s1))) = true := by first | exact h | (have h2 := h; simp only [choice_lk, lock_eq] at h2; exact h2) | (simp only [choice_lk, lock_eq] at h; exact h)
       rw [if_pos h1] at hr
       (try cbv)
       have gg := guard_inv hr
       have g := gg.1
       replace hr := gg.2
       clear gg
       refine ⟨obl.2 (by first | (simp only [choice_lk, lock_eq, R.len, R.sub]; exact g) | exact g), ?_⟩
       refine sel_intro (fun h => ?_) (fun h => ?_)
       ·have h1 : (ilt (64 : Int) (ofN (xlen (lsub s1 (toN (imul .i64 (64 : Int) i1)) (ndec (xlen s1) (toN (imul .i64 (64 : Int) i1))))))) = true := by first | exact h | (have h2 := h; simp only [choice_lk, lock_eq] at h2; exact h2) | (simp only [choice_lk, lock_eq] at h; exact h)
        rw [if_pos h1] at hr
        (try cbv)
        have gg := guard_inv hr
        have g := gg.1
        replace hr := gg.2
        clear gg
        refine ⟨obl.2 (by first | (simp only [choice_lk, lock_eq, R.len, R.sub]; exact g) | exact g), ?_⟩
        have gg := guard_inv hr
        have g := gg.1
        replace hr := gg.2
        clear gg
        refine ⟨obl.2 (by first | (simp only [choice_lk, lock_eq, R.len, R.sub]; exact g) | exact g), ?_⟩
        have gg := guard_inv hr
        have g := gg.1
        replace hr := gg.2
        clear gg
        refine ⟨obl.2 (by first | (simp only [choice_lk, lock_eq, R.len, R.sub]; exact g) | exact g), ?_⟩
        have hqe : ∃ qq, F_tollbarref31_Write b2 i2 i3 i4 (iadd .i64 (iadd .i64 (imul .i64 (130 : Int) (iconv .i64 (irem (iadd .u64 y1 (1 : Int)) (2 : Int)))) (1 : Int)) i1) (cat (lsub (lsub s1 (toN (imul .i64 (64 : Int) i1)) (ndec (xlen s1) (toN (imul .i64 (64 : Int) i1)))) 0 (toN (64 : Int))) (@lrep UInt8 (toN (isub .i64 (64 : Int) (ofN (xlen (lsub (lsub s1 (toN (imul .i64 (64 : Int) i1)) (ndec (xlen s1) (toN (imul .i64 (64 : Int) i1)))) 0 (toN (64 : Int))))))) (0 : UInt8))) r2 = some qq := by
         cases hq : F_tollbarref31_Write b2 i2 i3 i4 (iadd .i64 (iadd .i64 (imul .i64 (130 : Int) (iconv .i64 (irem (iadd .u64 y1 (1 : Int)) (2 : Int)))) (1 : Int)) i1) (cat (lsub (lsub s1 (toN (imul .i64 (64 : Int) i1)) (ndec (xlen s1) (toN (imul .i64 (64 : Int) i1)))) 0 (toN (64 : Int))) (@lrep UInt8 (toN (isub .i64 (64 : Int) (ofN (xlen (lsub (lsub s1 (toN (imul .i64 (64 : Int) i1)) (ndec (xlen s1) (toN (imul .i64 (64 : Int) i1)))) 0 (toN (64 : Int))))))) (0 : UInt8))) r2 with
         | none => rw [hq] at hr; cases hr
         | some qq => exact ⟨qq, rfl⟩
        refine ⟨obl.2 (by simp only [choice_lk, lock_eq]; exact hqe), (by rintro (⟨_, _, _, _, _, _⟩) _ <;> cbv), ?_⟩
        clear hqe
        intro qq hx13
        simp only [choice_lk, lock_eq] at hx13
        rcases qq with ⟨c7, y28, y29, y30, y31, q7⟩
        all_goals (rw [hx13] at hr; dsimp only at hr; constructor; (try cbv))
        refine sel_intro (fun h => ?_) (fun h => ?_)
        ·have h1 : (ieq y31 (0 : Int)) = false := by first | exact (bnot_t.1 h) | (have h2 := (bnot_t.1 h); simp only [choice_lk, lock_eq] at h2; exact h2) | (simp only [choice_lk, lock_eq] at h; exact (bnot_t.1 h))
         rw [if_neg (by rw [h1]; exact Bool.false_ne_true)] at hr
         (try cbv)
         apply Hidden.out
         obtain rfl := Option.some.inj hr
         have e := ht1 _ rfl
         obtain ⟨u0, u1, u2, u3, u4, u5⟩ := r
         simp only [Prod.mk.injEq] at e
         obtain ⟨e0, e1, e2, e3, e4, e5⟩ := e
         constructor
         refine ⟨_, hF, ?_⟩
         (try cbv); (try simp only [choice_lk, lock_eq, and_self, and_true, true_and]); (try first | exact e | exact e.symm | (and_intros <;> first | assumption | rfl | exact Eq.symm (by assumption)))
        ·have h1 : (ieq y31 (0 : Int)) = true := by first | exact (bnot_f.1 h) | (have h2 := (bnot_f.1 h); simp only [choice_lk, lock_eq] at h2; exact h2) | (simp only [choice_lk, lock_eq] at h; exact (bnot_f.1 h))
         rw [if_pos h1] at hr
         (try cbv)
         apply Hidden.out
         obtain rfl := Option.some.inj hr
         constructor
         refine ⟨⟨_, rfl⟩, ?_⟩
         rintro ⟨u0, u1, u2, u3, u4, u5⟩ e
         replace e := Sum.inl.inj e
         simp only [Prod.mk.injEq] at e
         obtain ⟨e0, e1, e2, e3, e4, e5⟩ := e
         refine le_auto hk ?_
         (try cbv); (try simp only [choice_lk, lock_eq, and_self, and_true, true_and]); (try first | exact e | exact e.symm | (and_intros <;> first | assumption | rfl | exact Eq.symm (by assumption)))
       ·have h1 : (ilt (64 : Int) (ofN (xlen (lsub s1 (toN (imul .i64 (64 : Int) i1)) (ndec (xlen s1) (toN (imul .i64 (64 : Int) i1))))))) = false := by first | exact h | (have h2 := h; simp only [choice_lk, lock_eq] at h2; exact h2) | (simp only [choice_lk, lock_eq] at h; exact h)
        rw [if_neg (by rw [h1]; exact Bool.false_ne_true)] at hr
        (try cbv)
        have gg := guard_inv hr
        have g := gg.1
        replace hr := gg.2
        clear gg
        refine ⟨obl.2 (by first | (simp only [choice_lk, lock_eq, R.len, R.sub]; exact g) | exact g), ?_⟩
        have gg := guard_inv hr
        have g := gg.1
        replace hr := gg.2
        clear gg
        refine ⟨obl.2 (by first | (simp only [choice_lk, lock_eq, R.len, R.sub]; exact g) | exact g), ?_⟩
        have hqe : ∃ qq, F_tollbarref31_Write b2 i2 i3 i4 (iadd .i64 (iadd .i64 (imul .i64 (130 : Int) (iconv .i64 (irem (iadd .u64 y1 (1 : Int)) (2 : Int)))) (1 : Int)) i1) (cat (lsub s1 (toN (imul .i64 (64 : Int) i1)) (ndec (xlen s1) (toN (imul .i64 (64 : Int) i1)))) (@lrep UInt8 (toN (isub .i64 (64 : Int) (ofN (xlen (lsub s1 (toN (imul .i64 (64 : Int) i1)) (ndec (xlen s1) (toN (imul .i64 (64 : Int) i1)))))))) (0 : UInt8))) r2 = some qq := by
         cases hq : F_tollbarref31_Write b2 i2 i3 i4 (iadd .i64 (iadd .i64 (imul .i64 (130 : Int) (iconv .i64 (irem (iadd .u64 y1 (1 : Int)) (2 : Int)))) (1 : Int)) i1) (cat (lsub s1 (toN (imul .i64 (64 : Int) i1)) (ndec (xlen s1) (toN (imul .i64 (64 : Int) i1)))) (@lrep UInt8 (toN (isub .i64 (64 : Int) (ofN (xlen (lsub s1 (toN (imul .i64 (64 : Int) i1)) (ndec (xlen s1) (toN (imul .i64 (64 : Int) i1)))))))) (0 : UInt8))) r2 with
         | none => rw [hq] at hr; cases hr
         | some qq => exact ⟨qq, rfl⟩
        refine ⟨obl.2 (by simp only [choice_lk, lock_eq]; exact hqe), (by rintro (⟨_, _, _, _, _, _⟩) _ <;> cbv), ?_⟩
        clear hqe
        intro qq hx14
        simp only [choice_lk, lock_eq] at hx14
        rcases qq with ⟨c8, y32, y33, y34, y35, q8⟩
        all_goals (rw [hx14] at hr; dsimp only at hr; constructor; (try cbv))
        refine sel_intro (fun h => ?_) (fun h => ?_)
        ·have h1 : (ieq y35 (0 : Int)) = false := by first | exact (bnot_t.1 h) | (have h2 := (bnot_t.1 h); simp only [choice_lk, lock_eq] at h2; exact h2) | (simp only [choice_lk, lock_eq] at h; exact (bnot_t.1 h))
         rw [if_neg (by rw [h1]; exact Bool.false_ne_true)] at hr
         (try cbv)
         apply Hidden.out
         obtain rfl := Option.some.inj hr
         have e := ht1 _ rfl
         obtain ⟨u0, u1, u2, u3, u4, u5⟩ := r
         simp only [Prod.mk.injEq] at e
         obtain ⟨e0, e1, e2, e3, e4, e5⟩ := e
         constructor
         refine ⟨_, hF, ?_⟩
         (try cbv); (try simp only [choice_lk, lock_eq, and_self, and_true, true_and]); (try first | exact e | exact e.symm | (and_intros <;> first | assumption | rfl | exact Eq.symm (by assumption)))
        ·have h1 : (ieq y35 (0 : Int)) = true := by first | exact (bnot_f.1 h) | (have h2 := (bnot_f.1 h); simp only [choice_lk, lock_eq] at h2; exact h2) | (simp only [choice_lk, lock_eq] at h; exact (bnot_f.1 h))
         rw [if_pos h1] at hr
         (try cbv)
         apply Hidden.out
         obtain rfl := Option.some.inj hr
         constructor
         refine ⟨⟨_, rfl⟩, ?_⟩
         rintro ⟨u0, u1, u2, u3, u4, u5⟩ e
         replace e := Sum.inl.inj e
         simp only [Prod.mk.injEq] at e
         obtain ⟨e0, e1, e2, e3, e4, e5⟩ := e
         refine le_auto hk ?_
         (try cbv); (try simp only [choice_lk, lock_eq, and_self, and_true, true_and]); (try first | exact e | exact e.symm | (and_intros <;> first | assumption | rfl | exact Eq.symm (by assumption)))
      ·have h1 : (ilt (imul .i64 (64 : Int) i1) (ofN (xlen s1))) = false := by first | exact h | (have h2 := h; simp only [choice_lk, lock_eq] at h2; exact h2) | (simp only [choice_lk, lock_eq] at h; exact h)
       rw [if_neg (by rw [h1]; exact Bool.false_ne_true)] at hr
       (try cbv)
       have hqe : ∃ qq, F_tollbarref31_Write b2 i2 i3 i4 (imul .i64 (130 : Int) (iconv .i64 (irem (iadd .u64 y1 (1 : Int)) (2 : Int)))) (cat (cat (cat (cat t2 t3) t4) (@lrep UInt8 (toN (40 : Int)) (0 : UInt8))) t2) r2 = some qq := by
        cases hq : F_tollbarref31_Write b2 i2 i3 i4 (imul .i64 (130 : Int) (iconv .i64 (irem (iadd .u64 y1 (1 : Int)) (2 : Int)))) (cat (cat (cat (cat t2 t3) t4) (@lrep UInt8 (toN (40 : Int)) (0 : UInt8))) t2) r2 with
        | none => rw [hq] at hr; cases hr
        | some qq => exact ⟨qq, rfl⟩
       refine ⟨obl.2 (by simp only [choice_lk, lock_eq]; exact hqe), (by rintro (⟨_, _, _, _, _, _⟩) _ <;> cbv), ?_⟩
       clear hqe
       intro qq hx15
       simp only [choice_lk, lock_eq] at hx15
       rcases qq with ⟨c9, y36, y37, y38, y39, q9⟩
       all_goals (rw [hx15] at hr; dsimp only at hr; constructor; (try cbv))
       apply Hidden.out
       obtain rfl := Option.some.inj hr
       have e := ht1 _ rfl
       obtain ⟨u0, u1, u2, u3, u4, u5⟩ := r
       simp only [Prod.mk.injEq] at e
       obtain ⟨e0, e1, e2, e3, e4, e5⟩ := e
       constructor
       refine ⟨_, hF, ?_⟩
       (try cbv); (try simp only [choice_lk, lock_eq, and_self, and_true, true_and]); (try first | exact e | exact e.symm | (and_intros <;> first | assumption | rfl | exact Eq.symm (by assumption)))
end Go.Proofs.YtbkcmpggacbikaaDoor
end
section
/-
  The walk of (*tollbar/block.Device).Up (printed by a program of ours).
-/
set_option linter.unusedVariables false
set_option linter.unusedSimpArgs false
namespace Go.Proofs.YtbkcmpggacbikaaDoor
open Go.RowKit
noncomputable def tab_block_Device_Up : Nat → Option Con := look []
set_option maxHeartbeats 20000000 in
set_option maxRecDepth 100000 in
theorem vc_block_Device_Up (P : Program) (T : Tab P tab_block_Device_Up) (hm : P.follows .mixedOrders = true) : FnVC P tab_block_Device_Up ic_20 [] 10 con_block_Device_Up := by
 intro cargs ccks ce hce hob C hk
 apply Hidden.out
 replace hce : altC (con_block_Device_Up_1 cargs ccks) (altC (con_block_Device_Up_2 cargs ccks) (con_block_Device_Up_3 cargs ccks)) = some ce := hce
 replace hce := altC_inv hce
 rcases hce with hce | hce
 ·unfold con_block_Device_Up_1 at hce
  split at hce
  rotate_left
  ·cases hce
  obtain rfl := Option.some.inj hce
  have hb1 := hob _ (List.mem_singleton.2 rfl)
  have hb2 := obl.1 hb1
  clear hb1 hob hce
  refine hb2.elim fun r hF => ?_
  clear hb2
  simp only [List.length_cons, List.length_nil, Nat.zero_add, Nat.reduceAdd] at hk
  have hr : F_block_Device_Up = some r := by rw [lock_eq] at hF; exact hF
  unfold F_block_Device_Up at hr
  constructor
  (try cbv)
  apply Hidden.out
  have e := Option.some.inj hr
  constructor
  refine ⟨_, hF, ?_⟩
  (try cbv); (try simp only [choice_lk, lock_eq, and_self, and_true, true_and]); (try first | exact e | exact e.symm | (and_intros <;> first | assumption | rfl | exact Eq.symm (by assumption)))
 replace hce := altC_inv hce
 rcases hce with hce | hce
 ·unfold con_block_Device_Up_2 at hce
  split at hce
  rotate_left
  ·cases hce
  obtain rfl := Option.some.inj hce
  rename_i b1 x1 r1
  have hb1 := hob _ (List.mem_singleton.2 rfl)
  have hb2 := obl.1 hb1
  clear hb1 hob hce
  refine hb2.elim fun r hF => ?_
  clear hb2
  simp only [List.length_cons, List.length_nil, Nat.zero_add, Nat.reduceAdd] at hk
  have hr : F_block_Device_Up_2 b1 x1 r1 = some r := by rw [lock_eq] at hF; exact hF
  unfold F_block_Device_Up_2 at hr
  constructor
  (try cbv)
  apply Hidden.out
  have e := Option.some.inj hr
  constructor
  refine ⟨_, hF, ?_⟩
  (try cbv); (try simp only [choice_lk, lock_eq, and_self, and_true, true_and]); (try first | exact e | exact e.symm | (and_intros <;> first | assumption | rfl | exact Eq.symm (by assumption)))
 ·unfold con_block_Device_Up_3 at hce
  split at hce
  rotate_left
  ·cases hce
  obtain rfl := Option.some.inj hce
  rename_i b1 x1 r1 x2 x3
  have hb1 := hob _ (List.mem_singleton.2 rfl)
  have hb2 := obl.1 hb1
  clear hb1 hob hce
  refine hb2.elim fun r hF => ?_
  clear hb2
  simp only [List.length_cons, List.length_nil, Nat.zero_add, Nat.reduceAdd] at hk
  have hr : F_block_Device_Up_3 b1 x1 r1 x2 x3 = some r := by rw [lock_eq] at hF; exact hF
  unfold F_block_Device_Up_3 at hr
  constructor
  (try cbv)
  apply Hidden.out
  have e := Option.some.inj hr
  constructor
  refine ⟨_, hF, ?_⟩
  (try cbv); (try simp only [choice_lk, lock_eq, and_self, and_true, true_and]); (try first | exact e | exact e.symm | (and_intros <;> first | assumption | rfl | exact Eq.symm (by assumption)))
end Go.Proofs.YtbkcmpggacbikaaDoor
end
section
/-
  The walk of tollbar/tollbarref31.Up (printed by a program of ours).
-/
set_option linter.unusedVariables false
set_option linter.unusedSimpArgs false
namespace Go.Proofs.YtbkcmpggacbikaaDoor
open Go.RowKit
noncomputable def tab_tollbarref31_Up : Nat → Option Con := look []
set_option maxHeartbeats 20000000 in
set_option maxRecDepth 100000 in
theorem vc_tollbarref31_Up (P : Program) (T : Tab P tab_tollbarref31_Up) (hm : P.follows .mixedOrders = true) : FnVC P tab_tollbarref31_Up ic_21 [.c 2 5 true] 7 con_tollbarref31_Up := by
 intro cargs ccks ce hce hob C hk
 apply Hidden.out
 replace hce : con_tollbarref31_Up_1 cargs ccks = some ce := hce
 ·unfold con_tollbarref31_Up_1 at hce
  split at hce
  rotate_left
  ·cases hce
  obtain rfl := Option.some.inj hce
  rename_i b1 x1 x2 x3 r1
  have hb1 := hob _ (List.mem_singleton.2 rfl)
  have hb2 := obl.1 hb1
  clear hb1 hob hce
  refine hb2.elim fun r hF => ?_
  clear hb2
  simp only [List.length_cons, List.length_nil, Nat.zero_add, Nat.reduceAdd] at hk
  have hr : F_tollbarref31_Up b1 x1 x2 x3 r1 = some r := by rw [lock_eq] at hF; exact hF
  unfold F_tollbarref31_Up at hr
  constructor
  (try cbv)
  apply Hidden.out
  have e := Option.some.inj hr
  constructor
  refine ⟨_, hF, ?_⟩
  (try cbv); (try simp only [choice_lk, lock_eq, and_self, and_true, true_and]); (try first | exact e | exact e.symm | (and_intros <;> first | assumption | rfl | exact Eq.symm (by assumption)))
end Go.Proofs.YtbkcmpggacbikaaDoor
end
section
/-
  The walk of tollbar/tollbarlaw32.JournalDoes (printed by a program of ours).
-/
set_option linter.unusedVariables false
set_option linter.unusedSimpArgs false
namespace Go.Proofs.YtbkcmpggacbikaaDoor
open Go.RowKit
noncomputable def tab_tollbarlaw32_JournalDoes : Nat → Option Con := look [(7, con_tollbarlaw32_awake), (8, con_block_New), (13, con_tollbarref31_New), (10, con_block_Device_Write), (14, con_tollbarref31_Write), (15, con_block_Device_Arm), (16, con_tollbarref31_Arm), (18, con_tollbarlaw32_bytes), (17, con_tollbarref32_Save), (9, con_journal_Save), (11, con_journal_Load), (19, con_tollbarref32_Load), (20, con_block_Device_Up), (21, con_tollbarref31_Up)]
set_option maxHeartbeats 20000000 in
set_option maxRecDepth 100000 in
theorem vc_tollbarlaw32_JournalDoes (P : Program) (T : Tab P tab_tollbarlaw32_JournalDoes) (hm : P.follows .mixedOrders = true) : FnVC P tab_tollbarlaw32_JournalDoes ic_4 [.t 4] 181 con_tollbarlaw32_JournalDoes := by
 intro cargs ccks ce hce hob C hk
 apply Hidden.out
 replace hce : con_tollbarlaw32_JournalDoes_1 cargs ccks = some ce := hce
 ·unfold con_tollbarlaw32_JournalDoes_1 at hce
  split at hce
  rotate_left
  ·cases hce
  obtain rfl := Option.some.inj hce
  rename_i r1 r2
  have hb1 := hob _ (List.mem_singleton.2 rfl)
  have hb2 := obl.1 hb1
  clear hb1 hob hce
  refine hb2.elim fun r hF => ?_
  clear hb2
  simp only [List.length_cons, List.length_nil, Nat.zero_add, Nat.reduceAdd] at hk
  have hr : F_tollbarlaw32_JournalDoes r1 r2 = some r := by rw [lock_eq] at hF; exact hF
  unfold F_tollbarlaw32_JournalDoes at hr
  constructor
  (try cbv)
  have hqe : ∃ qq, F_tollbarlaw32_awake = some qq := by
   cases hq : F_tollbarlaw32_awake with
   | none => rw [hq] at hr; cases hr
   | some qq => exact ⟨qq, rfl⟩
  refine ⟨obl.2 (by simp only [choice_lk, lock_eq]; exact hqe), (by rintro (_) _ <;> cbv), ?_⟩
  clear hqe
  intro c1 hx1
  simp only [choice_lk, lock_eq] at hx1
  all_goals (rw [hx1] at hr; dsimp only at hr; constructor; (try cbv))
  refine sel_intro (fun h => ?_) (fun h => ?_)
  ·have h1 : c1 = false := by first | exact (bnot_t.1 h) | (have h2 := (bnot_t.1 h); simp only [choice_lk, lock_eq] at h2; exact h2) | (simp only [choice_lk, lock_eq] at h; exact (bnot_t.1 h))
   rw [if_neg (by rw [h1]; exact Bool.false_ne_true)] at hr
   (try cbv)
   apply Hidden.out
   have e := Option.some.inj hr
   constructor
   refine ⟨_, hF, ?_⟩
   (try cbv); (try simp only [choice_lk, lock_eq, and_self, and_true, true_and]); (try first | exact e | exact e.symm | (and_intros <;> first | assumption | rfl | exact Eq.symm (by assumption)))
  ·as_aux_lemma =>
   have h1 : c1 = true := by first | exact (bnot_f.1 h) | (have h2 := (bnot_f.1 h); simp only [choice_lk, lock_eq] at h2; exact h2) | (simp only [choice_lk, lock_eq] at h; exact (bnot_f.1 h))
   rw [if_pos h1] at hr
   (try cbv)
   refine sel_intro (fun h => ?_) (fun h => ?_)
   ·have h1 : (ilt (12 : Int) (ofN (xlen r1))) = true := by first | exact h | (have h2 := h; simp only [choice_lk, lock_eq] at h2; exact h2) | (simp only [choice_lk, lock_eq] at h; exact h)
    rw [if_pos h1] at hr
    (try cbv)
    apply Hidden.out
    have e := Option.some.inj hr
    constructor
    refine ⟨_, hF, ?_⟩
    (try cbv); (try simp only [choice_lk, lock_eq, and_self, and_true, true_and]); (try first | exact e | exact e.symm | (and_intros <;> first | assumption | rfl | exact Eq.symm (by assumption)))
   ·as_aux_lemma =>
    have h1 : (ilt (12 : Int) (ofN (xlen r1))) = false := by first | exact h | (have h2 := h; simp only [choice_lk, lock_eq] at h2; exact h2) | (simp only [choice_lk, lock_eq] at h; exact h)
    rw [if_neg (by rw [h1]; exact Bool.false_ne_true)] at hr
    (try cbv)
    refine sel_intro (fun h => ?_) (fun h => ?_)
    ·have h1 : (ilt (20 : Int) (ofN (xlen r2))) = true := by first | exact h | (have h2 := h; simp only [choice_lk, lock_eq] at h2; exact h2) | (simp only [choice_lk, lock_eq] at h; exact h)
     rw [if_pos h1] at hr
     (try cbv)
     apply Hidden.out
     have e := Option.some.inj hr
     constructor
     refine ⟨_, hF, ?_⟩
     (try cbv); (try simp only [choice_lk, lock_eq, and_self, and_true, true_and]); (try first | exact e | exact e.symm | (and_intros <;> first | assumption | rfl | exact Eq.symm (by assumption)))
    ·as_aux_lemma =>
     have h1 : (ilt (20 : Int) (ofN (xlen r2))) = false := by first | exact h | (have h2 := h; simp only [choice_lk, lock_eq] at h2; exact h2) | (simp only [choice_lk, lock_eq] at h; exact h)
     rw [if_neg (by rw [h1]; exact Bool.false_ne_true)] at hr
     (try cbv)
     have hqe : ∃ qq, F_block_New (261 : Int) = some qq := by
      cases hq : F_block_New (261 : Int) with
      | none => rw [hq] at hr; cases hr
      | some qq => exact ⟨qq, rfl⟩
     refine ⟨obl.2 (by simp only [choice_lk, lock_eq]; exact hqe), (by rintro (_ | _) _ <;> cbv), ?_⟩
     clear hqe
     intro qq hx2
     simp only [choice_lk, lock_eq] at hx2
     rcases qq with _ | q1
     all_goals (rw [hx2] at hr; dsimp only at hr; constructor; (try cbv))
     ·have hqe : ∃ qq, F_tollbarref31_New (261 : Int) = some qq := by
       cases hq : F_tollbarref31_New (261 : Int) with
       | none => rw [hq] at hr; cases hr
       | some qq => exact ⟨qq, rfl⟩
      refine ⟨obl.2 (by simp only [choice_lk, lock_eq]; exact hqe), (by rintro (_) _ <;> cbv), ?_⟩
      clear hqe
      intro q2 hx3
      simp only [choice_lk, lock_eq] at hx3
      all_goals (rw [hx3] at hr; dsimp only at hr; constructor; (try cbv))
      refine LoopOK.iter T (drawOK T hm) (B := (F_tollbarlaw32_JournalDoes_L1 r2 r1)) hr (fun | (i1, b1, i2, i3, i4, r3) => ⟨mkFr [(0, (.rsl (.row 47 (.st [(.int .u16), (.int .u8), (.int .u8), (.int .u8)]) r1))), (1, (.rsl (.row 42 (.st [(.int .i64), .str]) r2))), (6, (.v (.pointer none))), (7, (.ptr 0 0)), (8, (.v (.int .i64 i1)))] 181 0, [(0, .blk 39 [(.wsl 1), (.v (.bool b1)), (.v (.int .i64 i2)), (.v (.int .i64 i3)), (.v (.int .i64 i4))]), (1, .row (.row 9 .str r3))], 2⟩) ?_ ?_
      ·rintro ⟨u0, u1, u2, u3, u4, u5⟩ e
       simp only [Prod.mk.injEq] at e
       obtain ⟨e0, e1, e2, e3, e4, e5⟩ := e
       refine le_auto hk ?_
       (try cbv); (try simp only [choice_lk, lock_eq, and_self, and_true, true_and]); (try first | exact e | exact e.symm | (and_intros <;> first | assumption | rfl | exact Eq.symm (by assumption)))
      ·clear hr
       intro x bb1 hr ht1
       obtain ⟨i1, b1, i2, i3, i4, r3⟩ := x
       as_aux_lemma =>
       constructor
       unfold F_tollbarlaw32_JournalDoes_L1 at hr
       (try dsimp only at hr)
       (try cbv)
       refine sel_intro (fun h => ?_) (fun h => ?_)
       ·as_aux_lemma =>
        have h1 : (ilt i1 (ofN (xlen r2))) = true := by first | exact h | (have h2 := h; simp only [choice_lk, lock_eq] at h2; exact h2) | (simp only [choice_lk, lock_eq] at h; exact h)
        rw [if_pos h1] at hr
        (try cbv)
        have gg := guard_inv hr
        have g := gg.1
        replace hr := gg.2
        clear gg
        refine ⟨obl.2 (by first | (simp only [choice_lk, lock_eq, R.len, R.sub]; exact g) | exact g), ?_⟩
        refine sel_intro (fun h => ?_) (fun h => ?_)
        ·have h1 : (ieq (ofN (xlen (D.toS (D.fld (getD r2 (toN i1)) 1)))) (64 : Int)) = true := by first | exact h | (have h2 := h; simp only [choice_lk, lock_eq] at h2; exact h2) | (simp only [choice_lk, lock_eq] at h; exact h)
         rw [if_pos h1] at hr
         (try cbv)
         have gg := guard_inv hr
         have g := gg.1
         replace hr := gg.2
         clear gg
         refine ⟨obl.2 (by first | (simp only [choice_lk, lock_eq, R.len, R.sub]; exact g) | exact g), ?_⟩
         have gg := guard_inv hr
         have g := gg.1
         replace hr := gg.2
         clear gg
         refine ⟨obl.2 (by first | (simp only [choice_lk, lock_eq, R.len, R.sub]; exact g) | exact g), ?_⟩
         have hqe : ∃ qq, F_block_Device_Write_3 (D.toI (D.fld (getD r2 (toN i1)) 0)) (D.toS (D.fld (getD r2 (toN i1)) 1)) = some qq := by
          cases hq : F_block_Device_Write_3 (D.toI (D.fld (getD r2 (toN i1)) 0)) (D.toS (D.fld (getD r2 (toN i1)) 1)) with
          | none => rw [hq] at hr; cases hr
          | some qq => exact ⟨qq, rfl⟩
         refine ⟨(by simp only [choice_lk, lock_eq]; exact hqe), obl.2 (by simp only [choice_lk, lock_eq]; exact hqe), (by rintro (_) _ <;> cbv), ?_⟩
         clear hqe
         intro qq hx8
         simp only [choice_lk, lock_eq] at hx8
         rcases qq with _
         all_goals (rw [hx8] at hr; dsimp only at hr; constructor; (try cbv))
         have gg := guard_inv hr
         have g := gg.1
         replace hr := gg.2
         clear gg
         refine ⟨obl.2 (by first | (simp only [choice_lk, lock_eq, R.len, R.sub]; exact g) | exact g), ?_⟩
         have gg := guard_inv hr
         have g := gg.1
         replace hr := gg.2
         clear gg
         refine ⟨obl.2 (by first | (simp only [choice_lk, lock_eq, R.len, R.sub]; exact g) | exact g), ?_⟩
         have hqe : ∃ qq, F_tollbarref31_Write b1 i2 i3 i4 (D.toI (D.fld (getD r2 (toN i1)) 0)) (D.toS (D.fld (getD r2 (toN i1)) 1)) r3 = some qq := by
          cases hq : F_tollbarref31_Write b1 i2 i3 i4 (D.toI (D.fld (getD r2 (toN i1)) 0)) (D.toS (D.fld (getD r2 (toN i1)) 1)) r3 with
          | none => rw [hq] at hr; cases hr
          | some qq => exact ⟨qq, rfl⟩
         refine ⟨(by simp only [choice_lk, lock_eq]; exact hqe), obl.2 (by simp only [choice_lk, lock_eq]; exact hqe), (by rintro (⟨_, _, _, _, _, _⟩) _ <;> cbv), ?_⟩
         clear hqe
         intro qq hx9
         simp only [choice_lk, lock_eq] at hx9
         rcases qq with ⟨c4, y9, y10, y11, y12, q5⟩
         all_goals (rw [hx9] at hr; dsimp only at hr; constructor; (try cbv))
         apply Hidden.out
         obtain rfl := Option.some.inj hr
         constructor
         refine ⟨⟨_, rfl⟩, ?_⟩
         rintro ⟨u0, u1, u2, u3, u4, u5⟩ e
         replace e := Sum.inl.inj e
         simp only [Prod.mk.injEq] at e
         obtain ⟨e0, e1, e2, e3, e4, e5⟩ := e
         refine le_auto hk ?_
         (try cbv); (try simp only [choice_lk, lock_eq, and_self, and_true, true_and]); (try first | exact e | exact e.symm | (and_intros <;> first | assumption | rfl | exact Eq.symm (by assumption)))
        ·have h1 : (ieq (ofN (xlen (D.toS (D.fld (getD r2 (toN i1)) 1)))) (64 : Int)) = false := by first | exact h | (have h2 := h; simp only [choice_lk, lock_eq] at h2; exact h2) | (simp only [choice_lk, lock_eq] at h; exact h)
         rw [if_neg (by rw [h1]; exact Bool.false_ne_true)] at hr
         (try cbv)
         apply Hidden.out
         obtain rfl := Option.some.inj hr
         constructor
         refine ⟨⟨_, rfl⟩, ?_⟩
         rintro ⟨u0, u1, u2, u3, u4, u5⟩ e
         replace e := Sum.inl.inj e
         simp only [Prod.mk.injEq] at e
         obtain ⟨e0, e1, e2, e3, e4, e5⟩ := e
         refine le_auto hk ?_
         (try cbv); (try simp only [choice_lk, lock_eq, and_self, and_true, true_and]); (try first | exact e | exact e.symm | (and_intros <;> first | assumption | rfl | exact Eq.symm (by assumption)))
       ·as_aux_lemma =>
        have h1 : (ilt i1 (ofN (xlen r2))) = false := by first | exact h | (have h2 := h; simp only [choice_lk, lock_eq] at h2; exact h2) | (simp only [choice_lk, lock_eq] at h; exact h)
        rw [if_neg (by rw [h1]; exact Bool.false_ne_true)] at hr
        (try cbv)
        apply Hidden.out
        obtain ⟨t, hr2, hw⟩ := map_inv hr
        clear hr
        subst hw
        have e := (ht1 _ rfl).symm
        subst e
        have hr := hr2
        clear hr2
        constructor
        refine LoopOK.iter T (drawOK T hm) (B := (F_tollbarlaw32_JournalDoes_L2 r1)) hr (fun | (i5, b2, i6, i7, i8, r4) => ⟨mkFr [(0, (.rsl (.row 47 (.st [(.int .u16), (.int .u8), (.int .u8), (.int .u8)]) r1))), (6, (.v (.pointer none))), (7, (.ptr 0 0)), (11, (.v (.int .i64 i5)))] 181 0, [(0, .blk 39 [(.wsl 1), (.v (.bool b2)), (.v (.int .i64 i6)), (.v (.int .i64 i7)), (.v (.int .i64 i8))]), (1, .row (.row 9 .str r4))], 2⟩) ?_ ?_
        ·rintro ⟨u0, u1, u2, u3, u4, u5⟩ e
         simp only [Prod.mk.injEq] at e
         obtain ⟨e0, e1, e2, e3, e4, e5⟩ := e
         refine le_auto hk ?_
         (try cbv); (try simp only [choice_lk, lock_eq, and_self, and_true, true_and]); (try first | exact e | exact e.symm | (and_intros <;> first | assumption | rfl | exact Eq.symm (by assumption)))
        ·clear hr
         intro x bb1 hr ht1
         obtain ⟨i5, b2, i6, i7, i8, r4⟩ := x
         as_aux_lemma =>
         constructor
         unfold F_tollbarlaw32_JournalDoes_L2 at hr
         (try dsimp only at hr)
         (try cbv)
         refine sel_intro (fun h => ?_) (fun h => ?_)
         ·as_aux_lemma =>
          have h1 : (ilt i5 (ofN (xlen r1))) = true := by first | exact h | (have h2 := h; simp only [choice_lk, lock_eq] at h2; exact h2) | (simp only [choice_lk, lock_eq] at h; exact h)
          rw [if_pos h1] at hr
          (try cbv)
          have gg := guard_inv hr
          have g := gg.1
          replace hr := gg.2
          clear gg
          refine ⟨obl.2 (by first | (simp only [choice_lk, lock_eq, R.len, R.sub]; exact g) | exact g), ?_⟩
          refine sel_intro (fun h => ?_) (fun h => ?_)
          ·as_aux_lemma =>
           have h1 : (ile (D.toI (D.fld (getD r1 (toN i5)) 2)) (200 : Int)) = true := by first | exact h | (have h2 := h; simp only [choice_lk, lock_eq] at h2; exact h2) | (simp only [choice_lk, lock_eq] at h; exact h)
           rw [if_pos h1] at hr
           (try cbv)
           have hqe : ∃ qq, F_block_Device_Arm (iconv .i64 (D.toI (D.fld (getD r1 (toN i5)) 2))) (iconv .i64 (irem (D.toI (D.fld (getD r1 (toN i5)) 3)) (65 : Int))) = some qq := by
            cases hq : F_block_Device_Arm (iconv .i64 (D.toI (D.fld (getD r1 (toN i5)) 2))) (iconv .i64 (irem (D.toI (D.fld (getD r1 (toN i5)) 3)) (65 : Int))) with
            | none => rw [hq] at hr; cases hr
            | some qq => exact ⟨qq, rfl⟩
           refine ⟨obl.2 (by simp only [choice_lk, lock_eq]; exact hqe), (by rintro (_) _ <;> cbv), ?_⟩
           clear hqe
           intro qq hx54
           simp only [choice_lk, lock_eq] at hx54
           rcases qq with _
           all_goals (rw [hx54] at hr; dsimp only at hr; constructor; (try cbv))
           have hqe : ∃ qq, F_tollbarref31_Arm b2 i6 i7 i8 (iconv .i64 (D.toI (D.fld (getD r1 (toN i5)) 2))) (iconv .i64 (irem (D.toI (D.fld (getD r1 (toN i5)) 3)) (65 : Int))) r4 = some qq := by
            cases hq : F_tollbarref31_Arm b2 i6 i7 i8 (iconv .i64 (D.toI (D.fld (getD r1 (toN i5)) 2))) (iconv .i64 (irem (D.toI (D.fld (getD r1 (toN i5)) 3)) (65 : Int))) r4 with
            | none => rw [hq] at hr; cases hr
            | some qq => exact ⟨qq, rfl⟩
           refine ⟨obl.2 (by simp only [choice_lk, lock_eq]; exact hqe), (by rintro (⟨_, _, _⟩) _ <;> cbv), ?_⟩
           clear hqe
           intro qq hx55
           simp only [choice_lk, lock_eq] at hx55
           rcases qq with ⟨y51, y52, y53⟩
           all_goals (rw [hx55] at hr; dsimp only at hr; constructor; (try cbv))
           have hqe : ∃ qq, F_tollbarlaw32_bytes (D.toI (D.fld (getD r1 (toN i5)) 0)) (D.toI (D.fld (getD r1 (toN i5)) 1)) (D.toI (D.fld (getD r1 (toN i5)) 2)) (D.toI (D.fld (getD r1 (toN i5)) 3)) = some qq := by
            cases hq : F_tollbarlaw32_bytes (D.toI (D.fld (getD r1 (toN i5)) 0)) (D.toI (D.fld (getD r1 (toN i5)) 1)) (D.toI (D.fld (getD r1 (toN i5)) 2)) (D.toI (D.fld (getD r1 (toN i5)) 3)) with
            | none => rw [hq] at hr; cases hr
            | some qq => exact ⟨qq, rfl⟩
           refine ⟨(by simp only [choice_lk, lock_eq]; exact hqe), obl.2 (by simp only [choice_lk, lock_eq]; exact hqe), (by rintro (_) _ <;> cbv), ?_⟩
           clear hqe
           intro t13 hx56
           simp only [choice_lk, lock_eq] at hx56
           all_goals (rw [hx56] at hr; dsimp only at hr; constructor; (try cbv))
           have hqe : ∃ qq, F_tollbarref32_Save b2 y51 y52 i8 t13 r4 = some qq := by
            cases hq : F_tollbarref32_Save b2 y51 y52 i8 t13 r4 with
            | none => rw [hq] at hr; cases hr
            | some qq => exact ⟨qq, rfl⟩
           refine ⟨(by simp only [choice_lk, lock_eq]; exact hqe), obl.2 (by simp only [choice_lk, lock_eq]; exact hqe), (by rintro (⟨_, _, _, _, _, _⟩) _ <;> cbv), ?_⟩
           clear hqe
           intro qq hx57
           simp only [choice_lk, lock_eq] at hx57
           rcases qq with ⟨c9, y54, y55, y56, y57, q10⟩
           all_goals (rw [hx57] at hr; dsimp only at hr; constructor; (try cbv))
           refine ⟨obl.2 (by simp only [choice_lk, lock_eq]; exact ⟨_, hx56⟩), (by rintro (_) _ <;> cbv), ?_⟩
           intro qq hx
           simp only [choice_lk, lock_eq] at hx
           obtain rfl := Option.some.inj (hx56.symm.trans hx)
           constructor
           (try cbv)
           have hqe : ∃ qq, F_journal_Save_2 t13 = some qq := by
            cases hq : F_journal_Save_2 t13 with
            | none => rw [hq] at hr; cases hr
            | some qq => exact ⟨qq, rfl⟩
           refine ⟨obl.2 (by simp only [choice_lk, lock_eq]; exact hqe), (by rintro (_) _ <;> cbv), ?_⟩
           clear hqe
           intro qq hx59
           simp only [choice_lk, lock_eq] at hx59
           rcases qq with _
           all_goals (rw [hx59] at hr; dsimp only at hr; constructor; (try cbv))
           refine sel_intro (fun h => ?_) (fun h => ?_)
           ·have h1 : (ieq (1 : Int) y57) = false := by first | exact (bnot_t.1 h) | (have h2 := (bnot_t.1 h); simp only [choice_lk, lock_eq] at h2; exact h2) | (simp only [choice_lk, lock_eq] at h; exact (bnot_t.1 h))
            rw [if_neg (by rw [h1]; exact Bool.false_ne_true)] at hr
            (try cbv)
            apply Hidden.out
            obtain rfl := Option.some.inj hr
            have e := ht1 _ rfl
            constructor
            refine ⟨_, hF, ?_⟩
            (try cbv); (try simp only [choice_lk, lock_eq, and_self, and_true, true_and]); (try first | exact e | exact e.symm | (and_intros <;> first | assumption | rfl | exact Eq.symm (by assumption)))
           ·as_aux_lemma =>
            have h1 : (ieq (1 : Int) y57) = true := by first | exact (bnot_f.1 h) | (have h2 := (bnot_f.1 h); simp only [choice_lk, lock_eq] at h2; exact h2) | (simp only [choice_lk, lock_eq] at h; exact (bnot_f.1 h))
            rw [if_pos h1] at hr
            (try cbv)
            have hqe : ∃ qq, F_journal_Load_2 = some qq := by
             cases hq : F_journal_Load_2 with
             | none => rw [hq] at hr; cases hr
             | some qq => exact ⟨qq, rfl⟩
            refine ⟨obl.2 (by simp only [choice_lk, lock_eq]; exact hqe), (by rintro (_) _ <;> cbv), ?_⟩
            clear hqe
            intro qq hx60
            simp only [choice_lk, lock_eq] at hx60
            rcases qq with _
            all_goals (rw [hx60] at hr; dsimp only at hr; constructor; (try cbv))
            have hqe : ∃ qq, F_tollbarref32_Load c9 y54 y55 y56 q10 = some qq := by
             cases hq : F_tollbarref32_Load c9 y54 y55 y56 q10 with
             | none => rw [hq] at hr; cases hr
             | some qq => exact ⟨qq, rfl⟩
            refine ⟨obl.2 (by simp only [choice_lk, lock_eq]; exact hqe), (by rintro (⟨_, _, _⟩) _ <;> cbv), ?_⟩
            clear hqe
            intro qq hx61
            simp only [choice_lk, lock_eq] at hx61
            rcases qq with ⟨t14, y58, y59⟩
            all_goals (rw [hx61] at hr; dsimp only at hr; constructor; (try cbv))
            have hqe : ∃ qq, F_block_Device_Up = some qq := by
             cases hq : F_block_Device_Up with
             | none => rw [hq] at hr; cases hr
             | some qq => exact ⟨qq, rfl⟩
            refine ⟨obl.2 (by simp only [choice_lk, lock_eq]; exact hqe), (by rintro (_) _ <;> cbv), ?_⟩
            clear hqe
            intro qq hx62
            simp only [choice_lk, lock_eq] at hx62
            rcases qq with _
            all_goals (rw [hx62] at hr; dsimp only at hr; constructor; (try cbv))
            have hqe : ∃ qq, F_tollbarref31_Up c9 y54 y55 y56 q10 = some qq := by
             cases hq : F_tollbarref31_Up c9 y54 y55 y56 q10 with
             | none => rw [hq] at hr; cases hr
             | some qq => exact ⟨qq, rfl⟩
            refine ⟨obl.2 (by simp only [choice_lk, lock_eq]; exact hqe), (by rintro (_) _ <;> cbv), ?_⟩
            clear hqe
            intro qq hx63
            simp only [choice_lk, lock_eq] at hx63
            rcases qq with _
            all_goals (rw [hx63] at hr; dsimp only at hr; constructor; (try cbv))
            refine ⟨obl.2 (by simp only [choice_lk, lock_eq]; exact ⟨_, hx60⟩), (by rintro (_) _ <;> cbv), ?_⟩
            intro qq hx
            simp only [choice_lk, lock_eq] at hx
            obtain rfl := Option.some.inj (hx60.symm.trans hx)
            constructor
            (try cbv)
            have hqe : ∃ qq, F_tollbarref32_Load false (-1 : Int) (0 : Int) y56 q10 = some qq := by
             cases hq : F_tollbarref32_Load false (-1 : Int) (0 : Int) y56 q10 with
             | none => rw [hq] at hr; cases hr
             | some qq => exact ⟨qq, rfl⟩
            refine ⟨obl.2 (by simp only [choice_lk, lock_eq]; exact hqe), (by rintro (⟨_, _, _⟩) _ <;> cbv), ?_⟩
            clear hqe
            intro qq hx65
            simp only [choice_lk, lock_eq] at hx65
            rcases qq with ⟨t15, y60, y61⟩
            all_goals (rw [hx65] at hr; dsimp only at hr; constructor; (try cbv))
            refine sel_intro (fun h => ?_) (fun h => ?_)
            ·have h1 : (ieq (1 : Int) y59) = false := by first | exact (bnot_t.1 h) | (have h2 := (bnot_t.1 h); simp only [choice_lk, lock_eq] at h2; exact h2) | (simp only [choice_lk, lock_eq] at h; exact (bnot_t.1 h))
             rw [if_neg (by rw [h1]; exact Bool.false_ne_true)] at hr
             (try cbv)
             apply Hidden.out
             obtain rfl := Option.some.inj hr
             have e := ht1 _ rfl
             constructor
             refine ⟨_, hF, ?_⟩
             (try cbv); (try simp only [choice_lk, lock_eq, and_self, and_true, true_and]); (try first | exact e | exact e.symm | (and_intros <;> first | assumption | rfl | exact Eq.symm (by assumption)))
            ·have h1 : (ieq (1 : Int) y59) = true := by first | exact (bnot_f.1 h) | (have h2 := (bnot_f.1 h); simp only [choice_lk, lock_eq] at h2; exact h2) | (simp only [choice_lk, lock_eq] at h; exact (bnot_f.1 h))
             rw [if_pos h1] at hr
             (try cbv)
             refine sel_intro (fun h => ?_) (fun h => ?_)
             ·have h1 : (seq ([] : List UInt8) t15) = false := by first | exact (bnot_t.1 h) | (have h2 := (bnot_t.1 h); simp only [choice_lk, lock_eq] at h2; exact h2) | (simp only [choice_lk, lock_eq] at h; exact (bnot_t.1 h))
              rw [if_neg (by rw [h1]; exact Bool.false_ne_true)] at hr
              (try cbv)
              apply Hidden.out
              obtain rfl := Option.some.inj hr
              have e := ht1 _ rfl
              constructor
              refine ⟨_, hF, ?_⟩
              (try cbv); (try simp only [choice_lk, lock_eq, and_self, and_true, true_and]); (try first | exact e | exact e.symm | (and_intros <;> first | assumption | rfl | exact Eq.symm (by assumption)))
             ·have h1 : (seq ([] : List UInt8) t15) = true := by first | exact (bnot_f.1 h) | (have h2 := (bnot_f.1 h); simp only [choice_lk, lock_eq] at h2; exact h2) | (simp only [choice_lk, lock_eq] at h; exact (bnot_f.1 h))
              rw [if_pos h1] at hr
              (try cbv)
              refine sel_intro (fun h => ?_) (fun h => ?_)
              ·have h1 : (ieq (0 : Int) y60) = false := by first | exact (bnot_t.1 h) | (have h2 := (bnot_t.1 h); simp only [choice_lk, lock_eq] at h2; exact h2) | (simp only [choice_lk, lock_eq] at h; exact (bnot_t.1 h))
               rw [if_neg (by rw [h1]; exact Bool.false_ne_true)] at hr
               (try cbv)
               apply Hidden.out
               obtain rfl := Option.some.inj hr
               have e := ht1 _ rfl
               constructor
               refine ⟨_, hF, ?_⟩
               (try cbv); (try simp only [choice_lk, lock_eq, and_self, and_true, true_and]); (try first | exact e | exact e.symm | (and_intros <;> first | assumption | rfl | exact Eq.symm (by assumption)))
              ·have h1 : (ieq (0 : Int) y60) = true := by first | exact (bnot_f.1 h) | (have h2 := (bnot_f.1 h); simp only [choice_lk, lock_eq] at h2; exact h2) | (simp only [choice_lk, lock_eq] at h; exact (bnot_f.1 h))
               rw [if_pos h1] at hr
               (try cbv)
               refine sel_intro (fun h => ?_) (fun h => ?_)
               ·have h1 : (ieq (1 : Int) y61) = false := by first | exact (bnot_t.1 h) | (have h2 := (bnot_t.1 h); simp only [choice_lk, lock_eq] at h2; exact h2) | (simp only [choice_lk, lock_eq] at h; exact (bnot_t.1 h))
                rw [if_neg (by rw [h1]; exact Bool.false_ne_true)] at hr
                (try cbv)
                apply Hidden.out
                obtain rfl := Option.some.inj hr
                have e := ht1 _ rfl
                constructor
                refine ⟨_, hF, ?_⟩
                (try cbv); (try simp only [choice_lk, lock_eq, and_self, and_true, true_and]); (try first | exact e | exact e.symm | (and_intros <;> first | assumption | rfl | exact Eq.symm (by assumption)))
               ·have h1 : (ieq (1 : Int) y61) = true := by first | exact (bnot_f.1 h) | (have h2 := (bnot_f.1 h); simp only [choice_lk, lock_eq] at h2; exact h2) | (simp only [choice_lk, lock_eq] at h; exact (bnot_f.1 h))
                rw [if_pos h1] at hr
                (try cbv)
                apply Hidden.out
                obtain rfl := Option.some.inj hr
                constructor
                refine ⟨⟨_, rfl⟩, ?_⟩
                rintro ⟨u0, u1, u2, u3, u4, u5⟩ e
                replace e := Sum.inl.inj e
                simp only [Prod.mk.injEq] at e
                obtain ⟨e0, e1, e2, e3, e4, e5⟩ := e
                refine le_auto hk ?_
                (try cbv); (try simp only [choice_lk, lock_eq, and_self, and_true, true_and]); (try first | exact e | exact e.symm | (and_intros <;> first | assumption | rfl | exact Eq.symm (by assumption)))
          ·as_aux_lemma =>
           have h1 : (ile (D.toI (D.fld (getD r1 (toN i5)) 2)) (200 : Int)) = false := by first | exact h | (have h2 := h; simp only [choice_lk, lock_eq] at h2; exact h2) | (simp only [choice_lk, lock_eq] at h; exact h)
           rw [if_neg (by rw [h1]; exact Bool.false_ne_true)] at hr
           (try cbv)
           have hqe : ∃ qq, F_tollbarlaw32_bytes (D.toI (D.fld (getD r1 (toN i5)) 0)) (D.toI (D.fld (getD r1 (toN i5)) 1)) (D.toI (D.fld (getD r1 (toN i5)) 2)) (D.toI (D.fld (getD r1 (toN i5)) 3)) = some qq := by
            cases hq : F_tollbarlaw32_bytes (D.toI (D.fld (getD r1 (toN i5)) 0)) (D.toI (D.fld (getD r1 (toN i5)) 1)) (D.toI (D.fld (getD r1 (toN i5)) 2)) (D.toI (D.fld (getD r1 (toN i5)) 3)) with
            | none => rw [hq] at hr; cases hr
            | some qq => exact ⟨qq, rfl⟩
           refine ⟨(by simp only [choice_lk, lock_eq]; exact hqe), obl.2 (by simp only [choice_lk, lock_eq]; exact hqe), (by rintro (_) _ <;> cbv), ?_⟩
           clear hqe
           intro t16 hx66
           simp only [choice_lk, lock_eq] at hx66
           all_goals (rw [hx66] at hr; dsimp only at hr; constructor; (try cbv))
           have hqe : ∃ qq, F_tollbarref32_Save b2 i6 i7 i8 t16 r4 = some qq := by
            cases hq : F_tollbarref32_Save b2 i6 i7 i8 t16 r4 with
            | none => rw [hq] at hr; cases hr
            | some qq => exact ⟨qq, rfl⟩
           refine ⟨(by simp only [choice_lk, lock_eq]; exact hqe), obl.2 (by simp only [choice_lk, lock_eq]; exact hqe), (by rintro (⟨_, _, _, _, _, _⟩) _ <;> cbv), ?_⟩
           clear hqe
           intro qq hx67
           simp only [choice_lk, lock_eq] at hx67
           rcases qq with ⟨c10, y62, y63, y64, y65, q11⟩
           all_goals (rw [hx67] at hr; dsimp only at hr; constructor; (try cbv))
           refine ⟨obl.2 (by simp only [choice_lk, lock_eq]; exact ⟨_, hx66⟩), (by rintro (_) _ <;> cbv), ?_⟩
           intro qq hx
           simp only [choice_lk, lock_eq] at hx
           obtain rfl := Option.some.inj (hx66.symm.trans hx)
           constructor
           (try cbv)
           have hqe : ∃ qq, F_journal_Save_2 t16 = some qq := by
            cases hq : F_journal_Save_2 t16 with
            | none => rw [hq] at hr; cases hr
            | some qq => exact ⟨qq, rfl⟩
           refine ⟨obl.2 (by simp only [choice_lk, lock_eq]; exact hqe), (by rintro (_) _ <;> cbv), ?_⟩
           clear hqe
           intro qq hx69
           simp only [choice_lk, lock_eq] at hx69
           rcases qq with _
           all_goals (rw [hx69] at hr; dsimp only at hr; constructor; (try cbv))
           refine sel_intro (fun h => ?_) (fun h => ?_)
           ·have h1 : (ieq (1 : Int) y65) = false := by first | exact (bnot_t.1 h) | (have h2 := (bnot_t.1 h); simp only [choice_lk, lock_eq] at h2; exact h2) | (simp only [choice_lk, lock_eq] at h; exact (bnot_t.1 h))
            rw [if_neg (by rw [h1]; exact Bool.false_ne_true)] at hr
            (try cbv)
            apply Hidden.out
            obtain rfl := Option.some.inj hr
            have e := ht1 _ rfl
            constructor
            refine ⟨_, hF, ?_⟩
            (try cbv); (try simp only [choice_lk, lock_eq, and_self, and_true, true_and]); (try first | exact e | exact e.symm | (and_intros <;> first | assumption | rfl | exact Eq.symm (by assumption)))
           ·as_aux_lemma =>
            have h1 : (ieq (1 : Int) y65) = true := by first | exact (bnot_f.1 h) | (have h2 := (bnot_f.1 h); simp only [choice_lk, lock_eq] at h2; exact h2) | (simp only [choice_lk, lock_eq] at h; exact (bnot_f.1 h))
            rw [if_pos h1] at hr
            (try cbv)
            have hqe : ∃ qq, F_journal_Load_2 = some qq := by
             cases hq : F_journal_Load_2 with
             | none => rw [hq] at hr; cases hr
             | some qq => exact ⟨qq, rfl⟩
            refine ⟨obl.2 (by simp only [choice_lk, lock_eq]; exact hqe), (by rintro (_) _ <;> cbv), ?_⟩
            clear hqe
            intro qq hx70
            simp only [choice_lk, lock_eq] at hx70
            rcases qq with _
            all_goals (rw [hx70] at hr; dsimp only at hr; constructor; (try cbv))
            have hqe : ∃ qq, F_tollbarref32_Load c10 y62 y63 y64 q11 = some qq := by
             cases hq : F_tollbarref32_Load c10 y62 y63 y64 q11 with
             | none => rw [hq] at hr; cases hr
             | some qq => exact ⟨qq, rfl⟩
            refine ⟨obl.2 (by simp only [choice_lk, lock_eq]; exact hqe), (by rintro (⟨_, _, _⟩) _ <;> cbv), ?_⟩
            clear hqe
            intro qq hx71
            simp only [choice_lk, lock_eq] at hx71
            rcases qq with ⟨t17, y66, y67⟩
            all_goals (rw [hx71] at hr; dsimp only at hr; constructor; (try cbv))
            have hqe : ∃ qq, F_block_Device_Up = some qq := by
             cases hq : F_block_Device_Up with
             | none => rw [hq] at hr; cases hr
             | some qq => exact ⟨qq, rfl⟩
            refine ⟨obl.2 (by simp only [choice_lk, lock_eq]; exact hqe), (by rintro (_) _ <;> cbv), ?_⟩
            clear hqe
            intro qq hx72
            simp only [choice_lk, lock_eq] at hx72
            rcases qq with _
            all_goals (rw [hx72] at hr; dsimp only at hr; constructor; (try cbv))
            have hqe : ∃ qq, F_tollbarref31_Up c10 y62 y63 y64 q11 = some qq := by
             cases hq : F_tollbarref31_Up c10 y62 y63 y64 q11 with
             | none => rw [hq] at hr; cases hr
             | some qq => exact ⟨qq, rfl⟩
            refine ⟨obl.2 (by simp only [choice_lk, lock_eq]; exact hqe), (by rintro (_) _ <;> cbv), ?_⟩
            clear hqe
            intro qq hx73
            simp only [choice_lk, lock_eq] at hx73
            rcases qq with _
            all_goals (rw [hx73] at hr; dsimp only at hr; constructor; (try cbv))
            refine ⟨obl.2 (by simp only [choice_lk, lock_eq]; exact ⟨_, hx70⟩), (by rintro (_) _ <;> cbv), ?_⟩
            intro qq hx
            simp only [choice_lk, lock_eq] at hx
            obtain rfl := Option.some.inj (hx70.symm.trans hx)
            constructor
            (try cbv)
            have hqe : ∃ qq, F_tollbarref32_Load false (-1 : Int) (0 : Int) y64 q11 = some qq := by
             cases hq : F_tollbarref32_Load false (-1 : Int) (0 : Int) y64 q11 with
             | none => rw [hq] at hr; cases hr
             | some qq => exact ⟨qq, rfl⟩
            refine ⟨obl.2 (by simp only [choice_lk, lock_eq]; exact hqe), (by rintro (⟨_, _, _⟩) _ <;> cbv), ?_⟩
            clear hqe
            intro qq hx75
            simp only [choice_lk, lock_eq] at hx75
            rcases qq with ⟨t18, y68, y69⟩
            all_goals (rw [hx75] at hr; dsimp only at hr; constructor; (try cbv))
            refine sel_intro (fun h => ?_) (fun h => ?_)
            ·have h1 : (ieq (1 : Int) y67) = false := by first | exact (bnot_t.1 h) | (have h2 := (bnot_t.1 h); simp only [choice_lk, lock_eq] at h2; exact h2) | (simp only [choice_lk, lock_eq] at h; exact (bnot_t.1 h))
             rw [if_neg (by rw [h1]; exact Bool.false_ne_true)] at hr
             (try cbv)
             apply Hidden.out
             obtain rfl := Option.some.inj hr
             have e := ht1 _ rfl
             constructor
             refine ⟨_, hF, ?_⟩
             (try cbv); (try simp only [choice_lk, lock_eq, and_self, and_true, true_and]); (try first | exact e | exact e.symm | (and_intros <;> first | assumption | rfl | exact Eq.symm (by assumption)))
            ·have h1 : (ieq (1 : Int) y67) = true := by first | exact (bnot_f.1 h) | (have h2 := (bnot_f.1 h); simp only [choice_lk, lock_eq] at h2; exact h2) | (simp only [choice_lk, lock_eq] at h; exact (bnot_f.1 h))
             rw [if_pos h1] at hr
             (try cbv)
             refine sel_intro (fun h => ?_) (fun h => ?_)
             ·have h1 : (seq ([] : List UInt8) t18) = false := by first | exact (bnot_t.1 h) | (have h2 := (bnot_t.1 h); simp only [choice_lk, lock_eq] at h2; exact h2) | (simp only [choice_lk, lock_eq] at h; exact (bnot_t.1 h))
              rw [if_neg (by rw [h1]; exact Bool.false_ne_true)] at hr
              (try cbv)
              apply Hidden.out
              obtain rfl := Option.some.inj hr
              have e := ht1 _ rfl
              constructor
              refine ⟨_, hF, ?_⟩
              (try cbv); (try simp only [choice_lk, lock_eq, and_self, and_true, true_and]); (try first | exact e | exact e.symm | (and_intros <;> first | assumption | rfl | exact Eq.symm (by assumption)))
             ·have h1 : (seq ([] : List UInt8) t18) = true := by first | exact (bnot_f.1 h) | (have h2 := (bnot_f.1 h); simp only [choice_lk, lock_eq] at h2; exact h2) | (simp only [choice_lk, lock_eq] at h; exact (bnot_f.1 h))
              rw [if_pos h1] at hr
              (try cbv)
              refine sel_intro (fun h => ?_) (fun h => ?_)
              ·have h1 : (ieq (0 : Int) y68) = false := by first | exact (bnot_t.1 h) | (have h2 := (bnot_t.1 h); simp only [choice_lk, lock_eq] at h2; exact h2) | (simp only [choice_lk, lock_eq] at h; exact (bnot_t.1 h))
               rw [if_neg (by rw [h1]; exact Bool.false_ne_true)] at hr
               (try cbv)
               apply Hidden.out
               obtain rfl := Option.some.inj hr
               have e := ht1 _ rfl
               constructor
               refine ⟨_, hF, ?_⟩
               (try cbv); (try simp only [choice_lk, lock_eq, and_self, and_true, true_and]); (try first | exact e | exact e.symm | (and_intros <;> first | assumption | rfl | exact Eq.symm (by assumption)))
              ·have h1 : (ieq (0 : Int) y68) = true := by first | exact (bnot_f.1 h) | (have h2 := (bnot_f.1 h); simp only [choice_lk, lock_eq] at h2; exact h2) | (simp only [choice_lk, lock_eq] at h; exact (bnot_f.1 h))
               rw [if_pos h1] at hr
               (try cbv)
               refine sel_intro (fun h => ?_) (fun h => ?_)
               ·have h1 : (ieq (1 : Int) y69) = false := by first | exact (bnot_t.1 h) | (have h2 := (bnot_t.1 h); simp only [choice_lk, lock_eq] at h2; exact h2) | (simp only [choice_lk, lock_eq] at h; exact (bnot_t.1 h))
                rw [if_neg (by rw [h1]; exact Bool.false_ne_true)] at hr
                (try cbv)
                apply Hidden.out
                obtain rfl := Option.some.inj hr
                have e := ht1 _ rfl
                constructor
                refine ⟨_, hF, ?_⟩
                (try cbv); (try simp only [choice_lk, lock_eq, and_self, and_true, true_and]); (try first | exact e | exact e.symm | (and_intros <;> first | assumption | rfl | exact Eq.symm (by assumption)))
               ·have h1 : (ieq (1 : Int) y69) = true := by first | exact (bnot_f.1 h) | (have h2 := (bnot_f.1 h); simp only [choice_lk, lock_eq] at h2; exact h2) | (simp only [choice_lk, lock_eq] at h; exact (bnot_f.1 h))
                rw [if_pos h1] at hr
                (try cbv)
                apply Hidden.out
                obtain rfl := Option.some.inj hr
                constructor
                refine ⟨⟨_, rfl⟩, ?_⟩
                rintro ⟨u0, u1, u2, u3, u4, u5⟩ e
                replace e := Sum.inl.inj e
                simp only [Prod.mk.injEq] at e
                obtain ⟨e0, e1, e2, e3, e4, e5⟩ := e
                refine le_auto hk ?_
                (try cbv); (try simp only [choice_lk, lock_eq, and_self, and_true, true_and]); (try first | exact e | exact e.symm | (and_intros <;> first | assumption | rfl | exact Eq.symm (by assumption)))
         ·have h1 : (ilt i5 (ofN (xlen r1))) = false := by first | exact h | (have h2 := h; simp only [choice_lk, lock_eq] at h2; exact h2) | (simp only [choice_lk, lock_eq] at h; exact h)
          rw [if_neg (by rw [h1]; exact Bool.false_ne_true)] at hr
          (try cbv)
          apply Hidden.out
          obtain rfl := Option.some.inj hr
          have e := ht1 _ rfl
          constructor
          refine ⟨_, hF, ?_⟩
          (try cbv); (try simp only [choice_lk, lock_eq, and_self, and_true, true_and]); (try first | exact e | exact e.symm | (and_intros <;> first | assumption | rfl | exact Eq.symm (by assumption)))
     ·have hqe : ∃ qq, F_tollbarref31_New (261 : Int) = some qq := by
       cases hq : F_tollbarref31_New (261 : Int) with
       | none => rw [hq] at hr; cases hr
       | some qq => exact ⟨qq, rfl⟩
      refine ⟨obl.2 (by simp only [choice_lk, lock_eq]; exact hqe), (by rintro (_) _ <;> cbv), ?_⟩
      clear hqe
      intro q12 hx76
      simp only [choice_lk, lock_eq] at hx76
      all_goals (rw [hx76] at hr; dsimp only at hr; constructor; (try cbv))
      refine LoopOK.iter T (drawOK T hm) (B := (F_tollbarlaw32_JournalDoes_L3 r2 r1)) hr (fun | (i9, i10, b3, i11, i12, i13, r5, r6) => ⟨mkFr [(0, (.rsl (.row 47 (.st [(.int .u16), (.int .u8), (.int .u8), (.int .u8)]) r1))), (1, (.rsl (.row 42 (.st [(.int .i64), .str]) r2))), (6, (.ptr 0 0)), (7, (.ptr 1 0)), (8, (.v (.int .i64 i9)))] 181 0, [(0, .blk 61 [(.wsl 2), (.v (.bool false)), (.v (.pointer none)), (.v (.int .i64 i10))]), (1, .blk 39 [(.wsl 3), (.v (.bool b3)), (.v (.int .i64 i11)), (.v (.int .i64 i12)), (.v (.int .i64 i13))]), (2, .row (.row 68 (.u8s 64) r5)), (3, .row (.row 9 .str r6))], 4⟩) ?_ ?_
      ·rintro ⟨u0, u1, u2, u3, u4, u5, u6, u7⟩ e
       simp only [Prod.mk.injEq] at e
       obtain ⟨e0, e1, e2, e3, e4, e5, e6, e7⟩ := e
       refine le_auto hk ?_
       (try cbv); (try simp only [choice_lk, lock_eq, and_self, and_true, true_and]); (try first | exact e | exact e.symm | (and_intros <;> first | assumption | rfl | exact Eq.symm (by assumption)))
      ·clear hr
       intro x bb1 hr ht1
       obtain ⟨i9, i10, b3, i11, i12, i13, r5, r6⟩ := x
       as_aux_lemma =>
       constructor
       unfold F_tollbarlaw32_JournalDoes_L3 at hr
       (try dsimp only at hr)
       (try cbv)
       refine sel_intro (fun h => ?_) (fun h => ?_)
       ·as_aux_lemma =>
        have h1 : (ilt i9 (ofN (xlen r2))) = true := by first | exact h | (have h2 := h; simp only [choice_lk, lock_eq] at h2; exact h2) | (simp only [choice_lk, lock_eq] at h; exact h)
        rw [if_pos h1] at hr
        (try cbv)
        have gg := guard_inv hr
        have g := gg.1
        replace hr := gg.2
        clear gg
        refine ⟨obl.2 (by first | (simp only [choice_lk, lock_eq, R.len, R.sub]; exact g) | exact g), ?_⟩
        refine sel_intro (fun h => ?_) (fun h => ?_)
        ·have h1 : (ieq (ofN (xlen (D.toS (D.fld (getD r2 (toN i9)) 1)))) (64 : Int)) = true := by first | exact h | (have h2 := h; simp only [choice_lk, lock_eq] at h2; exact h2) | (simp only [choice_lk, lock_eq] at h; exact h)
         rw [if_pos h1] at hr
         (try cbv)
         have gg := guard_inv hr
         have g := gg.1
         replace hr := gg.2
         clear gg
         refine ⟨obl.2 (by first | (simp only [choice_lk, lock_eq, R.len, R.sub]; exact g) | exact g), ?_⟩
         have gg := guard_inv hr
         have g := gg.1
         replace hr := gg.2
         clear gg
         refine ⟨obl.2 (by first | (simp only [choice_lk, lock_eq, R.len, R.sub]; exact g) | exact g), ?_⟩
         have hqe : ∃ qq, F_block_Device_Write (D.toI (D.fld (getD r2 (toN i9)) 0)) (D.toS (D.fld (getD r2 (toN i9)) 1)) false i10 r5 = some qq := by
          cases hq : F_block_Device_Write (D.toI (D.fld (getD r2 (toN i9)) 0)) (D.toS (D.fld (getD r2 (toN i9)) 1)) false i10 r5 with
          | none => rw [hq] at hr; cases hr
          | some qq => exact ⟨qq, rfl⟩
         refine ⟨(by simp only [choice_lk, lock_eq]; exact hqe), obl.2 (by simp only [choice_lk, lock_eq]; exact hqe), (by rintro (⟨_, _, _⟩) _ <;> cbv), ?_⟩
         clear hqe
         intro qq hx81
         simp only [choice_lk, lock_eq] at hx81
         rcases qq with ⟨y82, y83, q17⟩
         all_goals (rw [hx81] at hr; dsimp only at hr; constructor; (try cbv))
         have gg := guard_inv hr
         have g := gg.1
         replace hr := gg.2
         clear gg
         refine ⟨obl.2 (by first | (simp only [choice_lk, lock_eq, R.len, R.sub]; exact g) | exact g), ?_⟩
         have gg := guard_inv hr
         have g := gg.1
         replace hr := gg.2
         clear gg
         refine ⟨obl.2 (by first | (simp only [choice_lk, lock_eq, R.len, R.sub]; exact g) | exact g), ?_⟩
         have hqe : ∃ qq, F_tollbarref31_Write b3 i11 i12 i13 (D.toI (D.fld (getD r2 (toN i9)) 0)) (D.toS (D.fld (getD r2 (toN i9)) 1)) r6 = some qq := by
          cases hq : F_tollbarref31_Write b3 i11 i12 i13 (D.toI (D.fld (getD r2 (toN i9)) 0)) (D.toS (D.fld (getD r2 (toN i9)) 1)) r6 with
          | none => rw [hq] at hr; cases hr
          | some qq => exact ⟨qq, rfl⟩
         refine ⟨(by simp only [choice_lk, lock_eq]; exact hqe), obl.2 (by simp only [choice_lk, lock_eq]; exact hqe), (by rintro (⟨_, _, _, _, _, _⟩) _ <;> cbv), ?_⟩
         clear hqe
         intro qq hx82
         simp only [choice_lk, lock_eq] at hx82
         rcases qq with ⟨c13, y84, y85, y86, y87, q18⟩
         all_goals (rw [hx82] at hr; dsimp only at hr; constructor; (try cbv))
         apply Hidden.out
         obtain rfl := Option.some.inj hr
         constructor
         refine ⟨⟨_, rfl⟩, ?_⟩
         rintro ⟨u0, u1, u2, u3, u4, u5, u6, u7⟩ e
         replace e := Sum.inl.inj e
         simp only [Prod.mk.injEq] at e
         obtain ⟨e0, e1, e2, e3, e4, e5, e6, e7⟩ := e
         refine le_auto hk ?_
         (try cbv); (try simp only [choice_lk, lock_eq, and_self, and_true, true_and]); (try first | exact e | exact e.symm | (and_intros <;> first | assumption | rfl | exact Eq.symm (by assumption)))
        ·have h1 : (ieq (ofN (xlen (D.toS (D.fld (getD r2 (toN i9)) 1)))) (64 : Int)) = false := by first | exact h | (have h2 := h; simp only [choice_lk, lock_eq] at h2; exact h2) | (simp only [choice_lk, lock_eq] at h; exact h)
         rw [if_neg (by rw [h1]; exact Bool.false_ne_true)] at hr
         (try cbv)
         apply Hidden.out
         obtain rfl := Option.some.inj hr
         constructor
         refine ⟨⟨_, rfl⟩, ?_⟩
         rintro ⟨u0, u1, u2, u3, u4, u5, u6, u7⟩ e
         replace e := Sum.inl.inj e
         simp only [Prod.mk.injEq] at e
         obtain ⟨e0, e1, e2, e3, e4, e5, e6, e7⟩ := e
         refine le_auto hk ?_
         (try cbv); (try simp only [choice_lk, lock_eq, and_self, and_true, true_and]); (try first | exact e | exact e.symm | (and_intros <;> first | assumption | rfl | exact Eq.symm (by assumption)))
       ·as_aux_lemma =>
        have h1 : (ilt i9 (ofN (xlen r2))) = false := by first | exact h | (have h2 := h; simp only [choice_lk, lock_eq] at h2; exact h2) | (simp only [choice_lk, lock_eq] at h; exact h)
        rw [if_neg (by rw [h1]; exact Bool.false_ne_true)] at hr
        (try cbv)
        apply Hidden.out
        obtain ⟨t, hr2, hw⟩ := map_inv hr
        clear hr
        subst hw
        have e := (ht1 _ rfl).symm
        subst e
        have hr := hr2
        clear hr2
        constructor
        refine LoopOK.iter T (drawOK T hm) (B := (F_tollbarlaw32_JournalDoes_L4 r1)) hr (fun | (i14, i15, b4, i16, i17, i18, r7, r8) => ⟨mkFr [(0, (.rsl (.row 47 (.st [(.int .u16), (.int .u8), (.int .u8), (.int .u8)]) r1))), (6, (.ptr 0 0)), (7, (.ptr 1 0)), (11, (.v (.int .i64 i14)))] 181 0, [(0, .blk 61 [(.wsl 2), (.v (.bool false)), (.v (.pointer none)), (.v (.int .i64 i15))]), (1, .blk 39 [(.wsl 3), (.v (.bool b4)), (.v (.int .i64 i16)), (.v (.int .i64 i17)), (.v (.int .i64 i18))]), (2, .row (.row 68 (.u8s 64) r7)), (3, .row (.row 9 .str r8))], 4⟩) ?_ ?_
        ·rintro ⟨u0, u1, u2, u3, u4, u5, u6, u7⟩ e
         simp only [Prod.mk.injEq] at e
         obtain ⟨e0, e1, e2, e3, e4, e5, e6, e7⟩ := e
         refine le_auto hk ?_
         (try cbv); (try simp only [choice_lk, lock_eq, and_self, and_true, true_and]); (try first | exact e | exact e.symm | (and_intros <;> first | assumption | rfl | exact Eq.symm (by assumption)))
        ·clear hr
         intro x bb1 hr ht1
         obtain ⟨i14, i15, b4, i16, i17, i18, r7, r8⟩ := x
         as_aux_lemma =>
         constructor
         unfold F_tollbarlaw32_JournalDoes_L4 at hr
         (try dsimp only at hr)
         (try cbv)
         refine sel_intro (fun h => ?_) (fun h => ?_)
         ·as_aux_lemma =>
          have h1 : (ilt i14 (ofN (xlen r1))) = true := by first | exact h | (have h2 := h; simp only [choice_lk, lock_eq] at h2; exact h2) | (simp only [choice_lk, lock_eq] at h; exact h)
          rw [if_pos h1] at hr
          (try cbv)
          have gg := guard_inv hr
          have g := gg.1
          replace hr := gg.2
          clear gg
          refine ⟨obl.2 (by first | (simp only [choice_lk, lock_eq, R.len, R.sub]; exact g) | exact g), ?_⟩
          refine sel_intro (fun h => ?_) (fun h => ?_)
          ·as_aux_lemma =>
           have h1 : (ile (D.toI (D.fld (getD r1 (toN i14)) 2)) (200 : Int)) = true := by first | exact h | (have h2 := h; simp only [choice_lk, lock_eq] at h2; exact h2) | (simp only [choice_lk, lock_eq] at h; exact h)
           rw [if_pos h1] at hr
           (try cbv)
           have hqe : ∃ qq, F_block_Device_Arm_2 (iconv .i64 (D.toI (D.fld (getD r1 (toN i14)) 2))) (iconv .i64 (irem (D.toI (D.fld (getD r1 (toN i14)) 3)) (65 : Int))) false i15 r7 = some qq := by
            cases hq : F_block_Device_Arm_2 (iconv .i64 (D.toI (D.fld (getD r1 (toN i14)) 2))) (iconv .i64 (irem (D.toI (D.fld (getD r1 (toN i14)) 3)) (65 : Int))) false i15 r7 with
            | none => rw [hq] at hr; cases hr
            | some qq => exact ⟨qq, rfl⟩
           refine ⟨obl.2 (by simp only [choice_lk, lock_eq]; exact hqe), (by rintro (_ | _) _ <;> cbv), ?_⟩
           clear hqe
           intro qq hx161
           simp only [choice_lk, lock_eq] at hx161
           rcases qq with _ | _
           all_goals (rw [hx161] at hr; dsimp only at hr; constructor; (try cbv))
           ·have hqe : ∃ qq, F_tollbarref31_Arm b4 i16 i17 i18 (iconv .i64 (D.toI (D.fld (getD r1 (toN i14)) 2))) (iconv .i64 (irem (D.toI (D.fld (getD r1 (toN i14)) 3)) (65 : Int))) r8 = some qq := by
             cases hq : F_tollbarref31_Arm b4 i16 i17 i18 (iconv .i64 (D.toI (D.fld (getD r1 (toN i14)) 2))) (iconv .i64 (irem (D.toI (D.fld (getD r1 (toN i14)) 3)) (65 : Int))) r8 with
             | none => rw [hq] at hr; cases hr
             | some qq => exact ⟨qq, rfl⟩
            refine ⟨obl.2 (by simp only [choice_lk, lock_eq]; exact hqe), (by rintro (⟨_, _, _⟩) _ <;> cbv), ?_⟩
            clear hqe
            intro qq hx162
            simp only [choice_lk, lock_eq] at hx162
            rcases qq with ⟨y198, y199, y200⟩
            all_goals (rw [hx162] at hr; dsimp only at hr; constructor; (try cbv))
            have hqe : ∃ qq, F_tollbarlaw32_bytes (D.toI (D.fld (getD r1 (toN i14)) 0)) (D.toI (D.fld (getD r1 (toN i14)) 1)) (D.toI (D.fld (getD r1 (toN i14)) 2)) (D.toI (D.fld (getD r1 (toN i14)) 3)) = some qq := by
             cases hq : F_tollbarlaw32_bytes (D.toI (D.fld (getD r1 (toN i14)) 0)) (D.toI (D.fld (getD r1 (toN i14)) 1)) (D.toI (D.fld (getD r1 (toN i14)) 2)) (D.toI (D.fld (getD r1 (toN i14)) 3)) with
             | none => rw [hq] at hr; cases hr
             | some qq => exact ⟨qq, rfl⟩
            refine ⟨(by simp only [choice_lk, lock_eq]; exact hqe), obl.2 (by simp only [choice_lk, lock_eq]; exact hqe), (by rintro (_) _ <;> cbv), ?_⟩
            clear hqe
            intro t53 hx163
            simp only [choice_lk, lock_eq] at hx163
            all_goals (rw [hx163] at hr; dsimp only at hr; constructor; (try cbv))
            have hqe : ∃ qq, F_tollbarref32_Save b4 y198 y199 i18 t53 r8 = some qq := by
             cases hq : F_tollbarref32_Save b4 y198 y199 i18 t53 r8 with
             | none => rw [hq] at hr; cases hr
             | some qq => exact ⟨qq, rfl⟩
            refine ⟨(by simp only [choice_lk, lock_eq]; exact hqe), obl.2 (by simp only [choice_lk, lock_eq]; exact hqe), (by rintro (⟨_, _, _, _, _, _⟩) _ <;> cbv), ?_⟩
            clear hqe
            intro qq hx164
            simp only [choice_lk, lock_eq] at hx164
            rcases qq with ⟨c20, y201, y202, y203, y204, q33⟩
            all_goals (rw [hx164] at hr; dsimp only at hr; constructor; (try cbv))
            refine ⟨obl.2 (by simp only [choice_lk, lock_eq]; exact ⟨_, hx163⟩), (by rintro (_) _ <;> cbv), ?_⟩
            intro qq hx
            simp only [choice_lk, lock_eq] at hx
            obtain rfl := Option.some.inj (hx163.symm.trans hx)
            constructor
            (try cbv)
            have hqe : ∃ qq, F_journal_Save t53 false i15 r7 = some qq := by
             cases hq : F_journal_Save t53 false i15 r7 with
             | none => rw [hq] at hr; cases hr
             | some qq => exact ⟨qq, rfl⟩
            refine ⟨obl.2 (by simp only [choice_lk, lock_eq]; exact hqe), (by rintro (⟨_, _, _⟩) _ <;> cbv), ?_⟩
            clear hqe
            intro qq hx166
            simp only [choice_lk, lock_eq] at hx166
            rcases qq with ⟨y205, y206, q34⟩
            all_goals (rw [hx166] at hr; dsimp only at hr; constructor; (try cbv))
            refine sel_intro (fun h => ?_) (fun h => ?_)
            ·have h1 : (ieq y205 y204) = false := by first | exact (bnot_t.1 h) | (have h2 := (bnot_t.1 h); simp only [choice_lk, lock_eq] at h2; exact h2) | (simp only [choice_lk, lock_eq] at h; exact (bnot_t.1 h))
             rw [if_neg (by rw [h1]; exact Bool.false_ne_true)] at hr
             (try cbv)
             apply Hidden.out
             obtain rfl := Option.some.inj hr
             have e := ht1 _ rfl
             constructor
             refine ⟨_, hF, ?_⟩
             (try cbv); (try simp only [choice_lk, lock_eq, and_self, and_true, true_and]); (try first | exact e | exact e.symm | (and_intros <;> first | assumption | rfl | exact Eq.symm (by assumption)))
            ·as_aux_lemma =>
             have h1 : (ieq y205 y204) = true := by first | exact (bnot_f.1 h) | (have h2 := (bnot_f.1 h); simp only [choice_lk, lock_eq] at h2; exact h2) | (simp only [choice_lk, lock_eq] at h; exact (bnot_f.1 h))
             rw [if_pos h1] at hr
             (try cbv)
             have hqe : ∃ qq, F_journal_Load false y206 q34 = some qq := by
              cases hq : F_journal_Load false y206 q34 with
              | none => rw [hq] at hr; cases hr
              | some qq => exact ⟨qq, rfl⟩
             refine ⟨obl.2 (by simp only [choice_lk, lock_eq]; exact hqe), (by rintro (⟨_, _, _, _⟩) _ <;> cbv), ?_⟩
             clear hqe
             intro qq hx167
             simp only [choice_lk, lock_eq] at hx167
             rcases qq with ⟨k13, y207, y208, t54⟩
             all_goals (rw [hx167] at hr; dsimp only at hr; constructor; (try cbv))
             have hqe : ∃ qq, F_tollbarref32_Load c20 y201 y202 y203 q33 = some qq := by
              cases hq : F_tollbarref32_Load c20 y201 y202 y203 q33 with
              | none => rw [hq] at hr; cases hr
              | some qq => exact ⟨qq, rfl⟩
             refine ⟨obl.2 (by simp only [choice_lk, lock_eq]; exact hqe), (by rintro (⟨_, _, _⟩) _ <;> cbv), ?_⟩
             clear hqe
             intro qq hx168
             simp only [choice_lk, lock_eq] at hx168
             rcases qq with ⟨t55, y209, y210⟩
             all_goals (rw [hx168] at hr; dsimp only at hr; constructor; (try cbv))
             have hqe : ∃ qq, F_block_Device_Up_2 false y206 q34 = some qq := by
              cases hq : F_block_Device_Up_2 false y206 q34 with
              | none => rw [hq] at hr; cases hr
              | some qq => exact ⟨qq, rfl⟩
             refine ⟨obl.2 (by simp only [choice_lk, lock_eq]; exact hqe), (by rintro (_) _ <;> cbv), ?_⟩
             clear hqe
             intro qq hx169
             simp only [choice_lk, lock_eq] at hx169
             rcases qq with _
             all_goals (rw [hx169] at hr; dsimp only at hr; constructor; (try cbv))
             have hqe : ∃ qq, F_tollbarref31_Up c20 y201 y202 y203 q33 = some qq := by
              cases hq : F_tollbarref31_Up c20 y201 y202 y203 q33 with
              | none => rw [hq] at hr; cases hr
              | some qq => exact ⟨qq, rfl⟩
             refine ⟨obl.2 (by simp only [choice_lk, lock_eq]; exact hqe), (by rintro (_) _ <;> cbv), ?_⟩
             clear hqe
             intro qq hx170
             simp only [choice_lk, lock_eq] at hx170
             rcases qq with _
             all_goals (rw [hx170] at hr; dsimp only at hr; constructor; (try cbv))
             refine ⟨obl.2 (by simp only [choice_lk, lock_eq]; exact ⟨_, hx167⟩), (by rintro (⟨_, _, _, _⟩) _ <;> cbv), ?_⟩
             intro qq hx
             simp only [choice_lk, lock_eq] at hx
             obtain rfl := Option.some.inj (hx167.symm.trans hx)
             constructor
             (try cbv)
             have hqe : ∃ qq, F_tollbarref32_Load false (-1 : Int) (0 : Int) y203 q33 = some qq := by
              cases hq : F_tollbarref32_Load false (-1 : Int) (0 : Int) y203 q33 with
              | none => rw [hq] at hr; cases hr
              | some qq => exact ⟨qq, rfl⟩
             refine ⟨obl.2 (by simp only [choice_lk, lock_eq]; exact hqe), (by rintro (⟨_, _, _⟩) _ <;> cbv), ?_⟩
             clear hqe
             intro qq hx172
             simp only [choice_lk, lock_eq] at hx172
             rcases qq with ⟨t56, y211, y212⟩
             all_goals (rw [hx172] at hr; dsimp only at hr; constructor; (try cbv))
             refine sel_intro (fun h => ?_) (fun h => ?_)
             ·have h1 : (ieq y208 y210) = false := by first | exact (bnot_t.1 h) | (have h2 := (bnot_t.1 h); simp only [choice_lk, lock_eq] at h2; exact h2) | (simp only [choice_lk, lock_eq] at h; exact (bnot_t.1 h))
              rw [if_neg (by rw [h1]; exact Bool.false_ne_true)] at hr
              (try cbv)
              apply Hidden.out
              obtain rfl := Option.some.inj hr
              have e := ht1 _ rfl
              constructor
              refine ⟨_, hF, ?_⟩
              (try cbv); (try simp only [choice_lk, lock_eq, and_self, and_true, true_and]); (try first | exact e | exact e.symm | (and_intros <;> first | assumption | rfl | exact Eq.symm (by assumption)))
             ·have h1 : (ieq y208 y210) = true := by first | exact (bnot_f.1 h) | (have h2 := (bnot_f.1 h); simp only [choice_lk, lock_eq] at h2; exact h2) | (simp only [choice_lk, lock_eq] at h; exact (bnot_f.1 h))
              rw [if_pos h1] at hr
              (try cbv)
              refine sel_intro (fun h => ?_) (fun h => ?_)
              ·have h1 : (seq (lsub t54 0 k13) t56) = false := by first | exact (bnot_t.1 h) | (have h2 := (bnot_t.1 h); simp only [choice_lk, lock_eq] at h2; exact h2) | (simp only [choice_lk, lock_eq] at h; exact (bnot_t.1 h))
               rw [if_neg (by rw [h1]; exact Bool.false_ne_true)] at hr
               (try cbv)
               apply Hidden.out
               obtain rfl := Option.some.inj hr
               have e := ht1 _ rfl
               constructor
               refine ⟨_, hF, ?_⟩
               (try cbv); (try simp only [choice_lk, lock_eq, and_self, and_true, true_and]); (try first | exact e | exact e.symm | (and_intros <;> first | assumption | rfl | exact Eq.symm (by assumption)))
              ·have h1 : (seq (lsub t54 0 k13) t56) = true := by first | exact (bnot_f.1 h) | (have h2 := (bnot_f.1 h); simp only [choice_lk, lock_eq] at h2; exact h2) | (simp only [choice_lk, lock_eq] at h; exact (bnot_f.1 h))
               rw [if_pos h1] at hr
               (try cbv)
               refine sel_intro (fun h => ?_) (fun h => ?_)
               ·have h1 : (ieq y207 y211) = false := by first | exact (bnot_t.1 h) | (have h2 := (bnot_t.1 h); simp only [choice_lk, lock_eq] at h2; exact h2) | (simp only [choice_lk, lock_eq] at h; exact (bnot_t.1 h))
                rw [if_neg (by rw [h1]; exact Bool.false_ne_true)] at hr
                (try cbv)
                apply Hidden.out
                obtain rfl := Option.some.inj hr
                have e := ht1 _ rfl
                constructor
                refine ⟨_, hF, ?_⟩
                (try cbv); (try simp only [choice_lk, lock_eq, and_self, and_true, true_and]); (try first | exact e | exact e.symm | (and_intros <;> first | assumption | rfl | exact Eq.symm (by assumption)))
               ·have h1 : (ieq y207 y211) = true := by first | exact (bnot_f.1 h) | (have h2 := (bnot_f.1 h); simp only [choice_lk, lock_eq] at h2; exact h2) | (simp only [choice_lk, lock_eq] at h; exact (bnot_f.1 h))
                rw [if_pos h1] at hr
                (try cbv)
                refine sel_intro (fun h => ?_) (fun h => ?_)
                ·have h1 : (ieq y208 y212) = false := by first | exact (bnot_t.1 h) | (have h2 := (bnot_t.1 h); simp only [choice_lk, lock_eq] at h2; exact h2) | (simp only [choice_lk, lock_eq] at h; exact (bnot_t.1 h))
                 rw [if_neg (by rw [h1]; exact Bool.false_ne_true)] at hr
                 (try cbv)
                 apply Hidden.out
                 obtain rfl := Option.some.inj hr
                 have e := ht1 _ rfl
                 constructor
                 refine ⟨_, hF, ?_⟩
                 (try cbv); (try simp only [choice_lk, lock_eq, and_self, and_true, true_and]); (try first | exact e | exact e.symm | (and_intros <;> first | assumption | rfl | exact Eq.symm (by assumption)))
                ·have h1 : (ieq y208 y212) = true := by first | exact (bnot_f.1 h) | (have h2 := (bnot_f.1 h); simp only [choice_lk, lock_eq] at h2; exact h2) | (simp only [choice_lk, lock_eq] at h; exact (bnot_f.1 h))
                 rw [if_pos h1] at hr
                 (try cbv)
                 apply Hidden.out
                 obtain rfl := Option.some.inj hr
                 constructor
                 refine ⟨⟨_, rfl⟩, ?_⟩
                 rintro ⟨u0, u1, u2, u3, u4, u5, u6, u7⟩ e
                 replace e := Sum.inl.inj e
                 simp only [Prod.mk.injEq] at e
                 obtain ⟨e0, e1, e2, e3, e4, e5, e6, e7⟩ := e
                 refine le_auto hk ?_
                 (try cbv); (try simp only [choice_lk, lock_eq, and_self, and_true, true_and]); (try first | exact e | exact e.symm | (and_intros <;> first | assumption | rfl | exact Eq.symm (by assumption)))
           ·have hqe : ∃ qq, F_tollbarref31_Arm b4 i16 i17 i18 (iconv .i64 (D.toI (D.fld (getD r1 (toN i14)) 2))) (iconv .i64 (irem (D.toI (D.fld (getD r1 (toN i14)) 3)) (65 : Int))) r8 = some qq := by
             cases hq : F_tollbarref31_Arm b4 i16 i17 i18 (iconv .i64 (D.toI (D.fld (getD r1 (toN i14)) 2))) (iconv .i64 (irem (D.toI (D.fld (getD r1 (toN i14)) 3)) (65 : Int))) r8 with
             | none => rw [hq] at hr; cases hr
             | some qq => exact ⟨qq, rfl⟩
            refine ⟨obl.2 (by simp only [choice_lk, lock_eq]; exact hqe), (by rintro (⟨_, _, _⟩) _ <;> cbv), ?_⟩
            clear hqe
            intro qq hx173
            simp only [choice_lk, lock_eq] at hx173
            rcases qq with ⟨y213, y214, y215⟩
            all_goals (rw [hx173] at hr; dsimp only at hr; constructor; (try cbv))
            have hqe : ∃ qq, F_tollbarlaw32_bytes (D.toI (D.fld (getD r1 (toN i14)) 0)) (D.toI (D.fld (getD r1 (toN i14)) 1)) (D.toI (D.fld (getD r1 (toN i14)) 2)) (D.toI (D.fld (getD r1 (toN i14)) 3)) = some qq := by
             cases hq : F_tollbarlaw32_bytes (D.toI (D.fld (getD r1 (toN i14)) 0)) (D.toI (D.fld (getD r1 (toN i14)) 1)) (D.toI (D.fld (getD r1 (toN i14)) 2)) (D.toI (D.fld (getD r1 (toN i14)) 3)) with
             | none => rw [hq] at hr; cases hr
             | some qq => exact ⟨qq, rfl⟩
            refine ⟨(by simp only [choice_lk, lock_eq]; exact hqe), obl.2 (by simp only [choice_lk, lock_eq]; exact hqe), (by rintro (_) _ <;> cbv), ?_⟩
            clear hqe
            intro t57 hx174
            simp only [choice_lk, lock_eq] at hx174
            all_goals (rw [hx174] at hr; dsimp only at hr; constructor; (try cbv))
            have hqe : ∃ qq, F_tollbarref32_Save b4 y213 y214 i18 t57 r8 = some qq := by
             cases hq : F_tollbarref32_Save b4 y213 y214 i18 t57 r8 with
             | none => rw [hq] at hr; cases hr
             | some qq => exact ⟨qq, rfl⟩
            refine ⟨(by simp only [choice_lk, lock_eq]; exact hqe), obl.2 (by simp only [choice_lk, lock_eq]; exact hqe), (by rintro (⟨_, _, _, _, _, _⟩) _ <;> cbv), ?_⟩
            clear hqe
            intro qq hx175
            simp only [choice_lk, lock_eq] at hx175
            rcases qq with ⟨c21, y216, y217, y218, y219, q35⟩
            all_goals (rw [hx175] at hr; dsimp only at hr; constructor; (try cbv))
            refine ⟨obl.2 (by simp only [choice_lk, lock_eq]; exact ⟨_, hx174⟩), (by rintro (_) _ <;> cbv), ?_⟩
            intro qq hx
            simp only [choice_lk, lock_eq] at hx
            obtain rfl := Option.some.inj (hx174.symm.trans hx)
            constructor
            (try cbv)
            have hqe : ∃ qq, F_journal_Save_3 t57 false i15 r7 (iconv .i64 (D.toI (D.fld (getD r1 (toN i14)) 2))) (iconv .i64 (irem (D.toI (D.fld (getD r1 (toN i14)) 3)) (65 : Int))) = some qq := by
             cases hq : F_journal_Save_3 t57 false i15 r7 (iconv .i64 (D.toI (D.fld (getD r1 (toN i14)) 2))) (iconv .i64 (irem (D.toI (D.fld (getD r1 (toN i14)) 3)) (65 : Int))) with
             | none => rw [hq] at hr; cases hr
             | some qq => exact ⟨qq, rfl⟩
            refine ⟨obl.2 (by simp only [choice_lk, lock_eq]; exact hqe), (by rintro (⟨_, _, _, _⟩ | ⟨_, _, _⟩) _ <;> cbv), ?_⟩
            clear hqe
            intro qq hx177
            simp only [choice_lk, lock_eq] at hx177
            rcases qq with ⟨y220, y221, q36, y222⟩ | ⟨y223, q37, y224⟩
            all_goals (rw [hx177] at hr; dsimp only at hr; constructor; (try cbv))
            ·refine sel_intro (fun h => ?_) (fun h => ?_)
             ·have h1 : (ieq y220 y219) = false := by first | exact (bnot_t.1 h) | (have h2 := (bnot_t.1 h); simp only [choice_lk, lock_eq] at h2; exact h2) | (simp only [choice_lk, lock_eq] at h; exact (bnot_t.1 h))
              rw [if_neg (by rw [h1]; exact Bool.false_ne_true)] at hr
              (try cbv)
              apply Hidden.out
              obtain rfl := Option.some.inj hr
              have e := ht1 _ rfl
              constructor
              refine ⟨_, hF, ?_⟩
              (try cbv); (try simp only [choice_lk, lock_eq, and_self, and_true, true_and]); (try first | exact e | exact e.symm | (and_intros <;> first | assumption | rfl | exact Eq.symm (by assumption)))
             ·as_aux_lemma =>
              have h1 : (ieq y220 y219) = true := by first | exact (bnot_f.1 h) | (have h2 := (bnot_f.1 h); simp only [choice_lk, lock_eq] at h2; exact h2) | (simp only [choice_lk, lock_eq] at h; exact (bnot_f.1 h))
              rw [if_pos h1] at hr
              (try cbv)
              have hqe : ∃ qq, F_journal_Load_3 false y221 q36 y222 (iconv .i64 (irem (D.toI (D.fld (getD r1 (toN i14)) 3)) (65 : Int))) = some qq := by
               cases hq : F_journal_Load_3 false y221 q36 y222 (iconv .i64 (irem (D.toI (D.fld (getD r1 (toN i14)) 3)) (65 : Int))) with
               | none => rw [hq] at hr; cases hr
               | some qq => exact ⟨qq, rfl⟩
              refine ⟨obl.2 (by simp only [choice_lk, lock_eq]; exact hqe), (by rintro (⟨_, _, _, _⟩) _ <;> cbv), ?_⟩
              clear hqe
              intro qq hx178
              simp only [choice_lk, lock_eq] at hx178
              rcases qq with ⟨k14, y225, y226, t58⟩
              all_goals (rw [hx178] at hr; dsimp only at hr; constructor; (try cbv))
              have hqe : ∃ qq, F_tollbarref32_Load c21 y216 y217 y218 q35 = some qq := by
               cases hq : F_tollbarref32_Load c21 y216 y217 y218 q35 with
               | none => rw [hq] at hr; cases hr
               | some qq => exact ⟨qq, rfl⟩
              refine ⟨obl.2 (by simp only [choice_lk, lock_eq]; exact hqe), (by rintro (⟨_, _, _⟩) _ <;> cbv), ?_⟩
              clear hqe
              intro qq hx179
              simp only [choice_lk, lock_eq] at hx179
              rcases qq with ⟨t59, y227, y228⟩
              all_goals (rw [hx179] at hr; dsimp only at hr; constructor; (try cbv))
              have hqe : ∃ qq, F_block_Device_Up_3 false y221 q36 y222 (iconv .i64 (irem (D.toI (D.fld (getD r1 (toN i14)) 3)) (65 : Int))) = some qq := by
               cases hq : F_block_Device_Up_3 false y221 q36 y222 (iconv .i64 (irem (D.toI (D.fld (getD r1 (toN i14)) 3)) (65 : Int))) with
               | none => rw [hq] at hr; cases hr
               | some qq => exact ⟨qq, rfl⟩
              refine ⟨obl.2 (by simp only [choice_lk, lock_eq]; exact hqe), (by rintro (_) _ <;> cbv), ?_⟩
              clear hqe
              intro qq hx180
              simp only [choice_lk, lock_eq] at hx180
              rcases qq with _
              all_goals (rw [hx180] at hr; dsimp only at hr; constructor; (try cbv))
              have hqe : ∃ qq, F_tollbarref31_Up c21 y216 y217 y218 q35 = some qq := by
               cases hq : F_tollbarref31_Up c21 y216 y217 y218 q35 with
               | none => rw [hq] at hr; cases hr
               | some qq => exact ⟨qq, rfl⟩
              refine ⟨obl.2 (by simp only [choice_lk, lock_eq]; exact hqe), (by rintro (_) _ <;> cbv), ?_⟩
              clear hqe
              intro qq hx181
              simp only [choice_lk, lock_eq] at hx181
              rcases qq with _
              all_goals (rw [hx181] at hr; dsimp only at hr; constructor; (try cbv))
              have hqe : ∃ qq, F_journal_Load false y221 q36 = some qq := by
               cases hq : F_journal_Load false y221 q36 with
               | none => rw [hq] at hr; cases hr
               | some qq => exact ⟨qq, rfl⟩
              refine ⟨obl.2 (by simp only [choice_lk, lock_eq]; exact hqe), (by rintro (⟨_, _, _, _⟩) _ <;> cbv), ?_⟩
              clear hqe
              intro qq hx182
              simp only [choice_lk, lock_eq] at hx182
              rcases qq with ⟨k15, y229, y230, t60⟩
              all_goals (rw [hx182] at hr; dsimp only at hr; constructor; (try cbv))
              have hqe : ∃ qq, F_tollbarref32_Load false (-1 : Int) (0 : Int) y218 q35 = some qq := by
               cases hq : F_tollbarref32_Load false (-1 : Int) (0 : Int) y218 q35 with
               | none => rw [hq] at hr; cases hr
               | some qq => exact ⟨qq, rfl⟩
              refine ⟨obl.2 (by simp only [choice_lk, lock_eq]; exact hqe), (by rintro (⟨_, _, _⟩) _ <;> cbv), ?_⟩
              clear hqe
              intro qq hx183
              simp only [choice_lk, lock_eq] at hx183
              rcases qq with ⟨t61, y231, y232⟩
              all_goals (rw [hx183] at hr; dsimp only at hr; constructor; (try cbv))
              refine sel_intro (fun h => ?_) (fun h => ?_)
              ·have h1 : (ieq y226 y228) = false := by first | exact (bnot_t.1 h) | (have h2 := (bnot_t.1 h); simp only [choice_lk, lock_eq] at h2; exact h2) | (simp only [choice_lk, lock_eq] at h; exact (bnot_t.1 h))
               rw [if_neg (by rw [h1]; exact Bool.false_ne_true)] at hr
               (try cbv)
               apply Hidden.out
               obtain rfl := Option.some.inj hr
               have e := ht1 _ rfl
               constructor
               refine ⟨_, hF, ?_⟩
               (try cbv); (try simp only [choice_lk, lock_eq, and_self, and_true, true_and]); (try first | exact e | exact e.symm | (and_intros <;> first | assumption | rfl | exact Eq.symm (by assumption)))
              ·have h1 : (ieq y226 y228) = true := by first | exact (bnot_f.1 h) | (have h2 := (bnot_f.1 h); simp only [choice_lk, lock_eq] at h2; exact h2) | (simp only [choice_lk, lock_eq] at h; exact (bnot_f.1 h))
               rw [if_pos h1] at hr
               (try cbv)
               refine sel_intro (fun h => ?_) (fun h => ?_)
               ·have h1 : (seq (lsub t60 0 k15) t61) = false := by first | exact (bnot_t.1 h) | (have h2 := (bnot_t.1 h); simp only [choice_lk, lock_eq] at h2; exact h2) | (simp only [choice_lk, lock_eq] at h; exact (bnot_t.1 h))
                rw [if_neg (by rw [h1]; exact Bool.false_ne_true)] at hr
                (try cbv)
                apply Hidden.out
                obtain rfl := Option.some.inj hr
                have e := ht1 _ rfl
                constructor
                refine ⟨_, hF, ?_⟩
                (try cbv); (try simp only [choice_lk, lock_eq, and_self, and_true, true_and]); (try first | exact e | exact e.symm | (and_intros <;> first | assumption | rfl | exact Eq.symm (by assumption)))
               ·have h1 : (seq (lsub t60 0 k15) t61) = true := by first | exact (bnot_f.1 h) | (have h2 := (bnot_f.1 h); simp only [choice_lk, lock_eq] at h2; exact h2) | (simp only [choice_lk, lock_eq] at h; exact (bnot_f.1 h))
                rw [if_pos h1] at hr
                (try cbv)
                refine sel_intro (fun h => ?_) (fun h => ?_)
                ·have h1 : (ieq y229 y231) = false := by first | exact (bnot_t.1 h) | (have h2 := (bnot_t.1 h); simp only [choice_lk, lock_eq] at h2; exact h2) | (simp only [choice_lk, lock_eq] at h; exact (bnot_t.1 h))
                 rw [if_neg (by rw [h1]; exact Bool.false_ne_true)] at hr
                 (try cbv)
                 apply Hidden.out
                 obtain rfl := Option.some.inj hr
                 have e := ht1 _ rfl
                 constructor
                 refine ⟨_, hF, ?_⟩
                 (try cbv); (try simp only [choice_lk, lock_eq, and_self, and_true, true_and]); (try first | exact e | exact e.symm | (and_intros <;> first | assumption | rfl | exact Eq.symm (by assumption)))
                ·have h1 : (ieq y229 y231) = true := by first | exact (bnot_f.1 h) | (have h2 := (bnot_f.1 h); simp only [choice_lk, lock_eq] at h2; exact h2) | (simp only [choice_lk, lock_eq] at h; exact (bnot_f.1 h))
                 rw [if_pos h1] at hr
                 (try cbv)
                 refine sel_intro (fun h => ?_) (fun h => ?_)
                 ·have h1 : (ieq y230 y232) = false := by first | exact (bnot_t.1 h) | (have h2 := (bnot_t.1 h); simp only [choice_lk, lock_eq] at h2; exact h2) | (simp only [choice_lk, lock_eq] at h; exact (bnot_t.1 h))
                  rw [if_neg (by rw [h1]; exact Bool.false_ne_true)] at hr
                  (try cbv)
                  apply Hidden.out
                  obtain rfl := Option.some.inj hr
                  have e := ht1 _ rfl
                  constructor
                  refine ⟨_, hF, ?_⟩
                  (try cbv); (try simp only [choice_lk, lock_eq, and_self, and_true, true_and]); (try first | exact e | exact e.symm | (and_intros <;> first | assumption | rfl | exact Eq.symm (by assumption)))
                 ·have h1 : (ieq y230 y232) = true := by first | exact (bnot_f.1 h) | (have h2 := (bnot_f.1 h); simp only [choice_lk, lock_eq] at h2; exact h2) | (simp only [choice_lk, lock_eq] at h; exact (bnot_f.1 h))
                  rw [if_pos h1] at hr
                  (try cbv)
                  apply Hidden.out
                  obtain rfl := Option.some.inj hr
                  constructor
                  refine ⟨⟨_, rfl⟩, ?_⟩
                  rintro ⟨u0, u1, u2, u3, u4, u5, u6, u7⟩ e
                  replace e := Sum.inl.inj e
                  simp only [Prod.mk.injEq] at e
                  obtain ⟨e0, e1, e2, e3, e4, e5, e6, e7⟩ := e
                  refine le_auto hk ?_
                  (try cbv); (try simp only [choice_lk, lock_eq, and_self, and_true, true_and]); (try first | exact e | exact e.symm | (and_intros <;> first | assumption | rfl | exact Eq.symm (by assumption)))
            ·refine sel_intro (fun h => ?_) (fun h => ?_)
             ·have h1 : (ieq (3 : Int) y219) = false := by first | exact (bnot_t.1 h) | (have h2 := (bnot_t.1 h); simp only [choice_lk, lock_eq] at h2; exact h2) | (simp only [choice_lk, lock_eq] at h; exact (bnot_t.1 h))
              rw [if_neg (by rw [h1]; exact Bool.false_ne_true)] at hr
              (try cbv)
              apply Hidden.out
              obtain rfl := Option.some.inj hr
              have e := ht1 _ rfl
              constructor
              refine ⟨_, hF, ?_⟩
              (try cbv); (try simp only [choice_lk, lock_eq, and_self, and_true, true_and]); (try first | exact e | exact e.symm | (and_intros <;> first | assumption | rfl | exact Eq.symm (by assumption)))
             ·as_aux_lemma =>
              have h1 : (ieq (3 : Int) y219) = true := by first | exact (bnot_f.1 h) | (have h2 := (bnot_f.1 h); simp only [choice_lk, lock_eq] at h2; exact h2) | (simp only [choice_lk, lock_eq] at h; exact (bnot_f.1 h))
              rw [if_pos h1] at hr
              (try cbv)
              have hqe : ∃ qq, F_journal_Load true y223 q37 = some qq := by
               cases hq : F_journal_Load true y223 q37 with
               | none => rw [hq] at hr; cases hr
               | some qq => exact ⟨qq, rfl⟩
              refine ⟨obl.2 (by simp only [choice_lk, lock_eq]; exact hqe), (by rintro (⟨_, _, _, _⟩) _ <;> cbv), ?_⟩
              clear hqe
              intro qq hx184
              simp only [choice_lk, lock_eq] at hx184
              rcases qq with ⟨k16, y233, y234, t62⟩
              all_goals (rw [hx184] at hr; dsimp only at hr; constructor; (try cbv))
              have hqe : ∃ qq, F_tollbarref32_Load c21 y216 y217 y218 q35 = some qq := by
               cases hq : F_tollbarref32_Load c21 y216 y217 y218 q35 with
               | none => rw [hq] at hr; cases hr
               | some qq => exact ⟨qq, rfl⟩
              refine ⟨obl.2 (by simp only [choice_lk, lock_eq]; exact hqe), (by rintro (⟨_, _, _⟩) _ <;> cbv), ?_⟩
              clear hqe
              intro qq hx185
              simp only [choice_lk, lock_eq] at hx185
              rcases qq with ⟨t63, y235, y236⟩
              all_goals (rw [hx185] at hr; dsimp only at hr; constructor; (try cbv))
              have hqe : ∃ qq, F_block_Device_Up_2 true y223 q37 = some qq := by
               cases hq : F_block_Device_Up_2 true y223 q37 with
               | none => rw [hq] at hr; cases hr
               | some qq => exact ⟨qq, rfl⟩
              refine ⟨obl.2 (by simp only [choice_lk, lock_eq]; exact hqe), (by rintro (_) _ <;> cbv), ?_⟩
              clear hqe
              intro qq hx186
              simp only [choice_lk, lock_eq] at hx186
              rcases qq with _
              all_goals (rw [hx186] at hr; dsimp only at hr; constructor; (try cbv))
              have hqe : ∃ qq, F_tollbarref31_Up c21 y216 y217 y218 q35 = some qq := by
               cases hq : F_tollbarref31_Up c21 y216 y217 y218 q35 with
               | none => rw [hq] at hr; cases hr
               | some qq => exact ⟨qq, rfl⟩
              refine ⟨obl.2 (by simp only [choice_lk, lock_eq]; exact hqe), (by rintro (_) _ <;> cbv), ?_⟩
              clear hqe
              intro qq hx187
              simp only [choice_lk, lock_eq] at hx187
              rcases qq with _
              all_goals (rw [hx187] at hr; dsimp only at hr; constructor; (try cbv))
              have hqe : ∃ qq, F_journal_Load false y223 q37 = some qq := by
               cases hq : F_journal_Load false y223 q37 with
               | none => rw [hq] at hr; cases hr
               | some qq => exact ⟨qq, rfl⟩
              refine ⟨obl.2 (by simp only [choice_lk, lock_eq]; exact hqe), (by rintro (⟨_, _, _, _⟩) _ <;> cbv), ?_⟩
              clear hqe
              intro qq hx188
              simp only [choice_lk, lock_eq] at hx188
              rcases qq with ⟨k17, y237, y238, t64⟩
              all_goals (rw [hx188] at hr; dsimp only at hr; constructor; (try cbv))
              have hqe : ∃ qq, F_tollbarref32_Load false (-1 : Int) (0 : Int) y218 q35 = some qq := by
               cases hq : F_tollbarref32_Load false (-1 : Int) (0 : Int) y218 q35 with
               | none => rw [hq] at hr; cases hr
               | some qq => exact ⟨qq, rfl⟩
              refine ⟨obl.2 (by simp only [choice_lk, lock_eq]; exact hqe), (by rintro (⟨_, _, _⟩) _ <;> cbv), ?_⟩
              clear hqe
              intro qq hx189
              simp only [choice_lk, lock_eq] at hx189
              rcases qq with ⟨t65, y239, y240⟩
              all_goals (rw [hx189] at hr; dsimp only at hr; constructor; (try cbv))
              refine sel_intro (fun h => ?_) (fun h => ?_)
              ·have h1 : (ieq y234 y236) = false := by first | exact (bnot_t.1 h) | (have h2 := (bnot_t.1 h); simp only [choice_lk, lock_eq] at h2; exact h2) | (simp only [choice_lk, lock_eq] at h; exact (bnot_t.1 h))
               rw [if_neg (by rw [h1]; exact Bool.false_ne_true)] at hr
               (try cbv)
               apply Hidden.out
               obtain rfl := Option.some.inj hr
               have e := ht1 _ rfl
               constructor
               refine ⟨_, hF, ?_⟩
               (try cbv); (try simp only [choice_lk, lock_eq, and_self, and_true, true_and]); (try first | exact e | exact e.symm | (and_intros <;> first | assumption | rfl | exact Eq.symm (by assumption)))
              ·have h1 : (ieq y234 y236) = true := by first | exact (bnot_f.1 h) | (have h2 := (bnot_f.1 h); simp only [choice_lk, lock_eq] at h2; exact h2) | (simp only [choice_lk, lock_eq] at h; exact (bnot_f.1 h))
               rw [if_pos h1] at hr
               (try cbv)
               refine sel_intro (fun h => ?_) (fun h => ?_)
               ·have h1 : (seq (lsub t64 0 k17) t65) = false := by first | exact (bnot_t.1 h) | (have h2 := (bnot_t.1 h); simp only [choice_lk, lock_eq] at h2; exact h2) | (simp only [choice_lk, lock_eq] at h; exact (bnot_t.1 h))
                rw [if_neg (by rw [h1]; exact Bool.false_ne_true)] at hr
                (try cbv)
                apply Hidden.out
                obtain rfl := Option.some.inj hr
                have e := ht1 _ rfl
                constructor
                refine ⟨_, hF, ?_⟩
                (try cbv); (try simp only [choice_lk, lock_eq, and_self, and_true, true_and]); (try first | exact e | exact e.symm | (and_intros <;> first | assumption | rfl | exact Eq.symm (by assumption)))
               ·have h1 : (seq (lsub t64 0 k17) t65) = true := by first | exact (bnot_f.1 h) | (have h2 := (bnot_f.1 h); simp only [choice_lk, lock_eq] at h2; exact h2) | (simp only [choice_lk, lock_eq] at h; exact (bnot_f.1 h))
                rw [if_pos h1] at hr
                (try cbv)
                refine sel_intro (fun h => ?_) (fun h => ?_)
                ·have h1 : (ieq y237 y239) = false := by first | exact (bnot_t.1 h) | (have h2 := (bnot_t.1 h); simp only [choice_lk, lock_eq] at h2; exact h2) | (simp only [choice_lk, lock_eq] at h; exact (bnot_t.1 h))
                 rw [if_neg (by rw [h1]; exact Bool.false_ne_true)] at hr
                 (try cbv)
                 apply Hidden.out
                 obtain rfl := Option.some.inj hr
                 have e := ht1 _ rfl
                 constructor
                 refine ⟨_, hF, ?_⟩
                 (try cbv); (try simp only [choice_lk, lock_eq, and_self, and_true, true_and]); (try first | exact e | exact e.symm | (and_intros <;> first | assumption | rfl | exact Eq.symm (by assumption)))
                ·have h1 : (ieq y237 y239) = true := by first | exact (bnot_f.1 h) | (have h2 := (bnot_f.1 h); simp only [choice_lk, lock_eq] at h2; exact h2) | (simp only [choice_lk, lock_eq] at h; exact (bnot_f.1 h))
                 rw [if_pos h1] at hr
                 (try cbv)
                 refine sel_intro (fun h => ?_) (fun h => ?_)
                 ·have h1 : (ieq y238 y240) = false := by first | exact (bnot_t.1 h) | (have h2 := (bnot_t.1 h); simp only [choice_lk, lock_eq] at h2; exact h2) | (simp only [choice_lk, lock_eq] at h; exact (bnot_t.1 h))
                  rw [if_neg (by rw [h1]; exact Bool.false_ne_true)] at hr
                  (try cbv)
                  apply Hidden.out
                  obtain rfl := Option.some.inj hr
                  have e := ht1 _ rfl
                  constructor
                  refine ⟨_, hF, ?_⟩
                  (try cbv); (try simp only [choice_lk, lock_eq, and_self, and_true, true_and]); (try first | exact e | exact e.symm | (and_intros <;> first | assumption | rfl | exact Eq.symm (by assumption)))
                 ·have h1 : (ieq y238 y240) = true := by first | exact (bnot_f.1 h) | (have h2 := (bnot_f.1 h); simp only [choice_lk, lock_eq] at h2; exact h2) | (simp only [choice_lk, lock_eq] at h; exact (bnot_f.1 h))
                  rw [if_pos h1] at hr
                  (try cbv)
                  apply Hidden.out
                  obtain rfl := Option.some.inj hr
                  constructor
                  refine ⟨⟨_, rfl⟩, ?_⟩
                  rintro ⟨u0, u1, u2, u3, u4, u5, u6, u7⟩ e
                  replace e := Sum.inl.inj e
                  simp only [Prod.mk.injEq] at e
                  obtain ⟨e0, e1, e2, e3, e4, e5, e6, e7⟩ := e
                  refine le_auto hk ?_
                  (try cbv); (try simp only [choice_lk, lock_eq, and_self, and_true, true_and]); (try first | exact e | exact e.symm | (and_intros <;> first | assumption | rfl | exact Eq.symm (by assumption)))
          ·as_aux_lemma =>
           have h1 : (ile (D.toI (D.fld (getD r1 (toN i14)) 2)) (200 : Int)) = false := by first | exact h | (have h2 := h; simp only [choice_lk, lock_eq] at h2; exact h2) | (simp only [choice_lk, lock_eq] at h; exact h)
           rw [if_neg (by rw [h1]; exact Bool.false_ne_true)] at hr
           (try cbv)
           have hqe : ∃ qq, F_tollbarlaw32_bytes (D.toI (D.fld (getD r1 (toN i14)) 0)) (D.toI (D.fld (getD r1 (toN i14)) 1)) (D.toI (D.fld (getD r1 (toN i14)) 2)) (D.toI (D.fld (getD r1 (toN i14)) 3)) = some qq := by
            cases hq : F_tollbarlaw32_bytes (D.toI (D.fld (getD r1 (toN i14)) 0)) (D.toI (D.fld (getD r1 (toN i14)) 1)) (D.toI (D.fld (getD r1 (toN i14)) 2)) (D.toI (D.fld (getD r1 (toN i14)) 3)) with
            | none => rw [hq] at hr; cases hr
            | some qq => exact ⟨qq, rfl⟩
           refine ⟨(by simp only [choice_lk, lock_eq]; exact hqe), obl.2 (by simp only [choice_lk, lock_eq]; exact hqe), (by rintro (_) _ <;> cbv), ?_⟩
           clear hqe
           intro t66 hx190
           simp only [choice_lk, lock_eq] at hx190
           all_goals (rw [hx190] at hr; dsimp only at hr; constructor; (try cbv))
           have hqe : ∃ qq, F_tollbarref32_Save b4 i16 i17 i18 t66 r8 = some qq := by
            cases hq : F_tollbarref32_Save b4 i16 i17 i18 t66 r8 with
            | none => rw [hq] at hr; cases hr
            | some qq => exact ⟨qq, rfl⟩
           refine ⟨(by simp only [choice_lk, lock_eq]; exact hqe), obl.2 (by simp only [choice_lk, lock_eq]; exact hqe), (by rintro (⟨_, _, _, _, _, _⟩) _ <;> cbv), ?_⟩
           clear hqe
           intro qq hx191
           simp only [choice_lk, lock_eq] at hx191
           rcases qq with ⟨c22, y241, y242, y243, y244, q38⟩
           all_goals (rw [hx191] at hr; dsimp only at hr; constructor; (try cbv))
           refine ⟨obl.2 (by simp only [choice_lk, lock_eq]; exact ⟨_, hx190⟩), (by rintro (_) _ <;> cbv), ?_⟩
           intro qq hx
           simp only [choice_lk, lock_eq] at hx
           obtain rfl := Option.some.inj (hx190.symm.trans hx)
           constructor
           (try cbv)
           have hqe : ∃ qq, F_journal_Save t66 false i15 r7 = some qq := by
            cases hq : F_journal_Save t66 false i15 r7 with
            | none => rw [hq] at hr; cases hr
            | some qq => exact ⟨qq, rfl⟩
           refine ⟨obl.2 (by simp only [choice_lk, lock_eq]; exact hqe), (by rintro (⟨_, _, _⟩) _ <;> cbv), ?_⟩
           clear hqe
           intro qq hx193
           simp only [choice_lk, lock_eq] at hx193
           rcases qq with ⟨y245, y246, q39⟩
           all_goals (rw [hx193] at hr; dsimp only at hr; constructor; (try cbv))
           refine sel_intro (fun h => ?_) (fun h => ?_)
           ·have h1 : (ieq y245 y244) = false := by first | exact (bnot_t.1 h) | (have h2 := (bnot_t.1 h); simp only [choice_lk, lock_eq] at h2; exact h2) | (simp only [choice_lk, lock_eq] at h; exact (bnot_t.1 h))
            rw [if_neg (by rw [h1]; exact Bool.false_ne_true)] at hr
            (try cbv)
            apply Hidden.out
            obtain rfl := Option.some.inj hr
            have e := ht1 _ rfl
            constructor
            refine ⟨_, hF, ?_⟩
            (try cbv); (try simp only [choice_lk, lock_eq, and_self, and_true, true_and]); (try first | exact e | exact e.symm | (and_intros <;> first | assumption | rfl | exact Eq.symm (by assumption)))
           ·as_aux_lemma =>
            have h1 : (ieq y245 y244) = true := by first | exact (bnot_f.1 h) | (have h2 := (bnot_f.1 h); simp only [choice_lk, lock_eq] at h2; exact h2) | (simp only [choice_lk, lock_eq] at h; exact (bnot_f.1 h))
            rw [if_pos h1] at hr
            (try cbv)
            have hqe : ∃ qq, F_journal_Load false y246 q39 = some qq := by
             cases hq : F_journal_Load false y246 q39 with
             | none => rw [hq] at hr; cases hr
             | some qq => exact ⟨qq, rfl⟩
            refine ⟨obl.2 (by simp only [choice_lk, lock_eq]; exact hqe), (by rintro (⟨_, _, _, _⟩) _ <;> cbv), ?_⟩
            clear hqe
            intro qq hx194
            simp only [choice_lk, lock_eq] at hx194
            rcases qq with ⟨k18, y247, y248, t67⟩
            all_goals (rw [hx194] at hr; dsimp only at hr; constructor; (try cbv))
            have hqe : ∃ qq, F_tollbarref32_Load c22 y241 y242 y243 q38 = some qq := by
             cases hq : F_tollbarref32_Load c22 y241 y242 y243 q38 with
             | none => rw [hq] at hr; cases hr
             | some qq => exact ⟨qq, rfl⟩
            refine ⟨obl.2 (by simp only [choice_lk, lock_eq]; exact hqe), (by rintro (⟨_, _, _⟩) _ <;> cbv), ?_⟩
            clear hqe
            intro qq hx195
            simp only [choice_lk, lock_eq] at hx195
            rcases qq with ⟨t68, y249, y250⟩
            all_goals (rw [hx195] at hr; dsimp only at hr; constructor; (try cbv))
            have hqe : ∃ qq, F_block_Device_Up_2 false y246 q39 = some qq := by
             cases hq : F_block_Device_Up_2 false y246 q39 with
             | none => rw [hq] at hr; cases hr
             | some qq => exact ⟨qq, rfl⟩
            refine ⟨obl.2 (by simp only [choice_lk, lock_eq]; exact hqe), (by rintro (_) _ <;> cbv), ?_⟩
            clear hqe
            intro qq hx196
            simp only [choice_lk, lock_eq] at hx196
            rcases qq with _
            all_goals (rw [hx196] at hr; dsimp only at hr; constructor; (try cbv))
            have hqe : ∃ qq, F_tollbarref31_Up c22 y241 y242 y243 q38 = some qq := by
             cases hq : F_tollbarref31_Up c22 y241 y242 y243 q38 with
             | none => rw [hq] at hr; cases hr
             | some qq => exact ⟨qq, rfl⟩
            refine ⟨obl.2 (by simp only [choice_lk, lock_eq]; exact hqe), (by rintro (_) _ <;> cbv), ?_⟩
            clear hqe
            intro qq hx197
            simp only [choice_lk, lock_eq] at hx197
            rcases qq with _
            all_goals (rw [hx197] at hr; dsimp only at hr; constructor; (try cbv))
            refine ⟨obl.2 (by simp only [choice_lk, lock_eq]; exact ⟨_, hx194⟩), (by rintro (⟨_, _, _, _⟩) _ <;> cbv), ?_⟩
            intro qq hx
            simp only [choice_lk, lock_eq] at hx
            obtain rfl := Option.some.inj (hx194.symm.trans hx)
            constructor
            (try cbv)
            have hqe : ∃ qq, F_tollbarref32_Load false (-1 : Int) (0 : Int) y243 q38 = some qq := by
             cases hq : F_tollbarref32_Load false (-1 : Int) (0 : Int) y243 q38 with
             | none => rw [hq] at hr; cases hr
             | some qq => exact ⟨qq, rfl⟩
            refine ⟨obl.2 (by simp only [choice_lk, lock_eq]; exact hqe), (by rintro (⟨_, _, _⟩) _ <;> cbv), ?_⟩
            clear hqe
            intro qq hx199
            simp only [choice_lk, lock_eq] at hx199
            rcases qq with ⟨t69, y251, y252⟩
            all_goals (rw [hx199] at hr; dsimp only at hr; constructor; (try cbv))
            refine sel_intro (fun h => ?_) (fun h => ?_)
            ·have h1 : (ieq y248 y250) = false := by first | exact (bnot_t.1 h) | (have h2 := (bnot_t.1 h); simp only [choice_lk, lock_eq] at h2; exact h2) | (simp only [choice_lk, lock_eq] at h; exact (bnot_t.1 h))
             rw [if_neg (by rw [h1]; exact Bool.false_ne_true)] at hr
             (try cbv)
             apply Hidden.out
             obtain rfl := Option.some.inj hr
             have e := ht1 _ rfl
             constructor
             refine ⟨_, hF, ?_⟩
             (try cbv); (try simp only [choice_lk, lock_eq, and_self, and_true, true_and]); (try first | exact e | exact e.symm | (and_intros <;> first | assumption | rfl | exact Eq.symm (by assumption)))
            ·have h1 : (ieq y248 y250) = true := by first | exact (bnot_f.1 h) | (have h2 := (bnot_f.1 h); simp only [choice_lk, lock_eq] at h2; exact h2) | (simp only [choice_lk, lock_eq] at h; exact (bnot_f.1 h))
             rw [if_pos h1] at hr
             (try cbv)
             refine sel_intro (fun h => ?_) (fun h => ?_)
             ·have h1 : (seq (lsub t67 0 k18) t69) = false := by first | exact (bnot_t.1 h) | (have h2 := (bnot_t.1 h); simp only [choice_lk, lock_eq] at h2; exact h2) | (simp only [choice_lk, lock_eq] at h; exact (bnot_t.1 h))
              rw [if_neg (by rw [h1]; exact Bool.false_ne_true)] at hr
              (try cbv)
              apply Hidden.out
              obtain rfl := Option.some.inj hr
              have e := ht1 _ rfl
              constructor
              refine ⟨_, hF, ?_⟩
              (try cbv); (try simp only [choice_lk, lock_eq, and_self, and_true, true_and]); (try first | exact e | exact e.symm | (and_intros <;> first | assumption | rfl | exact Eq.symm (by assumption)))
             ·have h1 : (seq (lsub t67 0 k18) t69) = true := by first | exact (bnot_f.1 h) | (have h2 := (bnot_f.1 h); simp only [choice_lk, lock_eq] at h2; exact h2) | (simp only [choice_lk, lock_eq] at h; exact (bnot_f.1 h))
              rw [if_pos h1] at hr
              (try cbv)
              refine sel_intro (fun h => ?_) (fun h => ?_)
              ·have h1 : (ieq y247 y251) = false := by first | exact (bnot_t.1 h) | (have h2 := (bnot_t.1 h); simp only [choice_lk, lock_eq] at h2; exact h2) | (simp only [choice_lk, lock_eq] at h; exact (bnot_t.1 h))
               rw [if_neg (by rw [h1]; exact Bool.false_ne_true)] at hr
               (try cbv)
               apply Hidden.out
               obtain rfl := Option.some.inj hr
               have e := ht1 _ rfl
               constructor
               refine ⟨_, hF, ?_⟩
               (try cbv); (try simp only [choice_lk, lock_eq, and_self, and_true, true_and]); (try first | exact e | exact e.symm | (and_intros <;> first | assumption | rfl | exact Eq.symm (by assumption)))
              ·have h1 : (ieq y247 y251) = true := by first | exact (bnot_f.1 h) | (have h2 := (bnot_f.1 h); simp only [choice_lk, lock_eq] at h2; exact h2) | (simp only [choice_lk, lock_eq] at h; exact (bnot_f.1 h))
               rw [if_pos h1] at hr
               (try cbv)
               refine sel_intro (fun h => ?_) (fun h => ?_)
               ·have h1 : (ieq y248 y252) = false := by first | exact (bnot_t.1 h) | (have h2 := (bnot_t.1 h); simp only [choice_lk, lock_eq] at h2; exact h2) | (simp only [choice_lk, lock_eq] at h; exact (bnot_t.1 h))
                rw [if_neg (by rw [h1]; exact Bool.false_ne_true)] at hr
                (try cbv)
                apply Hidden.out
                obtain rfl := Option.some.inj hr
                have e := ht1 _ rfl
                constructor
                refine ⟨_, hF, ?_⟩
                (try cbv); (try simp only [choice_lk, lock_eq, and_self, and_true, true_and]); (try first | exact e | exact e.symm | (and_intros <;> first | assumption | rfl | exact Eq.symm (by assumption)))
               ·have h1 : (ieq y248 y252) = true := by first | exact (bnot_f.1 h) | (have h2 := (bnot_f.1 h); simp only [choice_lk, lock_eq] at h2; exact h2) | (simp only [choice_lk, lock_eq] at h; exact (bnot_f.1 h))
                rw [if_pos h1] at hr
                (try cbv)
                apply Hidden.out
                obtain rfl := Option.some.inj hr
                constructor
                refine ⟨⟨_, rfl⟩, ?_⟩
                rintro ⟨u0, u1, u2, u3, u4, u5, u6, u7⟩ e
                replace e := Sum.inl.inj e
                simp only [Prod.mk.injEq] at e
                obtain ⟨e0, e1, e2, e3, e4, e5, e6, e7⟩ := e
                refine le_auto hk ?_
                (try cbv); (try simp only [choice_lk, lock_eq, and_self, and_true, true_and]); (try first | exact e | exact e.symm | (and_intros <;> first | assumption | rfl | exact Eq.symm (by assumption)))
         ·have h1 : (ilt i14 (ofN (xlen r1))) = false := by first | exact h | (have h2 := h; simp only [choice_lk, lock_eq] at h2; exact h2) | (simp only [choice_lk, lock_eq] at h; exact h)
          rw [if_neg (by rw [h1]; exact Bool.false_ne_true)] at hr
          (try cbv)
          apply Hidden.out
          obtain rfl := Option.some.inj hr
          have e := ht1 _ rfl
          constructor
          refine ⟨_, hF, ?_⟩
          (try cbv); (try simp only [choice_lk, lock_eq, and_self, and_true, true_and]); (try first | exact e | exact e.symm | (and_intros <;> first | assumption | rfl | exact Eq.symm (by assumption)))
end Go.Proofs.YtbkcmpggacbikaaDoor
end
section
/-
  The walks of the functions that tollbar/tollbarlaw32.JournalDoes reaches, tied to the program (printed by a program of ours).
-/
set_option linter.unusedVariables false
set_option linter.unusedSimpArgs false
namespace Go.Proofs.YtbkcmpggacbikaaDoor
open Go.RowKit
theorem mixed : Tryd.prog.follows .mixedOrders = true := by kernel_rfl
theorem tabok_block_New : Tab Tryd.prog tab_block_New := Tab.nil _
theorem ok_block_New : FnOK Tryd.prog 8 con_block_New := FnOK.of tabok_block_New mixed Tryd.func8 comp_8 (vc_block_New _ tabok_block_New mixed)
theorem tabok_block_Device_Blocks : Tab Tryd.prog tab_block_Device_Blocks := Tab.nil _
theorem ok_block_Device_Blocks : FnOK Tryd.prog 25 con_block_Device_Blocks := FnOK.of tabok_block_Device_Blocks mixed Tryd.func25 comp_25 (vc_block_Device_Blocks _ tabok_block_Device_Blocks mixed)
theorem tabok_block_Device_Down : Tab Tryd.prog tab_block_Device_Down := Tab.nil _
theorem ok_block_Device_Down : FnOK Tryd.prog 26 con_block_Device_Down := FnOK.of tabok_block_Device_Down mixed Tryd.func26 comp_26 (vc_block_Device_Down _ tabok_block_Device_Down mixed)
theorem tabok_block_Device_may : Tab Tryd.prog tab_block_Device_may := Tab.nil _
theorem ok_block_Device_may : FnOK Tryd.prog 24 con_block_Device_may := FnOK.of tabok_block_Device_may mixed Tryd.func24 comp_24 (vc_block_Device_may _ tabok_block_Device_may mixed)
theorem tabok_block_Device_Read : Tab Tryd.prog tab_block_Device_Read := Tab.cons (Tab.nil _) ok_block_Device_may Tryd.func24 rfl rfl
theorem ok_block_Device_Read : FnOK Tryd.prog 12 con_block_Device_Read := FnOK.of tabok_block_Device_Read mixed Tryd.func12 comp_12 (vc_block_Device_Read _ tabok_block_Device_Read mixed)
theorem tabok_slices_Clone : Tab Tryd.prog tab_slices_Clone := Tab.nil _
theorem ok_slices_Clone : FnOK Tryd.prog 45 con_slices_Clone := FnOK.of tabok_slices_Clone mixed Tryd.func45 comp_45 (vc_slices_Clone _ tabok_slices_Clone mixed)
theorem tabok_octet_Open : Tab Tryd.prog tab_octet_Open := Tab.cons (Tab.nil _) ok_slices_Clone Tryd.func45 rfl rfl
theorem ok_octet_Open : FnOK Tryd.prog 36 con_octet_Open := FnOK.of tabok_octet_Open mixed Tryd.func36 comp_36 (vc_octet_Open _ tabok_octet_Open mixed)
theorem tabok_octet_Window_fail : Tab Tryd.prog tab_octet_Window_fail := Tab.nil _
theorem ok_octet_Window_fail : FnOK Tryd.prog 46 con_octet_Window_fail := FnOK.of tabok_octet_Window_fail mixed Tryd.func46 comp_46 (vc_octet_Window_fail _ tabok_octet_Window_fail mixed)
theorem tabok_octet_Window_Bytes : Tab Tryd.prog tab_octet_Window_Bytes := Tab.cons (Tab.nil _) ok_octet_Window_fail Tryd.func46 rfl rfl
theorem ok_octet_Window_Bytes : FnOK Tryd.prog 48 con_octet_Window_Bytes := FnOK.of tabok_octet_Window_Bytes mixed Tryd.func48 comp_48 (vc_octet_Window_Bytes _ tabok_octet_Window_Bytes mixed)
theorem tabok_octet_Value : Tab Tryd.prog tab_octet_Value := Tab.nil _
theorem ok_octet_Value : FnOK Tryd.prog 47 con_octet_Value := FnOK.of tabok_octet_Value mixed Tryd.func47 comp_47 (vc_octet_Value _ tabok_octet_Value mixed)
theorem tabok_octet_Window_Num : Tab Tryd.prog tab_octet_Window_Num := Tab.cons (Tab.cons (Tab.cons (Tab.nil _) ok_octet_Value Tryd.func47 rfl rfl) ok_octet_Window_Bytes Tryd.func48 rfl rfl) ok_octet_Window_fail Tryd.func46 rfl rfl
theorem ok_octet_Window_Num : FnOK Tryd.prog 37 con_octet_Window_Num := FnOK.of tabok_octet_Window_Num mixed Tryd.func37 comp_37 (vc_octet_Window_Num _ tabok_octet_Window_Num mixed)
theorem tabok_journal_read : Tab Tryd.prog tab_journal_read := Tab.cons (Tab.nil _) ok_block_Device_Read Tryd.func12 rfl rfl
theorem ok_journal_read : FnOK Tryd.prog 38 con_journal_read := FnOK.of tabok_journal_read mixed Tryd.func38 comp_38 (vc_journal_read _ tabok_journal_read mixed)
theorem tabok_octet_Big : Tab Tryd.prog tab_octet_Big := Tab.nil _
theorem ok_octet_Big : FnOK Tryd.prog 43 con_octet_Big := FnOK.of tabok_octet_Big mixed Tryd.func43 comp_43 (vc_octet_Big _ tabok_octet_Big mixed)
theorem tabok_frame_Sum : Tab Tryd.prog tab_frame_Sum := Tab.nil _
theorem ok_frame_Sum : FnOK Tryd.prog 44 con_frame_Sum := FnOK.of tabok_frame_Sum mixed Tryd.func44 comp_44 (vc_frame_Sum _ tabok_frame_Sum mixed)
theorem tabok_journal_head : Tab Tryd.prog tab_journal_head := Tab.cons (Tab.cons (Tab.cons (Tab.nil _) ok_bytes_Join Tryd.func42 rfl rfl) ok_frame_Sum Tryd.func44 rfl rfl) ok_octet_Big Tryd.func43 rfl rfl
theorem ok_journal_head : FnOK Tryd.prog 35 con_journal_head := FnOK.of tabok_journal_head mixed Tryd.func35 comp_35 (vc_journal_head _ tabok_journal_head mixed)
theorem tabok_bytes_Equal : Tab Tryd.prog tab_bytes_Equal := Tab.nil _
theorem ok_bytes_Equal : FnOK Tryd.prog 39 con_bytes_Equal := FnOK.of tabok_bytes_Equal mixed Tryd.func39 comp_39 (vc_bytes_Equal _ tabok_bytes_Equal mixed)
theorem tabok_journal_whole : Tab Tryd.prog tab_journal_whole := Tab.cons (Tab.cons (Tab.cons (Tab.cons (Tab.cons (Tab.cons (Tab.nil _) ok_bytes_Equal Tryd.func39 rfl rfl) ok_journal_head Tryd.func35 rfl rfl) ok_journal_read Tryd.func38 rfl rfl) ok_octet_Window_Num Tryd.func37 rfl rfl) ok_octet_Open Tryd.func36 rfl rfl) ok_block_Device_Read Tryd.func12 rfl rfl
theorem ok_journal_whole : FnOK Tryd.prog 27 con_journal_whole := FnOK.of tabok_journal_whole mixed Tryd.func27 comp_27 (vc_journal_whole _ tabok_journal_whole mixed)
theorem tabok_journal_Load : Tab Tryd.prog tab_journal_Load := Tab.cons (Tab.cons (Tab.cons (Tab.nil _) ok_journal_whole Tryd.func27 rfl rfl) ok_block_Device_Down Tryd.func26 rfl rfl) ok_block_Device_Blocks Tryd.func25 rfl rfl
theorem ok_journal_Load : FnOK Tryd.prog 11 con_journal_Load := FnOK.of tabok_journal_Load mixed Tryd.func11 comp_11 (vc_journal_Load _ tabok_journal_Load mixed)
theorem tabok_journal_blocks : Tab Tryd.prog tab_journal_blocks := Tab.nil _
theorem ok_journal_blocks : FnOK Tryd.prog 23 con_journal_blocks := FnOK.of tabok_journal_blocks mixed Tryd.func23 comp_23 (vc_journal_blocks _ tabok_journal_blocks mixed)
theorem tabok_block_Device_Write : Tab Tryd.prog tab_block_Device_Write := Tab.cons (Tab.nil _) ok_block_Device_may Tryd.func24 rfl rfl
theorem ok_block_Device_Write : FnOK Tryd.prog 10 con_block_Device_Write := FnOK.of tabok_block_Device_Write mixed Tryd.func10 comp_10 (vc_block_Device_Write _ tabok_block_Device_Write mixed)
theorem tabok_journal_Save : Tab Tryd.prog tab_journal_Save := Tab.cons (Tab.cons (Tab.cons (Tab.cons (Tab.nil _) ok_journal_head Tryd.func35 rfl rfl) ok_block_Device_Write Tryd.func10 rfl rfl) ok_journal_blocks Tryd.func23 rfl rfl) ok_journal_Load Tryd.func11 rfl rfl
theorem ok_journal_Save : FnOK Tryd.prog 9 con_journal_Save := FnOK.of tabok_journal_Save mixed Tryd.func9 comp_9 (vc_journal_Save _ tabok_journal_Save mixed (ItOK.of Tryd.func34 comp_34 rfl rfl))
theorem tabok_tollbarlaw32_awake : Tab Tryd.prog tab_tollbarlaw32_awake := Tab.cons (Tab.cons (Tab.cons (Tab.nil _) ok_journal_Save Tryd.func9 rfl rfl) ok_journal_Load Tryd.func11 rfl rfl) ok_block_New Tryd.func8 rfl rfl
theorem ok_tollbarlaw32_awake : FnOK Tryd.prog 7 con_tollbarlaw32_awake := FnOK.of tabok_tollbarlaw32_awake mixed Tryd.func7 comp_7 (vc_tollbarlaw32_awake _ tabok_tollbarlaw32_awake mixed)
theorem tabok_tollbarref31_noughts : Tab Tryd.prog tab_tollbarref31_noughts := Tab.nil _
theorem ok_tollbarref31_noughts : FnOK Tryd.prog 28 con_tollbarref31_noughts := FnOK.of tabok_tollbarref31_noughts mixed Tryd.func28 comp_28 (vc_tollbarref31_noughts _ tabok_tollbarref31_noughts mixed)
theorem tabok_tollbarref31_New : Tab Tryd.prog tab_tollbarref31_New := Tab.cons (Tab.nil _) ok_tollbarref31_noughts Tryd.func28 rfl rfl
theorem ok_tollbarref31_New : FnOK Tryd.prog 13 con_tollbarref31_New := FnOK.of tabok_tollbarref31_New mixed Tryd.func13 comp_13 (vc_tollbarref31_New _ tabok_tollbarref31_New mixed)
theorem tabok_tollbarref31_Read : Tab Tryd.prog tab_tollbarref31_Read := Tab.nil _
theorem ok_tollbarref31_Read : FnOK Tryd.prog 29 con_tollbarref31_Read := FnOK.of tabok_tollbarref31_Read mixed Tryd.func29 comp_29 (vc_tollbarref31_Read _ tabok_tollbarref31_Read mixed)
theorem tabok_tollbarref31_with : Tab Tryd.prog tab_tollbarref31_with := Tab.nil _
theorem ok_tollbarref31_with : FnOK Tryd.prog 30 con_tollbarref31_with := FnOK.of tabok_tollbarref31_with mixed Tryd.func30 comp_30 (vc_tollbarref31_with _ tabok_tollbarref31_with mixed)
theorem tabok_tollbarref31_Write : Tab Tryd.prog tab_tollbarref31_Write := Tab.cons (Tab.cons (Tab.nil _) ok_tollbarref31_with Tryd.func30 rfl rfl) ok_tollbarref31_Read Tryd.func29 rfl rfl
theorem ok_tollbarref31_Write : FnOK Tryd.prog 14 con_tollbarref31_Write := FnOK.of tabok_tollbarref31_Write mixed Tryd.func14 comp_14 (vc_tollbarref31_Write _ tabok_tollbarref31_Write mixed)
theorem tabok_block_Device_Arm : Tab Tryd.prog tab_block_Device_Arm := Tab.nil _
theorem ok_block_Device_Arm : FnOK Tryd.prog 15 con_block_Device_Arm := FnOK.of tabok_block_Device_Arm mixed Tryd.func15 comp_15 (vc_block_Device_Arm _ tabok_block_Device_Arm mixed)
theorem tabok_tollbarref31_Arm : Tab Tryd.prog tab_tollbarref31_Arm := Tab.nil _
theorem ok_tollbarref31_Arm : FnOK Tryd.prog 16 con_tollbarref31_Arm := FnOK.of tabok_tollbarref31_Arm mixed Tryd.func16 comp_16 (vc_tollbarref31_Arm _ tabok_tollbarref31_Arm mixed)
theorem tabok_tollbarlaw32_bytes : Tab Tryd.prog tab_tollbarlaw32_bytes := Tab.nil _
theorem ok_tollbarlaw32_bytes : FnOK Tryd.prog 18 con_tollbarlaw32_bytes := FnOK.of tabok_tollbarlaw32_bytes mixed Tryd.func18 comp_18 (vc_tollbarlaw32_bytes _ tabok_tollbarlaw32_bytes mixed)
theorem tabok_tollbarref01_Value : Tab Tryd.prog tab_tollbarref01_Value := Tab.nil _
theorem ok_tollbarref01_Value : FnOK Tryd.prog 49 con_tollbarref01_Value := FnOK.of tabok_tollbarref01_Value mixed Tryd.func49 comp_49 (vc_tollbarref01_Value _ tabok_tollbarref01_Value mixed)
theorem tabok_tollbarref32_number : Tab Tryd.prog tab_tollbarref32_number := Tab.cons (Tab.nil _) ok_tollbarref01_Value Tryd.func49 rfl rfl
theorem ok_tollbarref32_number : FnOK Tryd.prog 41 con_tollbarref32_number := FnOK.of tabok_tollbarref32_number mixed Tryd.func41 comp_41 (vc_tollbarref32_number _ tabok_tollbarref32_number mixed)
theorem tabok_tollbarref04_Sum : Tab Tryd.prog tab_tollbarref04_Sum := Tab.nil _
theorem ok_tollbarref04_Sum : FnOK Tryd.prog 31 con_tollbarref04_Sum := FnOK.of tabok_tollbarref04_Sum mixed Tryd.func31 comp_31 (vc_tollbarref04_Sum _ tabok_tollbarref04_Sum mixed)
theorem tabok_tollbarref32_area : Tab Tryd.prog tab_tollbarref32_area := Tab.cons (Tab.cons (Tab.nil _) ok_tollbarref04_Sum Tryd.func31 rfl rfl) ok_tollbarref32_number Tryd.func41 rfl rfl
theorem ok_tollbarref32_area : FnOK Tryd.prog 33 con_tollbarref32_area := FnOK.of tabok_tollbarref32_area mixed Tryd.func33 comp_33 (vc_tollbarref32_area _ tabok_tollbarref32_area mixed)
theorem tabok_tollbarref32_Load : Tab Tryd.prog tab_tollbarref32_Load := Tab.cons (Tab.nil _) ok_tollbarref32_area Tryd.func33 rfl rfl
theorem ok_tollbarref32_Load : FnOK Tryd.prog 19 con_tollbarref32_Load := FnOK.of tabok_tollbarref32_Load mixed Tryd.func19 comp_19 (vc_tollbarref32_Load _ tabok_tollbarref32_Load mixed)
theorem tabok_tollbarref01_one : Tab Tryd.prog tab_tollbarref01_one := Tab.nil _
theorem ok_tollbarref01_one : FnOK Tryd.prog 40 con_tollbarref01_one := FnOK.of tabok_tollbarref01_one mixed Tryd.func40 comp_40 (vc_tollbarref01_one _ tabok_tollbarref01_one mixed)
theorem tabok_tollbarref01_Big : Tab Tryd.prog tab_tollbarref01_Big := Tab.cons (Tab.nil _) ok_tollbarref01_one Tryd.func40 rfl rfl
theorem ok_tollbarref01_Big : FnOK Tryd.prog 32 con_tollbarref01_Big := FnOK.of tabok_tollbarref01_Big mixed Tryd.func32 comp_32 (vc_tollbarref01_Big _ tabok_tollbarref01_Big mixed)
theorem tabok_tollbarref32_Save : Tab Tryd.prog tab_tollbarref32_Save := Tab.cons (Tab.cons (Tab.cons (Tab.cons (Tab.nil _) ok_tollbarref31_Write Tryd.func14 rfl rfl) ok_tollbarref01_Big Tryd.func32 rfl rfl) ok_tollbarref04_Sum Tryd.func31 rfl rfl) ok_tollbarref32_Load Tryd.func19 rfl rfl
theorem ok_tollbarref32_Save : FnOK Tryd.prog 17 con_tollbarref32_Save := FnOK.of tabok_tollbarref32_Save mixed Tryd.func17 comp_17 (vc_tollbarref32_Save _ tabok_tollbarref32_Save mixed)
theorem tabok_block_Device_Up : Tab Tryd.prog tab_block_Device_Up := Tab.nil _
theorem ok_block_Device_Up : FnOK Tryd.prog 20 con_block_Device_Up := FnOK.of tabok_block_Device_Up mixed Tryd.func20 comp_20 (vc_block_Device_Up _ tabok_block_Device_Up mixed)
theorem tabok_tollbarref31_Up : Tab Tryd.prog tab_tollbarref31_Up := Tab.nil _
theorem ok_tollbarref31_Up : FnOK Tryd.prog 21 con_tollbarref31_Up := FnOK.of tabok_tollbarref31_Up mixed Tryd.func21 comp_21 (vc_tollbarref31_Up _ tabok_tollbarref31_Up mixed)
theorem tabok_tollbarlaw32_JournalDoes : Tab Tryd.prog tab_tollbarlaw32_JournalDoes := Tab.cons (Tab.cons (Tab.cons (Tab.cons (Tab.cons (Tab.cons (Tab.cons (Tab.cons (Tab.cons (Tab.cons (Tab.cons (Tab.cons (Tab.cons (Tab.cons (Tab.nil _) ok_tollbarref31_Up Tryd.func21 rfl rfl) ok_block_Device_Up Tryd.func20 rfl rfl) ok_tollbarref32_Load Tryd.func19 rfl rfl) ok_journal_Load Tryd.func11 rfl rfl) ok_journal_Save Tryd.func9 rfl rfl) ok_tollbarref32_Save Tryd.func17 rfl rfl) ok_tollbarlaw32_bytes Tryd.func18 rfl rfl) ok_tollbarref31_Arm Tryd.func16 rfl rfl) ok_block_Device_Arm Tryd.func15 rfl rfl) ok_tollbarref31_Write Tryd.func14 rfl rfl) ok_block_Device_Write Tryd.func10 rfl rfl) ok_tollbarref31_New Tryd.func13 rfl rfl) ok_block_New Tryd.func8 rfl rfl) ok_tollbarlaw32_awake Tryd.func7 rfl rfl
theorem ok_tollbarlaw32_JournalDoes : FnOK Tryd.prog 4 con_tollbarlaw32_JournalDoes := FnOK.of tabok_tollbarlaw32_JournalDoes mixed Tryd.func4 comp_4 (vc_tollbarlaw32_JournalDoes _ tabok_tollbarlaw32_JournalDoes mixed)
end Go.Proofs.YtbkcmpggacbikaaDoor
end
section
/-
  A walk that reckons: arguments of any shape, opened.
-/
set_option linter.unusedVariables false
set_option linter.unusedSimpArgs false
namespace Go.Proofs.YtbkcmpggacbikaaDoor
open Go.RowKit Go.ChangeShapes Go.WideShapes Go.Deep
mutual
def Ty.rng : Ty → D → Prop
 | .int k, d => (Lit.int k d.toI).wf = true
 | .bool, _ => True
 | .str, d => d.toS.length ≤ maxLen
 | .bytes _, d => d.toS.length ≤ maxLen
 | .ints _ k, d => d.toIs.length ≤ maxLen ∧ ∀ x ∈ d.toIs, (Lit.int k x).wf = true
 | .row _ e, d => d.toL.length ≤ maxLen ∧ ∀ x ∈ d.toL, e.rng x
 | .st fs, d => Ty.rngL fs d 0
 | .self _, _ => True
 | .u8s _, _ => True
def Ty.rngL : List Ty → D → Nat → Prop
 | [], _, _ => True
 | t :: ts, d, j => t.rng (d.fld j) ∧ Ty.rngL ts d (j + 1)
end
mutual
def tyChk (P : Program) : Ty → TypeId → Bool
 | .int k, t => match P.underlying t with | some (.int j) => j == k | _ => false
 | .bool, t => match P.underlying t with | some .bool => true | _ => false
 | .str, t => match P.underlying t with | some .string => true | _ => false
 | .bytes T, t => match P.underlying t, P.underlying T with | some (.slice e), some (.int .u8) => Nat.beq e T && Nat.beq (P.cellsOf T) 1 | _, _ => false
 | .ints T k, t => match P.underlying t, P.underlying T with | some (.slice e), some (.int j) => Nat.beq e T && Nat.beq (P.cellsOf T) 1 && j == k | _, _ => false
 | .row T e, t => match P.underlying t with | some (.slice e') => Nat.beq e' T && Nat.beq (P.cellsOf T) e.size && Nat.ble 1 e.size && tyChk P e T | _ => false
 | .st es, t => match P.underlying t with | some (.struct fl) => Nat.beq (P.cellsOf t) (Ty.sizes es) && tysChk P es fl.toList 0 | _ => false
 | .self _, _ => false
 | .u8s _, _ => false
def tysChk (P : Program) : List Ty → List Field → Nat → Bool
 | [], [], _ => true
 | e :: es, f :: fl, o => Nat.beq f.offset o && Nat.beq (P.cellsOf f.type) e.size && tyChk P e f.type && tysChk P es fl (o + e.size)
 | _, _, _ => false
end
section
variable {H : Type} {enc : TypeId × Value → H} {P : Program} {w : World} {base : Nat} {spare : Nat → Bool} {held : Bool}
def PN : Nat → Option Pl := fun _ => none
def AN : Nat → Prop := fun _ => False
theorem open_row {r : R} {a : Addr} {len cap : Nat} (hr : rlen r = len) (hl : len ≤ cap) (hsz : 0 < r.sz) (hrow : ∀ i, i < len → ∃ cs, cs.length = r.sz ∧ (∀ j, j < r.sz → w.cell? (a.add (i * r.sz + j)) = cs[j]?) ∧ Dens PN w AN (r.elem i) cs) :
  Den PN w AN (.rsl r) (.slice (some a) len cap) := by
 subst hr
 have : ∀ i, ∃ cs : List Value, i < rlen r → cs.length = r.sz ∧ (∀ j, j < r.sz → w.cell? (a.add (i * r.sz + j)) = cs[j]?) ∧ Dens PN w AN (r.elem i) cs := fun i => by
  by_cases h : i < rlen r
  ·obtain ⟨cs, h⟩ := hrow i h; exact ⟨cs, fun _ => h⟩
  ·exact ⟨[], fun h' => absurd h' h⟩
 obtain ⟨f, hf⟩ := Classical.axiomOfChoice this
 refine .rsl r (some a) cap (fun i j => ((f i)[j]?).getD undef) hl ?_ ?_ ?_
 ·intro h0
  obtain ⟨h1, h2, h3⟩ := hf 0 h0
  have hc := h2 0 hsz
  rw [Nat.zero_mul, Nat.zero_add, List.getElem?_eq_getElem (by omega)] at hc
  refine ⟨a, rfl, ?_, fun h => h⟩
  have := World.block_lt_of_cell? w _ hc
  rwa [add_block] at this
 ·intro i j ad e hi hj
  injection e with e; subst e
  obtain ⟨h1, h2, h3⟩ := hf i hi
  have hjl : j < (f i).length := by omega
  rw [add_add, h2 j hj, List.getElem?_eq_getElem hjl]
  have hle : (r.elem i).length = (f i).length := h3.1.symm
  exact ⟨rfl, by simpa using (h3.2 j (by omega) hjl).2⟩
 ·intro i j hi hj
  obtain ⟨h1, h2, h3⟩ := hf i hi
  have hjl : j < (f i).length := by rw [h3.1]; exact hj
  have := (h3.2 j hj hjl).1
  simpa [List.getElem?_eq_getElem hjl] using this
theorem den1 {v : SV} {c : Value} (h : Den PN w AN v c) (h1 : c.oneCell' = true) : Dens PN w AN [v] [c] := Dens.cons h h1 Dens.nil
theorem open_bytes {t T : TypeId} (hu : P.underlying t = some (.slice T)) (he : P.underlying T = some (.int .u8)) (hc : P.cellsOf T = 1) {fuel : Nat} {cs : List Value} {x : DataW H × List MemPlace} (h : DataW.trod enc P w base spare held fuel t cs = some x) :
  ∃ l : List UInt8, l.length ≤ maxLen ∧ Dens PN w AN [.rsl (.bs T l)] cs := by
 rcases open_slice1 hu hc h with ⟨rfl, _⟩ | ⟨a, len, cap, m, n, V, D, Pl, rfl, hb, hl, hm, hmm, _, hi⟩
 ·exact ⟨[], by simp, den1 (nil_den rfl .nsl) rfl⟩
 ·have hle : len ≤ m := by rw [hmm]; split <;> omega
  have each : ∀ i, ∃ b : UInt8, i < len → w.cell? (a.add i) = some (.int .u8 b.toNat) := fun i => by
   by_cases h : i < len
   ·obtain ⟨h1, h2⟩ := hi i (by omega)
    obtain ⟨y, e1, _, e2⟩ := DataW.trod_int he h2
    injection e1 with e1 _
    have hy : 0 ≤ y ∧ y ≤ 255 := by simpa [Lit.wf, IntKind.min, IntKind.max, IntKind.signed, IntKind.bits, Int.lt_add_one_iff, Int.le_sub_one_iff] using e2
    refine ⟨UInt8.ofNat y.toNat, fun _ => ?_⟩
    rw [h1, e1]
    have : ((UInt8.ofNat y.toNat).toNat : Int) = y := by simp; omega
    rw [this]
   ·exact ⟨0, fun h' => absurd h' h⟩
  obtain ⟨f, hf⟩ := Classical.axiomOfChoice each
  refine ⟨(List.range len).map f, by simp; omega, den1 (open_row (by simp [rlen]) hl (by show 0 < 1; omega) fun i hi => ⟨[.int .u8 (f i).toNat], rfl, ?_, ?_⟩) rfl⟩
  ·intro j hj
   have : j = 0 := by simp [R.sz] at hj; exact hj
   subst this
   simp only [R.sz, Nat.mul_one, Nat.add_zero]
   rw [hf i hi]
   rfl
  ·have : getB ((List.range len).map f) i = ((f i).toNat : Int) := by simp [getB, hi]
   simp only [R.elem, lock_eq, this]
   exact den1 (.v _) rfl
theorem open_intsD {t T : TypeId} {k : IntKind} (hu : P.underlying t = some (.slice T)) (he : P.underlying T = some (.int k)) (hc : P.cellsOf T = 1) {fuel : Nat} {cs : List Value} {x : DataW H × List MemPlace} (h : DataW.trod enc P w base spare held fuel t cs = some x) :
  ∃ l : List Int, l.length ≤ maxLen ∧ (∀ y ∈ l, (Lit.int k y).wf = true) ∧ Dens PN w AN [.rsl (.ints T k l)] cs := by
 rcases open_slice1 hu hc h with ⟨rfl, _⟩ | ⟨a, len, cap, m, n, V, D, Pl, rfl, hb, hl, hm, hmm, _, hi⟩
 ·exact ⟨[], by simp, by simp, den1 (nil_den rfl .nsl) rfl⟩
 ·have hle : len ≤ m := by rw [hmm]; split <;> omega
  have each : ∀ i, ∃ b : Int, i < len → w.cell? (a.add i) = some (.int k b) ∧ (Lit.int k b).wf = true := fun i => by
   by_cases h : i < len
   ·obtain ⟨h1, h2⟩ := hi i (by omega)
    obtain ⟨y, e1, _, e2⟩ := DataW.trod_int he h2
    injection e1 with e1 _
    exact ⟨y, fun _ => ⟨by rw [h1, e1], e2⟩⟩
   ·exact ⟨0, fun h' => absurd h' h⟩
  obtain ⟨f, hf⟩ := Classical.axiomOfChoice each
  refine ⟨(List.range len).map f, by simp; omega, ?_, den1 (open_row (by simp [rlen]) hl (by show 0 < 1; omega) fun i hi => ⟨[.int k (f i)], rfl, ?_, ?_⟩) rfl⟩
  ·intro y hy
   obtain ⟨i, h1, rfl⟩ := List.mem_map.1 hy
   exact (hf i (List.mem_range.1 h1)).2
  ·intro j hj
   have : j = 0 := by simp [R.sz] at hj; exact hj
   subst this
   simp only [R.sz, Nat.mul_one, Nat.add_zero]
   rw [(hf i hi).1]
   rfl
  ·have : getI ((List.range len).map f) i = f i := by simp [getI, hi]
   simp only [R.elem, lock_eq, this]
   exact den1 (.v _) rfl
theorem dens_app {a b : List SV} {c d : List Value} (h : Dens PN w AN a c) (k : Dens PN w AN b d) : Dens PN w AN (a ++ b) (c ++ d) := by
 refine ⟨by simp [h.1, k.1], fun j h1 h2 => ?_⟩
 by_cases hj : j < a.length
 ·have hc : j < c.length := by rw [h.1]; exact hj
  rw [List.getElem_append_left hj, List.getElem_append_left hc]
  exact h.2 j hj hc
 ·have hc : ¬ j < c.length := by rw [h.1]; exact hj
  rw [List.getElem_append_right (by omega), List.getElem_append_right (by omega)]
  have e := h.1
  have := k.2 (j - a.length) (by simp at h1; omega) (by simp at h2; omega)
  simpa [e] using this
theorem D.fld_l (l : List D) (j : Nat) : (D.l l).fld j = l.getD j (.i 0) := rfl
theorem open_ty : ∀ (e : Ty) (t : TypeId) (fuel : Nat) (cs : List Value) (x : DataW H × List MemPlace), tyChk P e t = true → DataW.trod enc P w base spare held fuel t cs = some x → ∃ d : D, Dens PN w AN (e.leaves d) cs ∧ e.rng d := by
 intro e
 apply Ty.rec (motive_1 := fun e => ∀ (t : TypeId) (fuel : Nat) (cs : List Value) (x : DataW H × List MemPlace), tyChk P e t = true → DataW.trod enc P w base spare held fuel t cs = some x → ∃ d : D, Dens PN w AN (e.leaves d) cs ∧ e.rng d)
  (motive_2 := fun es => ∀ (fl : List Field) (o : Nat) (cs : List Value), tysChk P es fl o = true → (∀ f ∈ fl, ∃ fuel x, DataW.trod enc P w base spare held fuel f.type ((cs.drop f.offset).take (P.cellsOf f.type)) = some x) → cs.length = o + Ty.sizes es →
   ∃ ds : List D, ds.length = es.length ∧ ∀ d j, (∀ i, i < es.length → d.fld (j + i) = ds.getD i (.i 0)) → Dens PN w AN (Ty.leavesL es d j) (cs.drop o) ∧ Ty.rngL es d j)
 ·intro k t fuel cs x hc h
  simp only [tyChk] at hc
  split at hc
  ·rename_i j hu
   have := LawfulBEq.eq_of_beq hc
   subst this
   obtain ⟨y, rfl, _, e2⟩ := DataW.trod_int hu h
   refine ⟨.i y, ?_, e2⟩
   simp only [Ty.leaves, lock_eq]
   exact den1 (.v _) rfl
  ·cases hc
 ·intro t fuel cs x hc h
  simp only [tyChk] at hc
  split at hc
  ·rename_i hu
   obtain ⟨b, rfl, _⟩ := DataW.trod_bool hu h
   refine ⟨.b b, ?_, trivial⟩
   simp only [Ty.leaves, lock_eq]
   exact den1 (.v _) rfl
  ·cases hc
 ·intro t fuel cs x hc h
  simp only [tyChk] at hc
  split at hc
  ·rename_i hu
   obtain ⟨b, rfl, _, e2⟩ := DataW.trod_string hu h
   refine ⟨.s b.data.toList, ?_, by
    show b.data.toList.length ≤ maxLen
    have : b.data.toList.length = b.size := by rw [Array.length_toList]; rfl
    rw [this]; exact e2⟩
   simp only [Ty.leaves, lock_eq, D.toS]
   have := Den.str (PL := PN) (w := w) (Av := AN) b.data.toList
   simp at this
   exact den1 this rfl
  ·cases hc
 ·intro T t fuel cs x hc h
  simp only [tyChk] at hc
  split at hc
  ·rename_i e0 hu he
   simp only [Bool.and_eq_true] at hc
   have e1 := (nbeq _ _).1 hc.1
   have e2 := (nbeq _ _).1 hc.2
   subst e1
   obtain ⟨l, h1, h2⟩ := open_bytes hu he e2 h
   exact ⟨.s l, by simp only [Ty.leaves, lock_eq]; exact h2, h1⟩
  ·cases hc
 ·intro T k t fuel cs x hc h
  simp only [tyChk] at hc
  split at hc
  ·rename_i e0 j hu he
   simp only [Bool.and_eq_true] at hc
   have e1 := (nbeq _ _).1 hc.1.1
   have e2 := (nbeq _ _).1 hc.1.2
   have e3 := LawfulBEq.eq_of_beq hc.2
   subst e1; subst e3
   obtain ⟨l, h1, h2, h3⟩ := open_intsD hu he e2 h
   exact ⟨.is l, by simp only [Ty.leaves, lock_eq]; exact h3, h1, h2⟩
  ·cases hc
 ·intro T e ih t fuel cs x hc h
  simp only [tyChk] at hc
  split at hc
  ·rename_i e0 hu
   simp only [Bool.and_eq_true] at hc
   obtain ⟨⟨⟨c1, c2⟩, c3⟩, c4⟩ := hc
   have e1 := (nbeq _ _).1 c1
   have e2 := (nbeq _ _).1 c2
   have e3 := Nat.le_of_ble_eq_true c3
   subst e1
   rcases open_slice hu h with ⟨rfl, _⟩ | ⟨a, len, cap, m, n, D0, Pl, rfl, hb, hl, hm, hmm, _, hi⟩
   ·refine ⟨.l [], ?_, by simp [Ty.rng, D.toL]⟩
    simp only [Ty.leaves, lock_eq, D.toL]
    exact den1 (nil_den rfl .nsl) rfl
   ·have hle : len ≤ m := by rw [hmm]; split <;> omega
    have each : ∀ i, ∃ q : D × List Value, i < len → q.2.length = e.size ∧ (∀ j, j < e.size → w.cell? (a.add (i * e.size + j)) = q.2[j]?) ∧ Dens PN w AN (e.leaves q.1) q.2 ∧ e.rng q.1 := fun i => by
     by_cases hil : i < len
     ·obtain ⟨cs', g1, g2⟩ := hi i (by omega)
      obtain ⟨_, g3, g4⟩ := World.cells?_some g1
      obtain ⟨d, g5, g6⟩ := ih _ n cs' _ c4 g2
      refine ⟨(d, cs'), fun _ => ⟨by rw [g3, e2], fun j hj => ?_, g5, g6⟩⟩
      have := g4 j (by omega)
      rw [add_add, e2] at this
      exact this
     ·exact ⟨(.i 0, []), fun h' => absurd h' hil⟩
    obtain ⟨f, hf⟩ := Classical.axiomOfChoice each
    refine ⟨.l ((List.range len).map fun i => (f i).1), ?_, ?_, ?_⟩
    ·simp only [Ty.leaves, lock_eq, D.toL]
     refine den1 (open_row (by simp [rlen]) hl (by show 0 < e.size; omega) fun i hi => ⟨(f i).2, (hf i hi).1, (hf i hi).2.1, ?_⟩) rfl
     have : getD ((List.range len).map fun i => (f i).1) i = (f i).1 := by simp [getD, hi]
     simp only [R.elem, lock_eq, this]
     exact (hf i hi).2.2.1
    ·simp [D.toL]; omega
    ·intro y hy
     simp only [D.toL] at hy
     obtain ⟨i, h1, rfl⟩ := List.mem_map.1 hy
     exact (hf i (List.mem_range.1 h1)).2.2.2
  ·cases hc
 ·intro es ih t fuel cs x hc h
  simp only [tyChk] at hc
  split at hc
  ·rename_i fl hu
   simp only [Bool.and_eq_true] at hc
   have e1 := (nbeq _ _).1 hc.1
   obtain ⟨xs, n, _, _, hlen, hxl, hx⟩ := DataW.trod_struct hu h
   obtain ⟨ds, h1, h2⟩ := ih fl.toList 0 cs hc.2 (fun f hf => by
    obtain ⟨i, hi, he⟩ := List.getElem_of_mem hf
    have hi' : i < fl.size := by simpa using hi
    have := hx i f (by rw [Array.getElem?_eq_getElem hi']; simpa using he)
    exact ⟨n, xs[i]'(by omega), by rw [this, List.getElem?_eq_getElem (by omega)]⟩) (by rw [hlen, e1]; omega)
   obtain ⟨g1, g2⟩ := h2 (.l ds) 0 (fun i hi => by rw [D.fld_l, Nat.zero_add])
   exact ⟨.l ds, by simp only [Ty.leaves]; simpa using g1, g2⟩
  ·cases hc
 ·intro T t fuel cs x hc h; simp [tyChk] at hc
 ·intro n t fuel cs x hc h; simp [tyChk] at hc
 ·intro fl o cs hc hf hl
  cases fl with
  | nil => exact ⟨[], rfl, fun d j _ => ⟨by simp only [Ty.leavesL]; rw [List.drop_of_length_le (by simp [Ty.sizes] at hl; omega)]; exact Dens.nil, trivial⟩⟩
  | cons f fl => simp [tysChk] at hc
 ·intro e es ih1 ih2 fl o cs hc hf hl
  cases fl with
  | nil => simp [tysChk] at hc
  | cons f fl =>
   simp only [tysChk, Bool.and_eq_true] at hc
   obtain ⟨⟨⟨c1, c2⟩, c3⟩, c4⟩ := hc
   have e1 := (nbeq _ _).1 c1
   have e2 := (nbeq _ _).1 c2
   obtain ⟨fuel, x, hx⟩ := hf f (List.mem_cons_self ..)
   obtain ⟨d1, g1, g2⟩ := ih1 _ _ _ _ c3 hx
   simp only [Ty.sizes] at hl
   obtain ⟨ds, g3, g4⟩ := ih2 fl (o + e.size) cs c4 (fun f hf' => hf f (List.mem_cons_of_mem _ hf')) (by omega)
   refine ⟨d1 :: ds, by simp [g3], fun d j hd => ?_⟩
   have hd0 : d.fld j = d1 := by simpa using hd 0 (by simp)
   obtain ⟨k1, k2⟩ := g4 d (j + 1) (fun i hi => by
    have := hd (i + 1) (by simpa using hi)
    rw [Nat.add_assoc, Nat.add_comm 1 i, this, List.getD_cons_succ])
   rw [e1, e2] at g1
   refine ⟨?_, ?_, k2⟩
   ·simp only [Ty.leavesL, lock_eq, hd0]
    have : cs.drop o = (cs.drop o).take e.size ++ cs.drop (o + e.size) := by
     rw [← List.drop_drop, List.take_append_drop]
    rw [this]
    exact dens_app g1 k1
   ·rw [hd0]; exact g2
end
end Go.Proofs.YtbkcmpggacbikaaDoor
end
section
/-
  Words, as plain Lean reads them.
-/
set_option linter.unusedVariables false
set_option linter.unusedSimpArgs false
namespace Go.Proofs.YtbkcmpggacbikaaDoor
theorem pieq {a b : Int} : (ieq a b = true) = (a = b) := by simp [ieq]
theorem pilt {a b : Int} : (ilt a b = true) = (a < b) := by simp [ilt]
theorem pile {a b : Int} : (ile a b = true) = (a ≤ b) := by simp [ile]
theorem pseq {a b : List UInt8} : (seq a b = true) = (a = b) := by simp [seq]
theorem pbeq2 {a b : Bool} : (beq2 a b = true) = (a = b) := by simp [beq2]
theorem pband {a b : Bool} : (band a b = true) = (a = true ∧ b = true) := by simp [band]
def U (x : Int) : Prop := 0 ≤ x ∧ x < 18446744073709551616
theorem U.lo {x : Int} (h : U x) : 0 ≤ x := h.1
theorem U.hi {x : Int} (h : U x) : x < 18446744073709551616 := h.2
theorem pwu64 (x : Int) : IntKind.u64.wrap x = x % 18446744073709551616 := by simp [IntKind.wrap, IntKind.signed, IntKind.bits]
theorem pwu32 (x : Int) : IntKind.u32.wrap x = x % 4294967296 := by simp [IntKind.wrap, IntKind.signed, IntKind.bits]
theorem pwu16 (x : Int) : IntKind.u16.wrap x = x % 65536 := by simp [IntKind.wrap, IntKind.signed, IntKind.bits]
theorem pwu8 (x : Int) : IntKind.u8.wrap x = x % 256 := by simp [IntKind.wrap, IntKind.signed, IntKind.bits]
theorem pwi64 {x : Int} (h1 : -9223372036854775808 ≤ x) (h2 : x ≤ 9223372036854775807) : IntKind.i64.wrap x = x := by
 simp only [IntKind.wrap, IntKind.signed, IntKind.bits]
 simp
 omega
theorem pu64 {x : Int} (h1 : 0 ≤ x) (h2 : x < 18446744073709551616) : IntKind.u64.wrap x = x := by rw [pwu64]; omega
theorem pu32 {x : Int} (h1 : 0 ≤ x) (h2 : x < 4294967296) : IntKind.u32.wrap x = x := by rw [pwu32]; omega
theorem pu16 {x : Int} (h1 : 0 ≤ x) (h2 : x < 65536) : IntKind.u16.wrap x = x := by rw [pwu16]; omega
theorem pu8 {x : Int} (h1 : 0 ≤ x) (h2 : x < 256) : IntKind.u8.wrap x = x := by rw [pwu8]; omega
theorem pofN (n : Nat) : ofN n = (n : Int) := rfl
theorem ptoN (n : Nat) : toN (n : Int) = n := rfl
theorem ptoN' (x : Int) : toN x = x.toNat := rfl
theorem pxlen {α : Type} (l : List α) : xlen l = l.length := rfl
theorem pnext {n : Nat} (h : n < 9223372036854775807) : iadd .i64 (n : Int) 1 = ((n + 1 : Nat) : Int) := by
 simp only [iadd]
 rw [pwi64] <;> omega
theorem pgetI {l : List Int} {n : Nat} (h : n < l.length) : getI l n = l[n] := by simp [getI, h]
theorem pgetD {l : List D} {n : Nat} (h : n < l.length) : getD l n = l[n] := by simp [getD, h]
theorem pgetB {l : List UInt8} {n : Nat} (h : n < l.length) : getB l n = ((l[n].toNat : Nat) : Int) := by simp [getB, h]
theorem pcopy {α : Type} (l : List α) (x : α) : lspl (lrep l.length x) 0 (lsub l 0 (nmin (xlen (lrep l.length x)) (xlen l))) = l := by
 simp [lspl, lrep, lsub, nmin, xlen]
theorem pimax (a b : Int) : imax a b = max a b := by
 unfold imax
 by_cases h : b > a
 ·rw [if_pos h]; omega
 ·rw [if_neg h]; omega
theorem pimin (a b : Int) : imin a b = min a b := by
 unfold imin
 by_cases h : b < a
 ·rw [if_pos h]; omega
 ·rw [if_neg h]; omega
end Go.Proofs.YtbkcmpggacbikaaDoor
end
