/-
  Texts that the row of this claim stands on, one behind the other.
-/
import Derived.Below
import Derived.Deep.Slices
import Derived.ChangeArms
import Derived.Test.YtknaheioedkaeaaRows
import Derived.Deep.Strs
import Derived.Test.YtknaheioedkaeaaKTlvBack1
import Derived.Test.YtknaheioedkaeaaKTlvBack2
import Derived.Test.YtknaheioedkaeaaKTlvBack3
import Derived.Test.YtknaheioedkaeaaKTlvBack4
section
/-
  The walk of tollbar/tlv.Get (printed by a program of ours).
-/
set_option linter.unusedVariables false
set_option linter.unusedSimpArgs false
namespace Go.Proofs.Ytknaheioedkaeaa
open Go.RowKit

noncomputable def tab_tlv_Get : Nat → Option Con := look [(28, con_octet_Open), (27, con_tlv_reader_items)]
set_option maxHeartbeats 4000000 in
set_option maxRecDepth 100000 in
theorem vc_tlv_Get (P : Program) (T : Tab P tab_tlv_Get) (hm : P.follows .mixedOrders = true) : FnVC P tab_tlv_Get ic_17 [.t 2, .t 3, .t 4] 32 con_tlv_Get := by
  intro cargs ccks ce hce hob C hk
  apply Hidden.out
  replace hce : altC (con_tlv_Get_1 cargs ccks) (altC (con_tlv_Get_2 cargs ccks) (con_tlv_Get_3 cargs ccks)) = some ce := hce
  replace hce := altC_inv hce
  rcases hce with hce | hce
  · unfold con_tlv_Get_1 at hce
    split at hce
    rotate_left
    · cases hce
    obtain rfl := Option.some.inj hce
    rename_i s1
    have hb1 := hob _ (List.mem_singleton.2 rfl)
    have hb2 := obl.1 hb1
    clear hb1 hob hce
    refine hb2.elim fun r hF => ?_
    clear hb2
    simp only [List.length_cons, List.length_nil, Nat.zero_add, Nat.reduceAdd] at hk
    have hr : F_tlv_Get s1 = some r := by rw [lock_eq] at hF; exact hF
    unfold F_tlv_Get at hr
    constructor
    (try cbv)
    refine sel_intro (fun h => ?_) (fun h => ?_)
    · have h1 : (ilt (8192 : Int) (ofN (xlen s1))) = true := by first | exact h | (have h2 := h; simp only [choice_lk, lock_eq] at h2; exact h2) | (simp only [choice_lk, lock_eq] at h; exact h)
      rw [if_pos h1] at hr
      (try cbv)
      apply Hidden.out
      have e := Option.some.inj hr
      obtain ⟨u0, u1, u2⟩ := r
      simp only [Prod.mk.injEq] at e
      obtain ⟨e0, e1, e2⟩ := e
      constructor
      refine ⟨_, hF, ?_⟩
      (try cbv); (try simp only [choice_lk, lock_eq, and_self, and_true, true_and]); (try first | exact e | exact e.symm | (and_intros <;> first | assumption | rfl | exact Eq.symm (by assumption)))
    · have h1 : (ilt (8192 : Int) (ofN (xlen s1))) = false := by first | exact h | (have h2 := h; simp only [choice_lk, lock_eq] at h2; exact h2) | (simp only [choice_lk, lock_eq] at h; exact h)
      rw [if_neg (by rw [h1]; exact Bool.false_ne_true)] at hr
      (try cbv)
      have hqe : ∃ qq, F_octet_Open s1 = some qq := by
        cases hq : F_octet_Open s1 with
        | none => rw [hq] at hr; cases hr
        | some qq => exact ⟨qq, rfl⟩
      refine ⟨obl.2 (by simp only [choice_lk, lock_eq]; exact hqe), (by rintro (_) _ <;> cbv), ?_⟩
      clear hqe
      intro t1 hx1
      simp only [choice_lk, lock_eq] at hx1
      all_goals (rw [hx1] at hr; dsimp only at hr; constructor; (try cbv))
      have hqe : ∃ qq, F_tlv_reader_items (ofN (xlen s1)) (1 : Int) (0 : Int) (0 : Int) (0 : Int) t1 = some qq := by
        cases hq : F_tlv_reader_items (ofN (xlen s1)) (1 : Int) (0 : Int) (0 : Int) (0 : Int) t1 with
        | none => rw [hq] at hr; cases hr
        | some qq => exact ⟨qq, rfl⟩
      refine ⟨obl.2 (by simp only [choice_lk, lock_eq]; exact hqe), (by rintro (⟨_, _, _, _, _, _⟩) _ <;> cbv), ?_⟩
      clear hqe
      intro qq hx2
      simp only [choice_lk, lock_eq] at hx2
      rcases qq with ⟨q1, y1, y2, k1, k2, y3⟩
      all_goals (rw [hx2] at hr; dsimp only at hr; constructor; (try cbv))
      refine sel_intro (fun h => ?_) (fun h => ?_)
      · have h1 : (ieq y1 (0 : Int)) = false := by first | exact (bnot_t.1 h) | (have h2 := (bnot_t.1 h); simp only [choice_lk, lock_eq] at h2; exact h2) | (simp only [choice_lk, lock_eq] at h; exact (bnot_t.1 h))
        rw [if_neg (by rw [h1]; exact Bool.false_ne_true)] at hr
        (try cbv)
        apply Hidden.out
        have e := Option.some.inj hr
        obtain ⟨u0, u1, u2⟩ := r
        simp only [Prod.mk.injEq] at e
        obtain ⟨e0, e1, e2⟩ := e
        constructor
        refine ⟨_, hF, ?_⟩
        (try cbv); (try simp only [choice_lk, lock_eq, and_self, and_true, true_and]); (try first | exact e | exact e.symm | (and_intros <;> first | assumption | rfl | exact Eq.symm (by assumption)))
      · have h1 : (ieq y1 (0 : Int)) = true := by first | exact (bnot_f.1 h) | (have h2 := (bnot_f.1 h); simp only [choice_lk, lock_eq] at h2; exact h2) | (simp only [choice_lk, lock_eq] at h; exact (bnot_f.1 h))
        rw [if_pos h1] at hr
        (try cbv)
        apply Hidden.out
        have e := Option.some.inj hr
        obtain ⟨u0, u1, u2⟩ := r
        simp only [Prod.mk.injEq] at e
        obtain ⟨e0, e1, e2⟩ := e
        constructor
        refine ⟨_, hF, ?_⟩
        (try cbv); (try simp only [choice_lk, lock_eq, and_self, and_true, true_and]); (try first | exact e | exact e.symm | (and_intros <;> first | assumption | rfl | exact Eq.symm (by assumption)))
  replace hce := altC_inv hce
  rcases hce with hce | hce
  · unfold con_tlv_Get_2 at hce
    split at hce
    rotate_left
    · cases hce
    obtain rfl := Option.some.inj hce
    rename_i s1
    have hb1 := hob _ (List.mem_singleton.2 rfl)
    have hb2 := obl.1 hb1
    clear hb1 hob hce
    refine hb2.elim fun r hF => ?_
    clear hb2
    simp only [List.length_cons, List.length_nil, Nat.zero_add, Nat.reduceAdd] at hk
    have hr : F_tlv_Get_2 s1 = some r := by rw [lock_eq] at hF; exact hF
    unfold F_tlv_Get_2 at hr
    constructor
    (try cbv)
    refine sel_intro (fun h => ?_) (fun h => ?_)
    · have h1 : (ilt (8192 : Int) (ofN (xlen s1))) = true := by first | exact h | (have h2 := h; simp only [choice_lk, lock_eq] at h2; exact h2) | (simp only [choice_lk, lock_eq] at h; exact h)
      rw [if_pos h1] at hr
      (try cbv)
      apply Hidden.out
      have e := Option.some.inj hr
      obtain ⟨u0, u1, u2⟩ := r
      simp only [Prod.mk.injEq] at e
      obtain ⟨e0, e1, e2⟩ := e
      constructor
      refine ⟨_, hF, ?_⟩
      (try cbv); (try simp only [choice_lk, lock_eq, and_self, and_true, true_and]); (try first | exact e | exact e.symm | (and_intros <;> first | assumption | rfl | exact Eq.symm (by assumption)))
    · have h1 : (ilt (8192 : Int) (ofN (xlen s1))) = false := by first | exact h | (have h2 := h; simp only [choice_lk, lock_eq] at h2; exact h2) | (simp only [choice_lk, lock_eq] at h; exact h)
      rw [if_neg (by rw [h1]; exact Bool.false_ne_true)] at hr
      (try cbv)
      have hqe : ∃ qq, F_octet_Open s1 = some qq := by
        cases hq : F_octet_Open s1 with
        | none => rw [hq] at hr; cases hr
        | some qq => exact ⟨qq, rfl⟩
      refine ⟨obl.2 (by simp only [choice_lk, lock_eq]; exact hqe), (by rintro (_) _ <;> cbv), ?_⟩
      clear hqe
      intro t1 hx1
      simp only [choice_lk, lock_eq] at hx1
      all_goals (rw [hx1] at hr; dsimp only at hr; constructor; (try cbv))
      have hqe : ∃ qq, F_tlv_reader_items (ofN (xlen s1)) (1 : Int) (0 : Int) (0 : Int) (0 : Int) t1 = some qq := by
        cases hq : F_tlv_reader_items (ofN (xlen s1)) (1 : Int) (0 : Int) (0 : Int) (0 : Int) t1 with
        | none => rw [hq] at hr; cases hr
        | some qq => exact ⟨qq, rfl⟩
      refine ⟨obl.2 (by simp only [choice_lk, lock_eq]; exact hqe), (by rintro (⟨_, _, _, _, _, _⟩) _ <;> cbv), ?_⟩
      clear hqe
      intro qq hx2
      simp only [choice_lk, lock_eq] at hx2
      rcases qq with ⟨q1, y1, y2, k1, k2, y3⟩
      all_goals (rw [hx2] at hr; dsimp only at hr; constructor; (try cbv))
      refine sel_intro (fun h => ?_) (fun h => ?_)
      · have h1 : (ieq y1 (0 : Int)) = false := by first | exact (bnot_t.1 h) | (have h2 := (bnot_t.1 h); simp only [choice_lk, lock_eq] at h2; exact h2) | (simp only [choice_lk, lock_eq] at h; exact (bnot_t.1 h))
        rw [if_neg (by rw [h1]; exact Bool.false_ne_true)] at hr
        (try cbv)
        apply Hidden.out
        have e := Option.some.inj hr
        obtain ⟨u0, u1, u2⟩ := r
        simp only [Prod.mk.injEq] at e
        obtain ⟨e0, e1, e2⟩ := e
        constructor
        refine ⟨_, hF, ?_⟩
        (try cbv); (try simp only [choice_lk, lock_eq, and_self, and_true, true_and]); (try first | exact e | exact e.symm | (and_intros <;> first | assumption | rfl | exact Eq.symm (by assumption)))
      · have h1 : (ieq y1 (0 : Int)) = true := by first | exact (bnot_f.1 h) | (have h2 := (bnot_f.1 h); simp only [choice_lk, lock_eq] at h2; exact h2) | (simp only [choice_lk, lock_eq] at h; exact (bnot_f.1 h))
        rw [if_pos h1] at hr
        (try cbv)
        apply Hidden.out
        have e := Option.some.inj hr
        obtain ⟨u0, u1, u2⟩ := r
        simp only [Prod.mk.injEq] at e
        obtain ⟨e0, e1, e2⟩ := e
        constructor
        refine ⟨_, hF, ?_⟩
        (try cbv); (try simp only [choice_lk, lock_eq, and_self, and_true, true_and]); (try first | exact e | exact e.symm | (and_intros <;> first | assumption | rfl | exact Eq.symm (by assumption)))
  · unfold con_tlv_Get_3 at hce
    split at hce
    rotate_left
    · cases hce
    obtain rfl := Option.some.inj hce
    rename_i n1 n2 s1
    have hb1 := hob _ (List.mem_singleton.2 rfl)
    have hb2 := obl.1 hb1
    clear hb1 hob hce
    refine hb2.elim fun r hF => ?_
    clear hb2
    simp only [List.length_cons, List.length_nil, Nat.zero_add, Nat.reduceAdd] at hk
    have hr : F_tlv_Get_3 n1 n2 s1 = some r := by rw [lock_eq] at hF; exact hF
    unfold F_tlv_Get_3 at hr
    constructor
    (try cbv)
    refine sel_intro (fun h => ?_) (fun h => ?_)
    · have h1 : (ilt (8192 : Int) (ofN n2)) = true := by first | exact h | (have h2 := h; simp only [choice_lk, lock_eq] at h2; exact h2) | (simp only [choice_lk, lock_eq] at h; exact h)
      rw [if_pos h1] at hr
      (try cbv)
      apply Hidden.out
      have e := Option.some.inj hr
      obtain ⟨u0, u1, u2⟩ := r
      simp only [Prod.mk.injEq] at e
      obtain ⟨e0, e1, e2⟩ := e
      constructor
      refine ⟨_, hF, ?_⟩
      (try cbv); (try simp only [choice_lk, lock_eq, and_self, and_true, true_and]); (try first | exact e | exact e.symm | (and_intros <;> first | assumption | rfl | exact Eq.symm (by assumption)))
    · have h1 : (ilt (8192 : Int) (ofN n2)) = false := by first | exact h | (have h2 := h; simp only [choice_lk, lock_eq] at h2; exact h2) | (simp only [choice_lk, lock_eq] at h; exact h)
      rw [if_neg (by rw [h1]; exact Bool.false_ne_true)] at hr
      (try cbv)
      have hqe : ∃ qq, F_octet_Open (lsub s1 n1 n2) = some qq := by
        cases hq : F_octet_Open (lsub s1 n1 n2) with
        | none => rw [hq] at hr; cases hr
        | some qq => exact ⟨qq, rfl⟩
      refine ⟨obl.2 (by simp only [choice_lk, lock_eq]; exact hqe), (by rintro (_) _ <;> cbv), ?_⟩
      clear hqe
      intro t1 hx1
      simp only [choice_lk, lock_eq] at hx1
      all_goals (rw [hx1] at hr; dsimp only at hr; constructor; (try cbv))
      have hqe : ∃ qq, F_tlv_reader_items (ofN n2) (1 : Int) (0 : Int) (0 : Int) (0 : Int) t1 = some qq := by
        cases hq : F_tlv_reader_items (ofN n2) (1 : Int) (0 : Int) (0 : Int) (0 : Int) t1 with
        | none => rw [hq] at hr; cases hr
        | some qq => exact ⟨qq, rfl⟩
      refine ⟨obl.2 (by simp only [choice_lk, lock_eq]; exact hqe), (by rintro (⟨_, _, _, _, _, _⟩) _ <;> cbv), ?_⟩
      clear hqe
      intro qq hx2
      simp only [choice_lk, lock_eq] at hx2
      rcases qq with ⟨q1, y1, y2, k1, k2, y3⟩
      all_goals (rw [hx2] at hr; dsimp only at hr; constructor; (try cbv))
      refine sel_intro (fun h => ?_) (fun h => ?_)
      · have h1 : (ieq y1 (0 : Int)) = false := by first | exact (bnot_t.1 h) | (have h2 := (bnot_t.1 h); simp only [choice_lk, lock_eq] at h2; exact h2) | (simp only [choice_lk, lock_eq] at h; exact (bnot_t.1 h))
        rw [if_neg (by rw [h1]; exact Bool.false_ne_true)] at hr
        (try cbv)
        apply Hidden.out
        have e := Option.some.inj hr
        obtain ⟨u0, u1, u2⟩ := r
        simp only [Prod.mk.injEq] at e
        obtain ⟨e0, e1, e2⟩ := e
        constructor
        refine ⟨_, hF, ?_⟩
        (try cbv); (try simp only [choice_lk, lock_eq, and_self, and_true, true_and]); (try first | exact e | exact e.symm | (and_intros <;> first | assumption | rfl | exact Eq.symm (by assumption)))
      · have h1 : (ieq y1 (0 : Int)) = true := by first | exact (bnot_f.1 h) | (have h2 := (bnot_f.1 h); simp only [choice_lk, lock_eq] at h2; exact h2) | (simp only [choice_lk, lock_eq] at h; exact (bnot_f.1 h))
        rw [if_pos h1] at hr
        (try cbv)
        apply Hidden.out
        have e := Option.some.inj hr
        obtain ⟨u0, u1, u2⟩ := r
        simp only [Prod.mk.injEq] at e
        obtain ⟨e0, e1, e2⟩ := e
        constructor
        refine ⟨_, hF, ?_⟩
        (try cbv); (try simp only [choice_lk, lock_eq, and_self, and_true, true_and]); (try first | exact e | exact e.symm | (and_intros <;> first | assumption | rfl | exact Eq.symm (by assumption)))
end Go.Proofs.Ytknaheioedkaeaa
end
section
/-
  The walk of tollbar/tollbarlaw03.awake (printed by a program of ours).
-/
set_option linter.unusedVariables false
set_option linter.unusedSimpArgs false
namespace Go.Proofs.Ytknaheioedkaeaa
open Go.RowKit

noncomputable def tab_tollbarlaw03_awake : Nat → Option Con := look [(11, con_tlv_Put), (17, con_tlv_Get), (13, con_tlv_Check), (15, con_tlv_Size)]
set_option maxHeartbeats 4000000 in
set_option maxRecDepth 100000 in
theorem vc_tollbarlaw03_awake (P : Program) (T : Tab P tab_tollbarlaw03_awake) (hm : P.follows .mixedOrders = true) : FnVC P tab_tollbarlaw03_awake ic_8 [.t 0] 82 con_tollbarlaw03_awake := by
  intro cargs ccks ce hce hob C hk
  apply Hidden.out
  replace hce : con_tollbarlaw03_awake_1 cargs ccks = some ce := hce
  · unfold con_tollbarlaw03_awake_1 at hce
    split at hce
    rotate_left
    · cases hce
    obtain rfl := Option.some.inj hce
    have hb1 := hob _ (List.mem_singleton.2 rfl)
    have hb2 := obl.1 hb1
    clear hb1 hob hce
    refine hb2.elim fun r hF => ?_
    clear hb2
    simp only [List.length_cons, List.length_nil, Nat.zero_add, Nat.reduceAdd] at hk
    have hr : F_tollbarlaw03_awake = some r := by rw [lock_eq] at hF; exact hF
    unfold F_tollbarlaw03_awake at hr
    constructor
    (try cbv)
    have gg := guard_inv hr
    have g := gg.1
    replace hr := gg.2
    clear gg
    refine ⟨obl.2 (by first | (simp only [choice_lk, lock_eq, R.len, R.sub]; exact g) | exact g), ?_⟩
    have gg := guard_inv hr
    have g := gg.1
    replace hr := gg.2
    clear gg
    refine ⟨obl.2 (by first | (simp only [choice_lk, lock_eq, R.len, R.sub]; exact g) | exact g), ?_⟩
    have hqe : ∃ qq, F_tlv_Put ([(D.l [(D.i (1 : Int)), (D.s ([] : List UInt8)), (D.l ([(D.l [(D.i (2 : Int)), (D.s (byteOf (97 : Int) :: ([] : List UInt8))), (D.l ([] : List D))])] : List D))])] : List D) = some qq := by
      cases hq : F_tlv_Put ([(D.l [(D.i (1 : Int)), (D.s ([] : List UInt8)), (D.l ([(D.l [(D.i (2 : Int)), (D.s (byteOf (97 : Int) :: ([] : List UInt8))), (D.l ([] : List D))])] : List D))])] : List D) with
      | none => rw [hq] at hr; cases hr
      | some qq => exact ⟨qq, rfl⟩
    refine ⟨obl.2 (by simp only [choice_lk, lock_eq]; exact hqe), (by rintro (⟨_, _⟩) _ <;> cbv), ?_⟩
    clear hqe
    intro qq hx1
    simp only [choice_lk, lock_eq] at hx1
    rcases qq with ⟨y1, t1⟩
    all_goals (rw [hx1] at hr; dsimp only at hr; constructor; (try cbv))
    have gg := guard_inv hr
    have g := gg.1
    replace hr := gg.2
    clear gg
    refine ⟨obl.2 (by first | (simp only [choice_lk, lock_eq, R.len, R.sub]; exact g) | exact g), ?_⟩
    have gg := guard_inv hr
    have g := gg.1
    replace hr := gg.2
    clear gg
    refine ⟨obl.2 (by first | (simp only [choice_lk, lock_eq, R.len, R.sub]; exact g) | exact g), ?_⟩
    have gg := guard_inv hr
    have g := gg.1
    replace hr := gg.2
    clear gg
    refine ⟨obl.2 (by first | (simp only [choice_lk, lock_eq, R.len, R.sub]; exact g) | exact g), ?_⟩
    have gg := guard_inv hr
    have g := gg.1
    replace hr := gg.2
    clear gg
    refine ⟨obl.2 (by first | (simp only [choice_lk, lock_eq, R.len, R.sub]; exact g) | exact g), ?_⟩
    have gg := guard_inv hr
    have g := gg.1
    replace hr := gg.2
    clear gg
    refine ⟨obl.2 (by first | (simp only [choice_lk, lock_eq, R.len, R.sub]; exact g) | exact g), ?_⟩
    have hqe : ∃ qq, F_tlv_Get (byteOf (1 : Int) :: (byteOf (3 : Int) :: (byteOf (2 : Int) :: (byteOf (1 : Int) :: (byteOf (97 : Int) :: ([] : List UInt8)))))) = some qq := by
      cases hq : F_tlv_Get (byteOf (1 : Int) :: (byteOf (3 : Int) :: (byteOf (2 : Int) :: (byteOf (1 : Int) :: (byteOf (97 : Int) :: ([] : List UInt8)))))) with
      | none => rw [hq] at hr; cases hr
      | some qq => exact ⟨qq, rfl⟩
    refine ⟨obl.2 (by simp only [choice_lk, lock_eq]; exact hqe), (by rintro (⟨_, _, _⟩) _ <;> cbv), ?_⟩
    clear hqe
    intro qq hx2
    simp only [choice_lk, lock_eq] at hx2
    rcases qq with ⟨q1, y2, y3⟩
    all_goals (rw [hx2] at hr; dsimp only at hr; constructor; (try cbv))
    have gg := guard_inv hr
    have g := gg.1
    replace hr := gg.2
    clear gg
    refine ⟨obl.2 (by first | (simp only [choice_lk, lock_eq, R.len, R.sub]; exact g) | exact g), ?_⟩
    have gg := guard_inv hr
    have g := gg.1
    replace hr := gg.2
    clear gg
    refine ⟨obl.2 (by first | (simp only [choice_lk, lock_eq, R.len, R.sub]; exact g) | exact g), ?_⟩
    have gg := guard_inv hr
    have g := gg.1
    replace hr := gg.2
    clear gg
    refine ⟨obl.2 (by first | (simp only [choice_lk, lock_eq, R.len, R.sub]; exact g) | exact g), ?_⟩
    have hqe : ∃ qq, F_tlv_Get (byteOf (2 : Int) :: (byteOf (5 : Int) :: (byteOf (1 : Int) :: ([] : List UInt8)))) = some qq := by
      cases hq : F_tlv_Get (byteOf (2 : Int) :: (byteOf (5 : Int) :: (byteOf (1 : Int) :: ([] : List UInt8)))) with
      | none => rw [hq] at hr; cases hr
      | some qq => exact ⟨qq, rfl⟩
    refine ⟨obl.2 (by simp only [choice_lk, lock_eq]; exact hqe), (by rintro (⟨_, _, _⟩) _ <;> cbv), ?_⟩
    clear hqe
    intro qq hx3
    simp only [choice_lk, lock_eq] at hx3
    rcases qq with ⟨q2, y4, y5⟩
    all_goals (rw [hx3] at hr; dsimp only at hr; constructor; (try cbv))
    refine sel_intro (fun h => ?_) (fun h => ?_)
    · as_aux_lemma =>
      have h1 : (seq t1 ([1, 3, 2, 1, 97] : List UInt8)) = true := by first | exact h | (have h2 := h; simp only [choice_lk, lock_eq] at h2; exact h2) | (simp only [choice_lk, lock_eq] at h; exact h)
      rw [if_pos h1] at hr
      (try cbv)
      refine sel_intro (fun h => ?_) (fun h => ?_)
      · as_aux_lemma =>
        have h1 : (ieq y1 (0 : Int)) = true := by first | exact h | (have h2 := h; simp only [choice_lk, lock_eq] at h2; exact h2) | (simp only [choice_lk, lock_eq] at h; exact h)
        rw [if_pos h1] at hr
        (try cbv)
        refine sel_intro (fun h => ?_) (fun h => ?_)
        · as_aux_lemma =>
          have h1 : (ieq (ofN (xlen q1)) (1 : Int)) = true := by first | exact h | (have h2 := h; simp only [choice_lk, lock_eq] at h2; exact h2) | (simp only [choice_lk, lock_eq] at h; exact h)
          rw [if_pos h1] at hr
          (try cbv)
          have gg := guard_inv hr
          have g := gg.1
          replace hr := gg.2
          clear gg
          refine ⟨obl.2 (by first | (simp only [choice_lk, lock_eq, R.len, R.sub]; exact g) | exact g), ?_⟩
          refine sel_intro (fun h => ?_) (fun h => ?_)
          · as_aux_lemma =>
            have h1 : (ieq (ofN (xlen (D.toL (D.fld (getD q1 (toN (0 : Int))) 2)))) (1 : Int)) = true := by first | exact h | (have h2 := h; simp only [choice_lk, lock_eq] at h2; exact h2) | (simp only [choice_lk, lock_eq] at h; exact h)
            rw [if_pos h1] at hr
            (try cbv)
            refine sel_intro (fun h => ?_) (fun h => ?_)
            · as_aux_lemma =>
              have h1 : (ieq y2 (0 : Int)) = true := by first | exact h | (have h2 := h; simp only [choice_lk, lock_eq] at h2; exact h2) | (simp only [choice_lk, lock_eq] at h; exact h)
              rw [if_pos h1] at hr
              (try cbv)
              refine sel_intro (fun h => ?_) (fun h => ?_)
              · as_aux_lemma =>
                have h1 : (ieq y4 (10 : Int)) = true := by first | exact h | (have h2 := h; simp only [choice_lk, lock_eq] at h2; exact h2) | (simp only [choice_lk, lock_eq] at h; exact h)
                rw [if_pos h1] at hr
                (try cbv)
                refine sel_intro (fun h => ?_) (fun h => ?_)
                · as_aux_lemma =>
                  have h1 : (ieq y5 (2 : Int)) = true := by first | exact h | (have h2 := h; simp only [choice_lk, lock_eq] at h2; exact h2) | (simp only [choice_lk, lock_eq] at h; exact h)
                  rw [if_pos h1] at hr
                  (try cbv)
                  have hqe : ∃ qq, F_tlv_Check ([(D.l [(D.i (1 : Int)), (D.s ([] : List UInt8)), (D.l ([(D.l [(D.i (2 : Int)), (D.s (byteOf (97 : Int) :: ([] : List UInt8))), (D.l ([] : List D))])] : List D))])] : List D) = some qq := by
                    cases hq : F_tlv_Check ([(D.l [(D.i (1 : Int)), (D.s ([] : List UInt8)), (D.l ([(D.l [(D.i (2 : Int)), (D.s (byteOf (97 : Int) :: ([] : List UInt8))), (D.l ([] : List D))])] : List D))])] : List D) with
                    | none => rw [hq] at hr; cases hr
                    | some qq => exact ⟨qq, rfl⟩
                  refine ⟨obl.2 (by simp only [choice_lk, lock_eq]; exact hqe), (by rintro (_) _ <;> cbv), ?_⟩
                  clear hqe
                  intro c1 hx4
                  simp only [choice_lk, lock_eq] at hx4
                  all_goals (rw [hx4] at hr; dsimp only at hr; constructor; (try cbv))
                  refine sel_intro (fun h => ?_) (fun h => ?_)
                  · have h1 : c1 = true := by first | exact h | (have h2 := h; simp only [choice_lk, lock_eq] at h2; exact h2) | (simp only [choice_lk, lock_eq] at h; exact h)
                    rw [if_pos h1] at hr
                    (try cbv)
                    have hqe : ∃ qq, F_tlv_Size ([(D.l [(D.i (1 : Int)), (D.s ([] : List UInt8)), (D.l ([(D.l [(D.i (2 : Int)), (D.s (byteOf (97 : Int) :: ([] : List UInt8))), (D.l ([] : List D))])] : List D))])] : List D) = some qq := by
                      cases hq : F_tlv_Size ([(D.l [(D.i (1 : Int)), (D.s ([] : List UInt8)), (D.l ([(D.l [(D.i (2 : Int)), (D.s (byteOf (97 : Int) :: ([] : List UInt8))), (D.l ([] : List D))])] : List D))])] : List D) with
                      | none => rw [hq] at hr; cases hr
                      | some qq => exact ⟨qq, rfl⟩
                    refine ⟨obl.2 (by simp only [choice_lk, lock_eq]; exact hqe), (by rintro (_) _ <;> cbv), ?_⟩
                    clear hqe
                    intro y6 hx5
                    simp only [choice_lk, lock_eq] at hx5
                    all_goals (rw [hx5] at hr; dsimp only at hr; constructor; (try cbv))
                    refine sel_intro (fun h => ?_) (fun h => ?_)
                    · have h1 : (ieq y6 (5 : Int)) = true := by first | exact h | (have h2 := h; simp only [choice_lk, lock_eq] at h2; exact h2) | (simp only [choice_lk, lock_eq] at h; exact h)
                      rw [if_pos h1] at hr
                      (try cbv)
                      have gg := guard_inv hr
                      have g := gg.1
                      replace hr := gg.2
                      clear gg
                      refine ⟨obl.2 (by first | (simp only [choice_lk, lock_eq, R.len, R.sub]; exact g) | exact g), ?_⟩
                      have gg := guard_inv hr
                      have g := gg.1
                      replace hr := gg.2
                      clear gg
                      refine ⟨obl.2 (by first | (simp only [choice_lk, lock_eq, R.len, R.sub]; exact g) | exact g), ?_⟩
                      have hqe : ∃ qq, F_tlv_Check ([(D.l [(D.i (1 : Int)), (D.s (byteOf (97 : Int) :: ([] : List UInt8))), (D.l ([] : List D))])] : List D) = some qq := by
                        cases hq : F_tlv_Check ([(D.l [(D.i (1 : Int)), (D.s (byteOf (97 : Int) :: ([] : List UInt8))), (D.l ([] : List D))])] : List D) with
                        | none => rw [hq] at hr; cases hr
                        | some qq => exact ⟨qq, rfl⟩
                      refine ⟨obl.2 (by simp only [choice_lk, lock_eq]; exact hqe), (by rintro (_) _ <;> cbv), ?_⟩
                      clear hqe
                      intro c2 hx6
                      simp only [choice_lk, lock_eq] at hx6
                      all_goals (rw [hx6] at hr; dsimp only at hr; constructor; (try cbv))
                      apply Hidden.out
                      have e := Option.some.inj hr
                      constructor
                      refine ⟨_, hF, ?_⟩
                      (try cbv); (try simp only [choice_lk, lock_eq, and_self, and_true, true_and]); (try first | exact e | exact e.symm | (and_intros <;> first | assumption | rfl | exact Eq.symm (by assumption)))
                    · have h1 : (ieq y6 (5 : Int)) = false := by first | exact h | (have h2 := h; simp only [choice_lk, lock_eq] at h2; exact h2) | (simp only [choice_lk, lock_eq] at h; exact h)
                      rw [if_neg (by rw [h1]; exact Bool.false_ne_true)] at hr
                      (try cbv)
                      apply Hidden.out
                      have e := Option.some.inj hr
                      constructor
                      refine ⟨_, hF, ?_⟩
                      (try cbv); (try simp only [choice_lk, lock_eq, and_self, and_true, true_and]); (try first | exact e | exact e.symm | (and_intros <;> first | assumption | rfl | exact Eq.symm (by assumption)))
                  · have h1 : c1 = false := by first | exact h | (have h2 := h; simp only [choice_lk, lock_eq] at h2; exact h2) | (simp only [choice_lk, lock_eq] at h; exact h)
                    rw [if_neg (by rw [h1]; exact Bool.false_ne_true)] at hr
                    (try cbv)
                    apply Hidden.out
                    have e := Option.some.inj hr
                    constructor
                    refine ⟨_, hF, ?_⟩
                    (try cbv); (try simp only [choice_lk, lock_eq, and_self, and_true, true_and]); (try first | exact e | exact e.symm | (and_intros <;> first | assumption | rfl | exact Eq.symm (by assumption)))
                · have h1 : (ieq y5 (2 : Int)) = false := by first | exact h | (have h2 := h; simp only [choice_lk, lock_eq] at h2; exact h2) | (simp only [choice_lk, lock_eq] at h; exact h)
                  rw [if_neg (by rw [h1]; exact Bool.false_ne_true)] at hr
                  (try cbv)
                  apply Hidden.out
                  have e := Option.some.inj hr
                  constructor
                  refine ⟨_, hF, ?_⟩
                  (try cbv); (try simp only [choice_lk, lock_eq, and_self, and_true, true_and]); (try first | exact e | exact e.symm | (and_intros <;> first | assumption | rfl | exact Eq.symm (by assumption)))
              · have h1 : (ieq y4 (10 : Int)) = false := by first | exact h | (have h2 := h; simp only [choice_lk, lock_eq] at h2; exact h2) | (simp only [choice_lk, lock_eq] at h; exact h)
                rw [if_neg (by rw [h1]; exact Bool.false_ne_true)] at hr
                (try cbv)
                apply Hidden.out
                have e := Option.some.inj hr
                constructor
                refine ⟨_, hF, ?_⟩
                (try cbv); (try simp only [choice_lk, lock_eq, and_self, and_true, true_and]); (try first | exact e | exact e.symm | (and_intros <;> first | assumption | rfl | exact Eq.symm (by assumption)))
            · have h1 : (ieq y2 (0 : Int)) = false := by first | exact h | (have h2 := h; simp only [choice_lk, lock_eq] at h2; exact h2) | (simp only [choice_lk, lock_eq] at h; exact h)
              rw [if_neg (by rw [h1]; exact Bool.false_ne_true)] at hr
              (try cbv)
              apply Hidden.out
              have e := Option.some.inj hr
              constructor
              refine ⟨_, hF, ?_⟩
              (try cbv); (try simp only [choice_lk, lock_eq, and_self, and_true, true_and]); (try first | exact e | exact e.symm | (and_intros <;> first | assumption | rfl | exact Eq.symm (by assumption)))
          · have h1 : (ieq (ofN (xlen (D.toL (D.fld (getD q1 (toN (0 : Int))) 2)))) (1 : Int)) = false := by first | exact h | (have h2 := h; simp only [choice_lk, lock_eq] at h2; exact h2) | (simp only [choice_lk, lock_eq] at h; exact h)
            rw [if_neg (by rw [h1]; exact Bool.false_ne_true)] at hr
            (try cbv)
            apply Hidden.out
            have e := Option.some.inj hr
            constructor
            refine ⟨_, hF, ?_⟩
            (try cbv); (try simp only [choice_lk, lock_eq, and_self, and_true, true_and]); (try first | exact e | exact e.symm | (and_intros <;> first | assumption | rfl | exact Eq.symm (by assumption)))
        · have h1 : (ieq (ofN (xlen q1)) (1 : Int)) = false := by first | exact h | (have h2 := h; simp only [choice_lk, lock_eq] at h2; exact h2) | (simp only [choice_lk, lock_eq] at h; exact h)
          rw [if_neg (by rw [h1]; exact Bool.false_ne_true)] at hr
          (try cbv)
          apply Hidden.out
          have e := Option.some.inj hr
          constructor
          refine ⟨_, hF, ?_⟩
          (try cbv); (try simp only [choice_lk, lock_eq, and_self, and_true, true_and]); (try first | exact e | exact e.symm | (and_intros <;> first | assumption | rfl | exact Eq.symm (by assumption)))
      · have h1 : (ieq y1 (0 : Int)) = false := by first | exact h | (have h2 := h; simp only [choice_lk, lock_eq] at h2; exact h2) | (simp only [choice_lk, lock_eq] at h; exact h)
        rw [if_neg (by rw [h1]; exact Bool.false_ne_true)] at hr
        (try cbv)
        apply Hidden.out
        have e := Option.some.inj hr
        constructor
        refine ⟨_, hF, ?_⟩
        (try cbv); (try simp only [choice_lk, lock_eq, and_self, and_true, true_and]); (try first | exact e | exact e.symm | (and_intros <;> first | assumption | rfl | exact Eq.symm (by assumption)))
    · have h1 : (seq t1 ([1, 3, 2, 1, 97] : List UInt8)) = false := by first | exact h | (have h2 := h; simp only [choice_lk, lock_eq] at h2; exact h2) | (simp only [choice_lk, lock_eq] at h; exact h)
      rw [if_neg (by rw [h1]; exact Bool.false_ne_true)] at hr
      (try cbv)
      apply Hidden.out
      have e := Option.some.inj hr
      constructor
      refine ⟨_, hF, ?_⟩
      (try cbv); (try simp only [choice_lk, lock_eq, and_self, and_true, true_and]); (try first | exact e | exact e.symm | (and_intros <;> first | assumption | rfl | exact Eq.symm (by assumption)))
end Go.Proofs.Ytknaheioedkaeaa
end
section
/-
  The walk of tollbar/tollbarlaw03.many (printed by a program of ours).
-/
set_option linter.unusedVariables false
set_option linter.unusedSimpArgs false
namespace Go.Proofs.Ytknaheioedkaeaa
open Go.RowKit

noncomputable def tab_tollbarlaw03_manyG (gn : Nat) : Nat → Option Con := look [(9, con_tollbarlaw03_manyG gn)]
set_option maxHeartbeats 4000000 in
set_option maxRecDepth 100000 in
theorem vc_tollbarlaw03_manyG (P : Program) (gn : Nat) (T : Tab P (tab_tollbarlaw03_manyG gn)) (hm : P.follows .mixedOrders = true) : FnVC P (tab_tollbarlaw03_manyG gn) ic_9 [.t 2] 30 (con_tollbarlaw03_manyG (gn + 1)) := by
  intro cargs ccks ce hce hob C hk
  apply Hidden.out
  replace hce : con_tollbarlaw03_manyG_1 (gn + 1) cargs ccks = some ce := hce
  · unfold con_tollbarlaw03_manyG_1 at hce
    split at hce
    rotate_left
    · cases hce
    obtain rfl := Option.some.inj hce
    rename_i r1
    have hb1 := hob _ (List.mem_singleton.2 rfl)
    have hb2 := obl.1 hb1
    clear hb1 hob hce
    refine hb2.elim fun r hF => ?_
    clear hb2
    simp only [List.length_cons, List.length_nil, Nat.zero_add, Nat.reduceAdd] at hk
    have hr : B_tollbarlaw03_many (G_tollbarlaw03_many gn) r1 = some r := by rw [lock_eq] at hF; exact hF
    unfold B_tollbarlaw03_many at hr
    constructor
    (try cbv)
    refine LoopOK.iter T (drawOK T hm) (B := (F_tollbarlaw03_many_L1 (G_tollbarlaw03_many gn) r1)) hr (fun | (i1, i2) => ⟨mkFr [(0, (.rsl (.row 46 (.st [(.int .u64), (.bytes 5), (.self 46)]) r1))), (3, (.v (.int .i64 i1))), (4, (.v (.int .i64 i2)))] 30 0, [], 0⟩) ?_ ?_
    · rintro ⟨u0, u1⟩ e
      simp only [Prod.mk.injEq] at e
      obtain ⟨e0, e1⟩ := e
      refine le_auto hk ?_
      (try cbv); (try simp only [choice_lk, lock_eq, and_self, and_true, true_and]); (try first | exact e | exact e.symm | (and_intros <;> first | assumption | rfl | exact Eq.symm (by assumption)))
    · clear hr
      intro x bb1 hr ht1
      obtain ⟨i1, i2⟩ := x
      as_aux_lemma =>
      constructor
      unfold F_tollbarlaw03_many_L1 at hr
      (try dsimp only at hr)
      (try cbv)
      refine sel_intro (fun h => ?_) (fun h => ?_)
      · have h1 : (ilt i2 (ofN (xlen r1))) = true := by first | exact h | (have h2 := h; simp only [choice_lk, lock_eq] at h2; exact h2) | (simp only [choice_lk, lock_eq] at h; exact h)
        rw [if_pos h1] at hr
        (try cbv)
        have gg := guard_inv hr
        have g := gg.1
        replace hr := gg.2
        clear gg
        refine ⟨obl.2 (by first | (simp only [choice_lk, lock_eq, R.len, R.sub]; exact g) | exact g), ?_⟩
        have hqe : ∃ qq, G_tollbarlaw03_many gn (D.toL (D.fld (getD r1 (toN i2)) 2)) = some qq := by
          cases hq : G_tollbarlaw03_many gn (D.toL (D.fld (getD r1 (toN i2)) 2)) with
          | none => rw [hq] at hr; cases hr
          | some qq => exact ⟨qq, rfl⟩
        refine ⟨(by simp only [choice_lk, lock_eq]; exact hqe), obl.2 (by simp only [choice_lk, lock_eq]; exact hqe), (by rintro (_) _ <;> cbv), ?_⟩
        clear hqe
        intro y3 hx3
        simp only [choice_lk, lock_eq] at hx3
        all_goals (rw [hx3] at hr; dsimp only at hr; constructor; (try cbv))
        have gg := guard_inv hr
        have g := gg.1
        replace hr := gg.2
        clear gg
        refine ⟨obl.2 (by first | (simp only [choice_lk, lock_eq, R.len, R.sub]; exact g) | exact g), ?_⟩
        apply Hidden.out
        obtain rfl := Option.some.inj hr
        constructor
        refine ⟨⟨_, rfl⟩, ?_⟩
        rintro ⟨u0, u1⟩ e
        replace e := Sum.inl.inj e
        simp only [Prod.mk.injEq] at e
        obtain ⟨e0, e1⟩ := e
        refine le_auto hk ?_
        (try cbv); (try simp only [choice_lk, lock_eq, and_self, and_true, true_and]); (try first | exact e | exact e.symm | (and_intros <;> first | assumption | rfl | exact Eq.symm (by assumption)))
      · have h1 : (ilt i2 (ofN (xlen r1))) = false := by first | exact h | (have h2 := h; simp only [choice_lk, lock_eq] at h2; exact h2) | (simp only [choice_lk, lock_eq] at h; exact h)
        rw [if_neg (by rw [h1]; exact Bool.false_ne_true)] at hr
        (try cbv)
        apply Hidden.out
        obtain rfl := Option.some.inj hr
        have e := ht1 _ rfl
        constructor
        refine ⟨_, hF, ?_⟩
        (try cbv); (try simp only [choice_lk, lock_eq, and_self, and_true, true_and]); (try first | exact e | exact e.symm | (and_intros <;> first | assumption | rfl | exact Eq.symm (by assumption)))
end Go.Proofs.Ytknaheioedkaeaa
end
section
/-
  The walk of tollbar/tollbarlaw03.plain (printed by a program of ours).
-/
set_option linter.unusedVariables false
set_option linter.unusedSimpArgs false
namespace Go.Proofs.Ytknaheioedkaeaa
open Go.RowKit

noncomputable def tab_tollbarlaw03_plainG (gn : Nat) : Nat → Option Con := look [(10, con_tollbarlaw03_plainG gn)]
set_option maxHeartbeats 4000000 in
set_option maxRecDepth 100000 in
theorem vc_tollbarlaw03_plainG (P : Program) (gn : Nat) (T : Tab P (tab_tollbarlaw03_plainG gn)) (hm : P.follows .mixedOrders = true) : FnVC P (tab_tollbarlaw03_plainG gn) ic_10 [.t 2] 33 (con_tollbarlaw03_plainG (gn + 1)) := by
  intro cargs ccks ce hce hob C hk
  apply Hidden.out
  replace hce : con_tollbarlaw03_plainG_1 (gn + 1) cargs ccks = some ce := hce
  · unfold con_tollbarlaw03_plainG_1 at hce
    split at hce
    rotate_left
    · cases hce
    obtain rfl := Option.some.inj hce
    rename_i r1
    have hb1 := hob _ (List.mem_singleton.2 rfl)
    have hb2 := obl.1 hb1
    clear hb1 hob hce
    refine hb2.elim fun r hF => ?_
    clear hb2
    simp only [List.length_cons, List.length_nil, Nat.zero_add, Nat.reduceAdd] at hk
    have hr : B_tollbarlaw03_plain (G_tollbarlaw03_plain gn) r1 = some r := by rw [lock_eq] at hF; exact hF
    unfold B_tollbarlaw03_plain at hr
    constructor
    (try cbv)
    refine LoopOK.iter T (drawOK T hm) (B := (F_tollbarlaw03_plain_L1 (G_tollbarlaw03_plain gn) r1)) hr (fun | (i1, r2) => ⟨mkFr [(0, (.rsl (.row 46 (.st [(.int .u64), (.bytes 5), (.self 46)]) r1))), (3, (.wsl 0)), (4, (.v (.int .i64 i1)))] 33 0, [(0, .row (.row 49 (.st [(.int .u64), .str, (.self 49)]) r2))], 1⟩) ?_ ?_
    · rintro ⟨u0, u1⟩ e
      simp only [Prod.mk.injEq] at e
      obtain ⟨e0, e1⟩ := e
      refine le_auto hk ?_
      (try cbv); (try simp only [choice_lk, lock_eq, and_self, and_true, true_and]); (try first | exact e | exact e.symm | (and_intros <;> first | assumption | rfl | exact Eq.symm (by assumption)))
    · clear hr
      intro x bb1 hr ht1
      obtain ⟨i1, r2⟩ := x
      as_aux_lemma =>
      constructor
      unfold F_tollbarlaw03_plain_L1 at hr
      (try dsimp only at hr)
      (try cbv)
      refine sel_intro (fun h => ?_) (fun h => ?_)
      · have h1 : (ilt i1 (ofN (xlen r1))) = true := by first | exact h | (have h2 := h; simp only [choice_lk, lock_eq] at h2; exact h2) | (simp only [choice_lk, lock_eq] at h; exact h)
        rw [if_pos h1] at hr
        (try cbv)
        have gg := guard_inv hr
        have g := gg.1
        replace hr := gg.2
        clear gg
        refine ⟨obl.2 (by first | (simp only [choice_lk, lock_eq, R.len, R.sub]; exact g) | exact g), ?_⟩
        have gg := guard_inv hr
        have g := gg.1
        replace hr := gg.2
        clear gg
        refine ⟨obl.2 (by first | (simp only [choice_lk, lock_eq, R.len, R.sub]; exact g) | exact g), ?_⟩
        have gg := guard_inv hr
        have g := gg.1
        replace hr := gg.2
        clear gg
        refine ⟨obl.2 (by first | (simp only [choice_lk, lock_eq, R.len, R.sub]; exact g) | exact g), ?_⟩
        have hqe : ∃ qq, G_tollbarlaw03_plain gn (D.toL (D.fld (getD r1 (toN i1)) 2)) = some qq := by
          cases hq : G_tollbarlaw03_plain gn (D.toL (D.fld (getD r1 (toN i1)) 2)) with
          | none => rw [hq] at hr; cases hr
          | some qq => exact ⟨qq, rfl⟩
        refine ⟨(by simp only [choice_lk, lock_eq]; exact hqe), obl.2 (by simp only [choice_lk, lock_eq]; exact hqe), (by rintro (_) _ <;> cbv), ?_⟩
        clear hqe
        intro q4 hx4
        simp only [choice_lk, lock_eq] at hx4
        all_goals (rw [hx4] at hr; dsimp only at hr; constructor; (try cbv))
        have gg := guard_inv hr
        have g := gg.1
        replace hr := gg.2
        clear gg
        refine ⟨obl.2 (by first | (simp only [choice_lk, lock_eq, R.len, R.sub]; exact g) | exact g), ?_⟩
        apply Hidden.out
        obtain rfl := Option.some.inj hr
        constructor
        refine ⟨⟨_, rfl⟩, ?_⟩
        rintro ⟨u0, u1⟩ e
        replace e := Sum.inl.inj e
        simp only [Prod.mk.injEq] at e
        obtain ⟨e0, e1⟩ := e
        refine le_auto hk ?_
        (try cbv); (try simp only [choice_lk, lock_eq, and_self, and_true, true_and]); (try first | exact e | exact e.symm | (and_intros <;> first | assumption | rfl | exact Eq.symm (by assumption)))
      · have h1 : (ilt i1 (ofN (xlen r1))) = false := by first | exact h | (have h2 := h; simp only [choice_lk, lock_eq] at h2; exact h2) | (simp only [choice_lk, lock_eq] at h; exact h)
        rw [if_neg (by rw [h1]; exact Bool.false_ne_true)] at hr
        (try cbv)
        apply Hidden.out
        obtain rfl := Option.some.inj hr
        have e := ht1 _ rfl
        constructor
        refine ⟨_, hF, ?_⟩
        (try cbv); (try simp only [choice_lk, lock_eq, and_self, and_true, true_and]); (try first | exact e | exact e.symm | (and_intros <;> first | assumption | rfl | exact Eq.symm (by assumption)))
end Go.Proofs.Ytknaheioedkaeaa
end
section
/-
  The walk of tollbar/tollbarref03.Same (printed by a program of ours).
-/
set_option linter.unusedVariables false
set_option linter.unusedSimpArgs false
namespace Go.Proofs.Ytknaheioedkaeaa
open Go.RowKit

noncomputable def tab_tollbarref03_SameG (gn : Nat) : Nat → Option Con := look [(19, con_tollbarref03_SameG gn)]
set_option maxHeartbeats 4000000 in
set_option maxRecDepth 100000 in
theorem vc_tollbarref03_SameG (P : Program) (gn : Nat) (T : Tab P (tab_tollbarref03_SameG gn)) (hm : P.follows .mixedOrders = true) : FnVC P (tab_tollbarref03_SameG gn) ic_19 [.t 4] 57 (con_tollbarref03_SameG (gn + 1)) := by
  intro cargs ccks ce hce hob C hk
  apply Hidden.out
  replace hce : con_tollbarref03_SameG_1 (gn + 1) cargs ccks = some ce := hce
  · unfold con_tollbarref03_SameG_1 at hce
    split at hce
    rotate_left
    · cases hce
    obtain rfl := Option.some.inj hce
    rename_i r1 r2
    have hb1 := hob _ (List.mem_singleton.2 rfl)
    have hb2 := obl.1 hb1
    clear hb1 hob hce
    refine hb2.elim fun r hF => ?_
    clear hb2
    simp only [List.length_cons, List.length_nil, Nat.zero_add, Nat.reduceAdd] at hk
    have hr : B_tollbarref03_Same (G_tollbarref03_Same gn) r1 r2 = some r := by rw [lock_eq] at hF; exact hF
    unfold B_tollbarref03_Same at hr
    constructor
    (try cbv)
    refine sel_intro (fun h => ?_) (fun h => ?_)
    · have h1 : (ieq (ofN (xlen r1)) (ofN (xlen r2))) = false := by first | exact (bnot_t.1 h) | (have h2 := (bnot_t.1 h); simp only [choice_lk, lock_eq] at h2; exact h2) | (simp only [choice_lk, lock_eq] at h; exact (bnot_t.1 h))
      rw [if_neg (by rw [h1]; exact Bool.false_ne_true)] at hr
      (try cbv)
      apply Hidden.out
      have e := Option.some.inj hr
      constructor
      refine ⟨_, hF, ?_⟩
      (try cbv); (try simp only [choice_lk, lock_eq, and_self, and_true, true_and]); (try first | exact e | exact e.symm | (and_intros <;> first | assumption | rfl | exact Eq.symm (by assumption)))
    · as_aux_lemma =>
      have h1 : (ieq (ofN (xlen r1)) (ofN (xlen r2))) = true := by first | exact (bnot_f.1 h) | (have h2 := (bnot_f.1 h); simp only [choice_lk, lock_eq] at h2; exact h2) | (simp only [choice_lk, lock_eq] at h; exact (bnot_f.1 h))
      rw [if_pos h1] at hr
      (try cbv)
      refine LoopOK.iter T (drawOK T hm) (B := (F_tollbarref03_Same_L1 (G_tollbarref03_Same gn) r1 r2)) hr (fun | i1 => ⟨mkFr [(0, (.rsl (.row 49 (.st [(.int .u64), .str, (.self 49)]) r1))), (1, (.rsl (.row 49 (.st [(.int .u64), .str, (.self 49)]) r2))), (5, (.v (.int .i64 i1)))] 57 0, [], 0⟩) ?_ ?_
      · rintro u0 e
        refine le_auto hk ?_
        (try cbv); (try simp only [choice_lk, lock_eq, and_self, and_true, true_and]); (try first | exact e | exact e.symm | (and_intros <;> first | assumption | rfl | exact Eq.symm (by assumption)))
      · clear hr
        intro x bb1 hr ht1
        obtain ⟨i1, hz⟩ : ∃ z, z = x := ⟨x, rfl⟩
        subst hz
        as_aux_lemma =>
        constructor
        unfold F_tollbarref03_Same_L1 at hr
        (try dsimp only at hr)
        (try cbv)
        refine sel_intro (fun h => ?_) (fun h => ?_)
        · as_aux_lemma =>
          have h1 : (ilt i1 (ofN (xlen r1))) = true := by first | exact h | (have h2 := h; simp only [choice_lk, lock_eq] at h2; exact h2) | (simp only [choice_lk, lock_eq] at h; exact h)
          rw [if_pos h1] at hr
          (try cbv)
          have gg := guard_inv hr
          have g := gg.1
          replace hr := gg.2
          clear gg
          refine ⟨obl.2 (by first | (simp only [choice_lk, lock_eq, R.len, R.sub]; exact g) | exact g), ?_⟩
          have gg := guard_inv hr
          have g := gg.1
          replace hr := gg.2
          clear gg
          refine ⟨obl.2 (by first | (simp only [choice_lk, lock_eq, R.len, R.sub]; exact g) | exact g), ?_⟩
          have hqe : ∃ qq, G_tollbarref03_Same gn (D.toL (D.fld (getD r1 (toN i1)) 2)) (D.toL (D.fld (getD r2 (toN i1)) 2)) = some qq := by
            cases hq : G_tollbarref03_Same gn (D.toL (D.fld (getD r1 (toN i1)) 2)) (D.toL (D.fld (getD r2 (toN i1)) 2)) with
            | none => rw [hq] at hr; cases hr
            | some qq => exact ⟨qq, rfl⟩
          refine ⟨(by simp only [choice_lk, lock_eq]; exact hqe), obl.2 (by simp only [choice_lk, lock_eq]; exact hqe), (by rintro (_) _ <;> cbv), ?_⟩
          clear hqe
          intro c3 hx3
          simp only [choice_lk, lock_eq] at hx3
          all_goals (rw [hx3] at hr; dsimp only at hr; constructor; (try cbv))
          have gg := guard_inv hr
          have g := gg.1
          replace hr := gg.2
          clear gg
          refine ⟨obl.2 (by first | (simp only [choice_lk, lock_eq, R.len, R.sub]; exact g) | exact g), ?_⟩
          have gg := guard_inv hr
          have g := gg.1
          replace hr := gg.2
          clear gg
          refine ⟨obl.2 (by first | (simp only [choice_lk, lock_eq, R.len, R.sub]; exact g) | exact g), ?_⟩
          rcases Bool.eq_false_or_eq_true (ieq (D.toI (D.fld (getD r1 (toN i1)) 0)) (D.toI (D.fld (getD r2 (toN i1)) 0))) with h1 | h1
          · rw [if_pos h1] at hr
            have h2 : (lock ieq (lock D.toI (lock D.fld (lock getD r1 (lock toN i1)) 0)) (lock D.toI (lock D.fld (lock getD r2 (lock toN i1)) 0))) = true := by simp only [lock_eq]; exact h1
            simp only [relock, h2]
            (try cbv)
            have gg := guard_inv hr
            have g := gg.1
            replace hr := gg.2
            clear gg
            refine ⟨obl.2 (by first | (simp only [choice_lk, lock_eq, R.len, R.sub]; exact g) | exact g), ?_⟩
            have gg := guard_inv hr
            have g := gg.1
            replace hr := gg.2
            clear gg
            refine ⟨obl.2 (by first | (simp only [choice_lk, lock_eq, R.len, R.sub]; exact g) | exact g), ?_⟩
            rcases Bool.eq_false_or_eq_true (seq (D.toS (D.fld (getD r1 (toN i1)) 1)) (D.toS (D.fld (getD r2 (toN i1)) 1))) with h1 | h1
            · rw [if_pos h1] at hr
              have h2 : (lock seq (lock D.toS (lock D.fld (lock getD r1 (lock toN i1)) 1)) (lock D.toS (lock D.fld (lock getD r2 (lock toN i1)) 1))) = true := by simp only [lock_eq]; exact h1
              simp only [relock, h2]
              (try cbv)
              refine sel_intro (fun h => ?_) (fun h => ?_)
              · have h1 : c3 = false := by first | exact (bnot_t.1 h) | (have h2 := (bnot_t.1 h); simp only [choice_lk, lock_eq] at h2; exact h2) | (simp only [choice_lk, lock_eq] at h; exact (bnot_t.1 h))
                rw [if_neg (by rw [h1]; exact Bool.false_ne_true)] at hr
                (try cbv)
                apply Hidden.out
                obtain rfl := Option.some.inj hr
                have e := ht1 _ rfl
                constructor
                refine ⟨_, hF, ?_⟩
                (try cbv); (try simp only [choice_lk, lock_eq, and_self, and_true, true_and]); (try first | exact e | exact e.symm | (and_intros <;> first | assumption | rfl | exact Eq.symm (by assumption)))
              · have h1 : c3 = true := by first | exact (bnot_f.1 h) | (have h2 := (bnot_f.1 h); simp only [choice_lk, lock_eq] at h2; exact h2) | (simp only [choice_lk, lock_eq] at h; exact (bnot_f.1 h))
                rw [if_pos h1] at hr
                (try cbv)
                apply Hidden.out
                obtain rfl := Option.some.inj hr
                constructor
                refine ⟨⟨_, rfl⟩, ?_⟩
                rintro u0 e
                replace e := Sum.inl.inj e
                refine le_auto hk ?_
                (try cbv); (try simp only [choice_lk, lock_eq, and_self, and_true, true_and]); (try first | exact e | exact e.symm | (and_intros <;> first | assumption | rfl | exact Eq.symm (by assumption)))
            · rw [if_neg (by rw [h1]; exact Bool.false_ne_true)] at hr
              have h2 : (lock seq (lock D.toS (lock D.fld (lock getD r1 (lock toN i1)) 1)) (lock D.toS (lock D.fld (lock getD r2 (lock toN i1)) 1))) = false := by simp only [lock_eq]; exact h1
              simp only [relock, h2]
              (try cbv)
              apply Hidden.out
              obtain rfl := Option.some.inj hr
              have e := ht1 _ rfl
              constructor
              refine ⟨_, hF, ?_⟩
              (try cbv); (try simp only [choice_lk, lock_eq, and_self, and_true, true_and]); (try first | exact e | exact e.symm | (and_intros <;> first | assumption | rfl | exact Eq.symm (by assumption)))
          · rw [if_neg (by rw [h1]; exact Bool.false_ne_true)] at hr
            have h2 : (lock ieq (lock D.toI (lock D.fld (lock getD r1 (lock toN i1)) 0)) (lock D.toI (lock D.fld (lock getD r2 (lock toN i1)) 0))) = false := by simp only [lock_eq]; exact h1
            simp only [relock, h2]
            (try cbv)
            apply Hidden.out
            obtain rfl := Option.some.inj hr
            have e := ht1 _ rfl
            constructor
            refine ⟨_, hF, ?_⟩
            (try cbv); (try simp only [choice_lk, lock_eq, and_self, and_true, true_and]); (try first | exact e | exact e.symm | (and_intros <;> first | assumption | rfl | exact Eq.symm (by assumption)))
        · have h1 : (ilt i1 (ofN (xlen r1))) = false := by first | exact h | (have h2 := h; simp only [choice_lk, lock_eq] at h2; exact h2) | (simp only [choice_lk, lock_eq] at h; exact h)
          rw [if_neg (by rw [h1]; exact Bool.false_ne_true)] at hr
          (try cbv)
          apply Hidden.out
          obtain rfl := Option.some.inj hr
          have e := ht1 _ rfl
          constructor
          refine ⟨_, hF, ?_⟩
          (try cbv); (try simp only [choice_lk, lock_eq, and_self, and_true, true_and]); (try first | exact e | exact e.symm | (and_intros <;> first | assumption | rfl | exact Eq.symm (by assumption)))
end Go.Proofs.Ytknaheioedkaeaa
end
section
/-
  The walk of tollbar/tollbarlaw03.TlvBack (printed by a program of ours).
-/
set_option linter.unusedVariables false
set_option linter.unusedSimpArgs false
namespace Go.Proofs.Ytknaheioedkaeaa
open Go.RowKit

noncomputable def tab_tollbarlaw03_TlvBack : Nat → Option Con := look [(8, con_tollbarlaw03_awake), (9, con_tollbarlaw03_many), (11, con_tlv_Put), (17, con_tlv_Get), (10, con_tollbarlaw03_plain), (19, con_tollbarref03_Same), (15, con_tlv_Size)]
set_option maxHeartbeats 4000000 in
set_option maxRecDepth 100000 in
theorem vc_tollbarlaw03_TlvBack (P : Program) (T : Tab P tab_tollbarlaw03_TlvBack) (hm : P.follows .mixedOrders = true) : FnVC P tab_tollbarlaw03_TlvBack ic_5 [.t 4] 136 con_tollbarlaw03_TlvBack := by
  intro cargs ccks ce hce hob C hk
  apply Hidden.out
  replace hce : con_tollbarlaw03_TlvBack_1 cargs ccks = some ce := hce
  · unfold con_tollbarlaw03_TlvBack_1 at hce
    split at hce
    rotate_left
    · cases hce
    obtain rfl := Option.some.inj hce
    rename_i r1 r2
    have hb1 := hob _ (List.mem_singleton.2 rfl)
    have hb2 := obl.1 hb1
    clear hb1 hob hce
    refine hb2.elim fun r hF => ?_
    clear hb2
    simp only [List.length_cons, List.length_nil, Nat.zero_add, Nat.reduceAdd] at hk
    have hr : F_tollbarlaw03_TlvBack r1 r2 = some r := by rw [lock_eq] at hF; exact hF
    unfold F_tollbarlaw03_TlvBack at hr
    constructor
    (try cbv)
    have hqe : ∃ qq, F_tollbarlaw03_awake = some qq := by
      cases hq : F_tollbarlaw03_awake with
      | none => rw [hq] at hr; cases hr
      | some qq => exact ⟨qq, rfl⟩
    refine ⟨obl.2 (by simp only [choice_lk, lock_eq]; exact hqe), (by rintro (_) _ <;> cbv), ?_⟩
    clear hqe
    intro c1 hx1
    simp only [choice_lk, lock_eq] at hx1
    all_goals (rw [hx1] at hr; dsimp only at hr; constructor; (try cbv))
    refine sel_intro (fun h => ?_) (fun h => ?_)
    · have h1 : c1 = false := by first | exact (bnot_t.1 h) | (have h2 := (bnot_t.1 h); simp only [choice_lk, lock_eq] at h2; exact h2) | (simp only [choice_lk, lock_eq] at h; exact (bnot_t.1 h))
      rw [if_neg (by rw [h1]; exact Bool.false_ne_true)] at hr
      (try cbv)
      apply Hidden.out
      have e := Option.some.inj hr
      constructor
      refine ⟨_, hF, ?_⟩
      (try cbv); (try simp only [choice_lk, lock_eq, and_self, and_true, true_and]); (try first | exact e | exact e.symm | (and_intros <;> first | assumption | rfl | exact Eq.symm (by assumption)))
    · as_aux_lemma =>
      have h1 : c1 = true := by first | exact (bnot_f.1 h) | (have h2 := (bnot_f.1 h); simp only [choice_lk, lock_eq] at h2; exact h2) | (simp only [choice_lk, lock_eq] at h; exact (bnot_f.1 h))
      rw [if_pos h1] at hr
      (try cbv)
      have hqe : ∃ qq, F_tollbarlaw03_many r1 = some qq := by
        cases hq : F_tollbarlaw03_many r1 with
        | none => rw [hq] at hr; cases hr
        | some qq => exact ⟨qq, rfl⟩
      refine ⟨obl.2 (by simp only [choice_lk, lock_eq]; exact hqe), (by rintro (_) _ <;> cbv), ?_⟩
      clear hqe
      intro y1 hx2
      simp only [choice_lk, lock_eq] at hx2
      all_goals (rw [hx2] at hr; dsimp only at hr; constructor; (try cbv))
      refine sel_intro (fun h => ?_) (fun h => ?_)
      · have h1 : (ilt (200 : Int) y1) = true := by first | exact h | (have h2 := h; simp only [choice_lk, lock_eq] at h2; exact h2) | (simp only [choice_lk, lock_eq] at h; exact h)
        rw [if_pos h1] at hr
        (try cbv)
        apply Hidden.out
        have e := Option.some.inj hr
        constructor
        refine ⟨_, hF, ?_⟩
        (try cbv); (try simp only [choice_lk, lock_eq, and_self, and_true, true_and]); (try first | exact e | exact e.symm | (and_intros <;> first | assumption | rfl | exact Eq.symm (by assumption)))
      · as_aux_lemma =>
        have h1 : (ilt (200 : Int) y1) = false := by first | exact h | (have h2 := h; simp only [choice_lk, lock_eq] at h2; exact h2) | (simp only [choice_lk, lock_eq] at h; exact h)
        rw [if_neg (by rw [h1]; exact Bool.false_ne_true)] at hr
        (try cbv)
        have hqe : ∃ qq, F_tollbarlaw03_many r2 = some qq := by
          cases hq : F_tollbarlaw03_many r2 with
          | none => rw [hq] at hr; cases hr
          | some qq => exact ⟨qq, rfl⟩
        refine ⟨obl.2 (by simp only [choice_lk, lock_eq]; exact hqe), (by rintro (_) _ <;> cbv), ?_⟩
        clear hqe
        intro y2 hx3
        simp only [choice_lk, lock_eq] at hx3
        all_goals (rw [hx3] at hr; dsimp only at hr; constructor; (try cbv))
        refine sel_intro (fun h => ?_) (fun h => ?_)
        · have h1 : (ilt (200 : Int) y2) = true := by first | exact h | (have h2 := h; simp only [choice_lk, lock_eq] at h2; exact h2) | (simp only [choice_lk, lock_eq] at h; exact h)
          rw [if_pos h1] at hr
          (try cbv)
          apply Hidden.out
          have e := Option.some.inj hr
          constructor
          refine ⟨_, hF, ?_⟩
          (try cbv); (try simp only [choice_lk, lock_eq, and_self, and_true, true_and]); (try first | exact e | exact e.symm | (and_intros <;> first | assumption | rfl | exact Eq.symm (by assumption)))
        · as_aux_lemma =>
          have h1 : (ilt (200 : Int) y2) = false := by first | exact h | (have h2 := h; simp only [choice_lk, lock_eq] at h2; exact h2) | (simp only [choice_lk, lock_eq] at h; exact h)
          rw [if_neg (by rw [h1]; exact Bool.false_ne_true)] at hr
          (try cbv)
          have hqe : ∃ qq, F_tlv_Put r1 = some qq := by
            cases hq : F_tlv_Put r1 with
            | none => rw [hq] at hr; cases hr
            | some qq => exact ⟨qq, rfl⟩
          refine ⟨obl.2 (by simp only [choice_lk, lock_eq]; exact hqe), (by rintro (⟨_, _⟩) _ <;> cbv), ?_⟩
          clear hqe
          intro qq hx4
          simp only [choice_lk, lock_eq] at hx4
          rcases qq with ⟨y3, t1⟩
          all_goals (rw [hx4] at hr; dsimp only at hr; constructor; (try cbv))
          have hqe : ∃ qq, F_tlv_Put r2 = some qq := by
            cases hq : F_tlv_Put r2 with
            | none => rw [hq] at hr; cases hr
            | some qq => exact ⟨qq, rfl⟩
          refine ⟨obl.2 (by simp only [choice_lk, lock_eq]; exact hqe), (by rintro (⟨_, _⟩) _ <;> cbv), ?_⟩
          clear hqe
          intro qq hx5
          simp only [choice_lk, lock_eq] at hx5
          rcases qq with ⟨y4, t2⟩
          all_goals (rw [hx5] at hr; dsimp only at hr; constructor; (try cbv))
          refine sel_intro (fun h => ?_) (fun h => ?_)
          · have h1 : (ieq y3 (0 : Int)) = false := by first | exact (bnot_t.1 h) | (have h2 := (bnot_t.1 h); simp only [choice_lk, lock_eq] at h2; exact h2) | (simp only [choice_lk, lock_eq] at h; exact (bnot_t.1 h))
            rw [if_neg (by rw [h1]; exact Bool.false_ne_true)] at hr
            (try cbv)
            apply Hidden.out
            have e := Option.some.inj hr
            constructor
            refine ⟨_, hF, ?_⟩
            (try cbv); (try simp only [choice_lk, lock_eq, and_self, and_true, true_and]); (try first | exact e | exact e.symm | (and_intros <;> first | assumption | rfl | exact Eq.symm (by assumption)))
          · as_aux_lemma =>
            have h1 : (ieq y3 (0 : Int)) = true := by first | exact (bnot_f.1 h) | (have h2 := (bnot_f.1 h); simp only [choice_lk, lock_eq] at h2; exact h2) | (simp only [choice_lk, lock_eq] at h; exact (bnot_f.1 h))
            rw [if_pos h1] at hr
            (try cbv)
            refine sel_intro (fun h => ?_) (fun h => ?_)
            · have h1 : (ieq y4 (0 : Int)) = false := by first | exact (bnot_t.1 h) | (have h2 := (bnot_t.1 h); simp only [choice_lk, lock_eq] at h2; exact h2) | (simp only [choice_lk, lock_eq] at h; exact (bnot_t.1 h))
              rw [if_neg (by rw [h1]; exact Bool.false_ne_true)] at hr
              (try cbv)
              apply Hidden.out
              have e := Option.some.inj hr
              constructor
              refine ⟨_, hF, ?_⟩
              (try cbv); (try simp only [choice_lk, lock_eq, and_self, and_true, true_and]); (try first | exact e | exact e.symm | (and_intros <;> first | assumption | rfl | exact Eq.symm (by assumption)))
            · as_aux_lemma =>
              have h1 : (ieq y4 (0 : Int)) = true := by first | exact (bnot_f.1 h) | (have h2 := (bnot_f.1 h); simp only [choice_lk, lock_eq] at h2; exact h2) | (simp only [choice_lk, lock_eq] at h; exact (bnot_f.1 h))
              rw [if_pos h1] at hr
              (try cbv)
              have hqe : ∃ qq, F_tlv_Get t1 = some qq := by
                cases hq : F_tlv_Get t1 with
                | none => rw [hq] at hr; cases hr
                | some qq => exact ⟨qq, rfl⟩
              refine ⟨obl.2 (by simp only [choice_lk, lock_eq]; exact hqe), (by rintro (⟨_, _, _⟩) _ <;> cbv), ?_⟩
              clear hqe
              intro qq hx6
              simp only [choice_lk, lock_eq] at hx6
              rcases qq with ⟨q1, y5, y6⟩
              all_goals (rw [hx6] at hr; dsimp only at hr; constructor; (try cbv))
              refine sel_intro (fun h => ?_) (fun h => ?_)
              · have h1 : (ieq y5 (0 : Int)) = false := by first | exact (bnot_t.1 h) | (have h2 := (bnot_t.1 h); simp only [choice_lk, lock_eq] at h2; exact h2) | (simp only [choice_lk, lock_eq] at h; exact (bnot_t.1 h))
                rw [if_neg (by rw [h1]; exact Bool.false_ne_true)] at hr
                (try cbv)
                apply Hidden.out
                have e := Option.some.inj hr
                constructor
                refine ⟨_, hF, ?_⟩
                (try cbv); (try simp only [choice_lk, lock_eq, and_self, and_true, true_and]); (try first | exact e | exact e.symm | (and_intros <;> first | assumption | rfl | exact Eq.symm (by assumption)))
              · as_aux_lemma =>
                have h1 : (ieq y5 (0 : Int)) = true := by first | exact (bnot_f.1 h) | (have h2 := (bnot_f.1 h); simp only [choice_lk, lock_eq] at h2; exact h2) | (simp only [choice_lk, lock_eq] at h; exact (bnot_f.1 h))
                rw [if_pos h1] at hr
                (try cbv)
                refine sel_intro (fun h => ?_) (fun h => ?_)
                · have h1 : (ieq y6 (0 : Int)) = false := by first | exact (bnot_t.1 h) | (have h2 := (bnot_t.1 h); simp only [choice_lk, lock_eq] at h2; exact h2) | (simp only [choice_lk, lock_eq] at h; exact (bnot_t.1 h))
                  rw [if_neg (by rw [h1]; exact Bool.false_ne_true)] at hr
                  (try cbv)
                  apply Hidden.out
                  have e := Option.some.inj hr
                  constructor
                  refine ⟨_, hF, ?_⟩
                  (try cbv); (try simp only [choice_lk, lock_eq, and_self, and_true, true_and]); (try first | exact e | exact e.symm | (and_intros <;> first | assumption | rfl | exact Eq.symm (by assumption)))
                · as_aux_lemma =>
                  have h1 : (ieq y6 (0 : Int)) = true := by first | exact (bnot_f.1 h) | (have h2 := (bnot_f.1 h); simp only [choice_lk, lock_eq] at h2; exact h2) | (simp only [choice_lk, lock_eq] at h; exact (bnot_f.1 h))
                  rw [if_pos h1] at hr
                  (try cbv)
                  have hqe : ∃ qq, F_tollbarlaw03_plain q1 = some qq := by
                    cases hq : F_tollbarlaw03_plain q1 with
                    | none => rw [hq] at hr; cases hr
                    | some qq => exact ⟨qq, rfl⟩
                  refine ⟨obl.2 (by simp only [choice_lk, lock_eq]; exact hqe), (by rintro (_) _ <;> cbv), ?_⟩
                  clear hqe
                  intro q2 hx7
                  simp only [choice_lk, lock_eq] at hx7
                  all_goals (rw [hx7] at hr; dsimp only at hr; constructor; (try cbv))
                  have hqe : ∃ qq, F_tollbarlaw03_plain r1 = some qq := by
                    cases hq : F_tollbarlaw03_plain r1 with
                    | none => rw [hq] at hr; cases hr
                    | some qq => exact ⟨qq, rfl⟩
                  refine ⟨obl.2 (by simp only [choice_lk, lock_eq]; exact hqe), (by rintro (_) _ <;> cbv), ?_⟩
                  clear hqe
                  intro q3 hx8
                  simp only [choice_lk, lock_eq] at hx8
                  all_goals (rw [hx8] at hr; dsimp only at hr; constructor; (try cbv))
                  have hqe : ∃ qq, F_tollbarref03_Same q2 q3 = some qq := by
                    cases hq : F_tollbarref03_Same q2 q3 with
                    | none => rw [hq] at hr; cases hr
                    | some qq => exact ⟨qq, rfl⟩
                  refine ⟨obl.2 (by simp only [choice_lk, lock_eq]; exact hqe), (by rintro (_) _ <;> cbv), ?_⟩
                  clear hqe
                  intro c2 hx9
                  simp only [choice_lk, lock_eq] at hx9
                  all_goals (rw [hx9] at hr; dsimp only at hr; constructor; (try cbv))
                  refine sel_intro (fun h => ?_) (fun h => ?_)
                  · have h1 : c2 = false := by first | exact (bnot_t.1 h) | (have h2 := (bnot_t.1 h); simp only [choice_lk, lock_eq] at h2; exact h2) | (simp only [choice_lk, lock_eq] at h; exact (bnot_t.1 h))
                    rw [if_neg (by rw [h1]; exact Bool.false_ne_true)] at hr
                    (try cbv)
                    apply Hidden.out
                    have e := Option.some.inj hr
                    constructor
                    refine ⟨_, hF, ?_⟩
                    (try cbv); (try simp only [choice_lk, lock_eq, and_self, and_true, true_and]); (try first | exact e | exact e.symm | (and_intros <;> first | assumption | rfl | exact Eq.symm (by assumption)))
                  · as_aux_lemma =>
                    have h1 : c2 = true := by first | exact (bnot_f.1 h) | (have h2 := (bnot_f.1 h); simp only [choice_lk, lock_eq] at h2; exact h2) | (simp only [choice_lk, lock_eq] at h; exact (bnot_f.1 h))
                    rw [if_pos h1] at hr
                    (try cbv)
                    have hqe : ∃ qq, F_tlv_Size r1 = some qq := by
                      cases hq : F_tlv_Size r1 with
                      | none => rw [hq] at hr; cases hr
                      | some qq => exact ⟨qq, rfl⟩
                    refine ⟨obl.2 (by simp only [choice_lk, lock_eq]; exact hqe), (by rintro (_) _ <;> cbv), ?_⟩
                    clear hqe
                    intro y7 hx10
                    simp only [choice_lk, lock_eq] at hx10
                    all_goals (rw [hx10] at hr; dsimp only at hr; constructor; (try cbv))
                    refine sel_intro (fun h => ?_) (fun h => ?_)
                    · have h1 : (ieq y7 (ofN (xlen t1))) = false := by first | exact (bnot_t.1 h) | (have h2 := (bnot_t.1 h); simp only [choice_lk, lock_eq] at h2; exact h2) | (simp only [choice_lk, lock_eq] at h; exact (bnot_t.1 h))
                      rw [if_neg (by rw [h1]; exact Bool.false_ne_true)] at hr
                      (try cbv)
                      apply Hidden.out
                      have e := Option.some.inj hr
                      constructor
                      refine ⟨_, hF, ?_⟩
                      (try cbv); (try simp only [choice_lk, lock_eq, and_self, and_true, true_and]); (try first | exact e | exact e.symm | (and_intros <;> first | assumption | rfl | exact Eq.symm (by assumption)))
                    · as_aux_lemma =>
                      have h1 : (ieq y7 (ofN (xlen t1))) = true := by first | exact (bnot_f.1 h) | (have h2 := (bnot_f.1 h); simp only [choice_lk, lock_eq] at h2; exact h2) | (simp only [choice_lk, lock_eq] at h; exact (bnot_f.1 h))
                      rw [if_pos h1] at hr
                      (try cbv)
                      refine sel_intro (fun h => ?_) (fun h => ?_)
                      · as_aux_lemma =>
                        have h1 : (ile (iadd .i64 (ofN (xlen t1)) (ofN (xlen t2))) (8192 : Int)) = true := by first | exact h | (have h2 := h; simp only [choice_lk, lock_eq] at h2; exact h2) | (simp only [choice_lk, lock_eq] at h; exact h)
                        rw [if_pos h1] at hr
                        (try cbv)
                        have gg := guard_inv hr
                        have g := gg.1
                        replace hr := gg.2
                        clear gg
                        refine ⟨obl.2 (by first | (simp only [choice_lk, lock_eq, R.len, R.sub]; exact g) | exact g), ?_⟩
                        have hqe : ∃ qq, F_tlv_Get (cat t1 t2) = some qq := by
                          cases hq : F_tlv_Get (cat t1 t2) with
                          | none => rw [hq] at hr; cases hr
                          | some qq => exact ⟨qq, rfl⟩
                        refine ⟨obl.2 (by simp only [choice_lk, lock_eq]; exact hqe), (by rintro (⟨_, _, _⟩) _ <;> cbv), ?_⟩
                        clear hqe
                        intro qq hx11
                        simp only [choice_lk, lock_eq] at hx11
                        rcases qq with ⟨q4, y8, y9⟩
                        all_goals (rw [hx11] at hr; dsimp only at hr; constructor; (try cbv))
                        refine sel_intro (fun h => ?_) (fun h => ?_)
                        · have h1 : (ieq y8 (0 : Int)) = false := by first | exact (bnot_t.1 h) | (have h2 := (bnot_t.1 h); simp only [choice_lk, lock_eq] at h2; exact h2) | (simp only [choice_lk, lock_eq] at h; exact (bnot_t.1 h))
                          rw [if_neg (by rw [h1]; exact Bool.false_ne_true)] at hr
                          (try cbv)
                          apply Hidden.out
                          have e := Option.some.inj hr
                          constructor
                          refine ⟨_, hF, ?_⟩
                          (try cbv); (try simp only [choice_lk, lock_eq, and_self, and_true, true_and]); (try first | exact e | exact e.symm | (and_intros <;> first | assumption | rfl | exact Eq.symm (by assumption)))
                        · as_aux_lemma =>
                          have h1 : (ieq y8 (0 : Int)) = true := by first | exact (bnot_f.1 h) | (have h2 := (bnot_f.1 h); simp only [choice_lk, lock_eq] at h2; exact h2) | (simp only [choice_lk, lock_eq] at h; exact (bnot_f.1 h))
                          rw [if_pos h1] at hr
                          (try cbv)
                          refine sel_intro (fun h => ?_) (fun h => ?_)
                          · have h1 : (ieq (ofN (xlen q4)) (iadd .i64 (ofN (xlen r1)) (ofN (xlen r2)))) = false := by first | exact (bnot_t.1 h) | (have h2 := (bnot_t.1 h); simp only [choice_lk, lock_eq] at h2; exact h2) | (simp only [choice_lk, lock_eq] at h; exact (bnot_t.1 h))
                            rw [if_neg (by rw [h1]; exact Bool.false_ne_true)] at hr
                            (try cbv)
                            apply Hidden.out
                            have e := Option.some.inj hr
                            constructor
                            refine ⟨_, hF, ?_⟩
                            (try cbv); (try simp only [choice_lk, lock_eq, and_self, and_true, true_and]); (try first | exact e | exact e.symm | (and_intros <;> first | assumption | rfl | exact Eq.symm (by assumption)))
                          · as_aux_lemma =>
                            have h1 : (ieq (ofN (xlen q4)) (iadd .i64 (ofN (xlen r1)) (ofN (xlen r2)))) = true := by first | exact (bnot_f.1 h) | (have h2 := (bnot_f.1 h); simp only [choice_lk, lock_eq] at h2; exact h2) | (simp only [choice_lk, lock_eq] at h; exact (bnot_f.1 h))
                            rw [if_pos h1] at hr
                            (try cbv)
                            have gg := guard_inv hr
                            have g := gg.1
                            replace hr := gg.2
                            clear gg
                            refine ⟨obl.2 (by first | (simp only [choice_lk, lock_eq, R.len, R.sub]; exact g) | exact g), ?_⟩
                            have hqe : ∃ qq, F_tollbarlaw03_plain (lsub q4 (toN (ofN (xlen r1))) (ndec (xlen q4) (toN (ofN (xlen r1))))) = some qq := by
                              cases hq : F_tollbarlaw03_plain (lsub q4 (toN (ofN (xlen r1))) (ndec (xlen q4) (toN (ofN (xlen r1))))) with
                              | none => rw [hq] at hr; cases hr
                              | some qq => exact ⟨qq, rfl⟩
                            refine ⟨obl.2 (by simp only [choice_lk, lock_eq]; exact hqe), (by rintro (_) _ <;> cbv), ?_⟩
                            clear hqe
                            intro q5 hx12
                            simp only [choice_lk, lock_eq] at hx12
                            all_goals (rw [hx12] at hr; dsimp only at hr; constructor; (try cbv))
                            have hqe : ∃ qq, F_tollbarlaw03_plain r2 = some qq := by
                              cases hq : F_tollbarlaw03_plain r2 with
                              | none => rw [hq] at hr; cases hr
                              | some qq => exact ⟨qq, rfl⟩
                            refine ⟨obl.2 (by simp only [choice_lk, lock_eq]; exact hqe), (by rintro (_) _ <;> cbv), ?_⟩
                            clear hqe
                            intro q6 hx13
                            simp only [choice_lk, lock_eq] at hx13
                            all_goals (rw [hx13] at hr; dsimp only at hr; constructor; (try cbv))
                            have hqe : ∃ qq, F_tollbarref03_Same q5 q6 = some qq := by
                              cases hq : F_tollbarref03_Same q5 q6 with
                              | none => rw [hq] at hr; cases hr
                              | some qq => exact ⟨qq, rfl⟩
                            refine ⟨obl.2 (by simp only [choice_lk, lock_eq]; exact hqe), (by rintro (_) _ <;> cbv), ?_⟩
                            clear hqe
                            intro c3 hx14
                            simp only [choice_lk, lock_eq] at hx14
                            all_goals (rw [hx14] at hr; dsimp only at hr; constructor; (try cbv))
                            refine sel_intro (fun h => ?_) (fun h => ?_)
                            · have h1 : c3 = false := by first | exact (bnot_t.1 h) | (have h2 := (bnot_t.1 h); simp only [choice_lk, lock_eq] at h2; exact h2) | (simp only [choice_lk, lock_eq] at h; exact (bnot_t.1 h))
                              rw [if_neg (by rw [h1]; exact Bool.false_ne_true)] at hr
                              (try cbv)
                              apply Hidden.out
                              have e := Option.some.inj hr
                              constructor
                              refine ⟨_, hF, ?_⟩
                              (try cbv); (try simp only [choice_lk, lock_eq, and_self, and_true, true_and]); (try first | exact e | exact e.symm | (and_intros <;> first | assumption | rfl | exact Eq.symm (by assumption)))
                            · have h1 : c3 = true := by first | exact (bnot_f.1 h) | (have h2 := (bnot_f.1 h); simp only [choice_lk, lock_eq] at h2; exact h2) | (simp only [choice_lk, lock_eq] at h; exact (bnot_f.1 h))
                              rw [if_pos h1] at hr
                              (try cbv)
                              refine sel_intro (fun h => ?_) (fun h => ?_)
                              · have h1 : (ieq (ofN (xlen t2)) (0 : Int)) = true := by first | exact h | (have h2 := h; simp only [choice_lk, lock_eq] at h2; exact h2) | (simp only [choice_lk, lock_eq] at h; exact h)
                                rw [if_pos h1] at hr
                                (try cbv)
                                apply Hidden.out
                                have e := Option.some.inj hr
                                constructor
                                refine ⟨_, hF, ?_⟩
                                (try cbv); (try simp only [choice_lk, lock_eq, and_self, and_true, true_and]); (try first | exact e | exact e.symm | (and_intros <;> first | assumption | rfl | exact Eq.symm (by assumption)))
                              · have h1 : (ieq (ofN (xlen t2)) (0 : Int)) = false := by first | exact h | (have h2 := h; simp only [choice_lk, lock_eq] at h2; exact h2) | (simp only [choice_lk, lock_eq] at h; exact h)
                                rw [if_neg (by rw [h1]; exact Bool.false_ne_true)] at hr
                                (try cbv)
                                have gg := guard_inv hr
                                have g := gg.1
                                replace hr := gg.2
                                clear gg
                                refine ⟨obl.2 (by first | (simp only [choice_lk, lock_eq, R.len, R.sub]; exact g) | exact g), ?_⟩
                                have hqe : ∃ qq, F_tlv_Get_3 0 (toN (isub .i64 (ofN (xlen t2)) (1 : Int))) t2 = some qq := by
                                  cases hq : F_tlv_Get_3 0 (toN (isub .i64 (ofN (xlen t2)) (1 : Int))) t2 with
                                  | none => rw [hq] at hr; cases hr
                                  | some qq => exact ⟨qq, rfl⟩
                                refine ⟨obl.2 (by simp only [choice_lk, lock_eq]; exact hqe), (by rintro (⟨_, _, _⟩) _ <;> cbv), ?_⟩
                                clear hqe
                                intro qq hx15
                                simp only [choice_lk, lock_eq] at hx15
                                rcases qq with ⟨q7, y10, y11⟩
                                all_goals (rw [hx15] at hr; dsimp only at hr; constructor; (try cbv))
                                refine sel_intro (fun h => ?_) (fun h => ?_)
                                · have h1 : (ieq y10 (10 : Int)) = true := by first | exact h | (have h2 := h; simp only [choice_lk, lock_eq] at h2; exact h2) | (simp only [choice_lk, lock_eq] at h; exact h)
                                  rw [if_pos h1] at hr
                                  (try cbv)
                                  refine sel_intro (fun h => ?_) (fun h => ?_)
                                  · have h1 : (ile (0 : Int) y11) = true := by first | exact h | (have h2 := h; simp only [choice_lk, lock_eq] at h2; exact h2) | (simp only [choice_lk, lock_eq] at h; exact h)
                                    rw [if_pos h1] at hr
                                    (try cbv)
                                    apply Hidden.out
                                    have e := Option.some.inj hr
                                    constructor
                                    refine ⟨_, hF, ?_⟩
                                    (try cbv); (try simp only [choice_lk, lock_eq, and_self, and_true, true_and]); (try first | exact e | exact e.symm | (and_intros <;> first | assumption | rfl | exact Eq.symm (by assumption)))
                                  · have h1 : (ile (0 : Int) y11) = false := by first | exact h | (have h2 := h; simp only [choice_lk, lock_eq] at h2; exact h2) | (simp only [choice_lk, lock_eq] at h; exact h)
                                    rw [if_neg (by rw [h1]; exact Bool.false_ne_true)] at hr
                                    (try cbv)
                                    apply Hidden.out
                                    have e := Option.some.inj hr
                                    constructor
                                    refine ⟨_, hF, ?_⟩
                                    (try cbv); (try simp only [choice_lk, lock_eq, and_self, and_true, true_and]); (try first | exact e | exact e.symm | (and_intros <;> first | assumption | rfl | exact Eq.symm (by assumption)))
                                · have h1 : (ieq y10 (10 : Int)) = false := by first | exact h | (have h2 := h; simp only [choice_lk, lock_eq] at h2; exact h2) | (simp only [choice_lk, lock_eq] at h; exact h)
                                  rw [if_neg (by rw [h1]; exact Bool.false_ne_true)] at hr
                                  (try cbv)
                                  apply Hidden.out
                                  have e := Option.some.inj hr
                                  constructor
                                  refine ⟨_, hF, ?_⟩
                                  (try cbv); (try simp only [choice_lk, lock_eq, and_self, and_true, true_and]); (try first | exact e | exact e.symm | (and_intros <;> first | assumption | rfl | exact Eq.symm (by assumption)))
                      · have h1 : (ile (iadd .i64 (ofN (xlen t1)) (ofN (xlen t2))) (8192 : Int)) = false := by first | exact h | (have h2 := h; simp only [choice_lk, lock_eq] at h2; exact h2) | (simp only [choice_lk, lock_eq] at h; exact h)
                        rw [if_neg (by rw [h1]; exact Bool.false_ne_true)] at hr
                        (try cbv)
                        refine sel_intro (fun h => ?_) (fun h => ?_)
                        · have h1 : (ieq (ofN (xlen t2)) (0 : Int)) = true := by first | exact h | (have h2 := h; simp only [choice_lk, lock_eq] at h2; exact h2) | (simp only [choice_lk, lock_eq] at h; exact h)
                          rw [if_pos h1] at hr
                          (try cbv)
                          apply Hidden.out
                          have e := Option.some.inj hr
                          constructor
                          refine ⟨_, hF, ?_⟩
                          (try cbv); (try simp only [choice_lk, lock_eq, and_self, and_true, true_and]); (try first | exact e | exact e.symm | (and_intros <;> first | assumption | rfl | exact Eq.symm (by assumption)))
                        · have h1 : (ieq (ofN (xlen t2)) (0 : Int)) = false := by first | exact h | (have h2 := h; simp only [choice_lk, lock_eq] at h2; exact h2) | (simp only [choice_lk, lock_eq] at h; exact h)
                          rw [if_neg (by rw [h1]; exact Bool.false_ne_true)] at hr
                          (try cbv)
                          have gg := guard_inv hr
                          have g := gg.1
                          replace hr := gg.2
                          clear gg
                          refine ⟨obl.2 (by first | (simp only [choice_lk, lock_eq, R.len, R.sub]; exact g) | exact g), ?_⟩
                          have hqe : ∃ qq, F_tlv_Get_3 0 (toN (isub .i64 (ofN (xlen t2)) (1 : Int))) t2 = some qq := by
                            cases hq : F_tlv_Get_3 0 (toN (isub .i64 (ofN (xlen t2)) (1 : Int))) t2 with
                            | none => rw [hq] at hr; cases hr
                            | some qq => exact ⟨qq, rfl⟩
                          refine ⟨obl.2 (by simp only [choice_lk, lock_eq]; exact hqe), (by rintro (⟨_, _, _⟩) _ <;> cbv), ?_⟩
                          clear hqe
                          intro qq hx16
                          simp only [choice_lk, lock_eq] at hx16
                          rcases qq with ⟨q8, y12, y13⟩
                          all_goals (rw [hx16] at hr; dsimp only at hr; constructor; (try cbv))
                          refine sel_intro (fun h => ?_) (fun h => ?_)
                          · have h1 : (ieq y12 (10 : Int)) = true := by first | exact h | (have h2 := h; simp only [choice_lk, lock_eq] at h2; exact h2) | (simp only [choice_lk, lock_eq] at h; exact h)
                            rw [if_pos h1] at hr
                            (try cbv)
                            refine sel_intro (fun h => ?_) (fun h => ?_)
                            · have h1 : (ile (0 : Int) y13) = true := by first | exact h | (have h2 := h; simp only [choice_lk, lock_eq] at h2; exact h2) | (simp only [choice_lk, lock_eq] at h; exact h)
                              rw [if_pos h1] at hr
                              (try cbv)
                              apply Hidden.out
                              have e := Option.some.inj hr
                              constructor
                              refine ⟨_, hF, ?_⟩
                              (try cbv); (try simp only [choice_lk, lock_eq, and_self, and_true, true_and]); (try first | exact e | exact e.symm | (and_intros <;> first | assumption | rfl | exact Eq.symm (by assumption)))
                            · have h1 : (ile (0 : Int) y13) = false := by first | exact h | (have h2 := h; simp only [choice_lk, lock_eq] at h2; exact h2) | (simp only [choice_lk, lock_eq] at h; exact h)
                              rw [if_neg (by rw [h1]; exact Bool.false_ne_true)] at hr
                              (try cbv)
                              apply Hidden.out
                              have e := Option.some.inj hr
                              constructor
                              refine ⟨_, hF, ?_⟩
                              (try cbv); (try simp only [choice_lk, lock_eq, and_self, and_true, true_and]); (try first | exact e | exact e.symm | (and_intros <;> first | assumption | rfl | exact Eq.symm (by assumption)))
                          · have h1 : (ieq y12 (10 : Int)) = false := by first | exact h | (have h2 := h; simp only [choice_lk, lock_eq] at h2; exact h2) | (simp only [choice_lk, lock_eq] at h; exact h)
                            rw [if_neg (by rw [h1]; exact Bool.false_ne_true)] at hr
                            (try cbv)
                            apply Hidden.out
                            have e := Option.some.inj hr
                            constructor
                            refine ⟨_, hF, ?_⟩
                            (try cbv); (try simp only [choice_lk, lock_eq, and_self, and_true, true_and]); (try first | exact e | exact e.symm | (and_intros <;> first | assumption | rfl | exact Eq.symm (by assumption)))
end Go.Proofs.Ytknaheioedkaeaa
end
section
/-
  A walk that reckons: from a contract to what a row asks for.
-/
set_option linter.unusedVariables false
set_option linter.unusedSimpArgs false
namespace Go.Proofs.Ytknaheioedkaeaa
open Go.RowKit

/-- A function that but reads what it is given, and answers true. -/
theorem law_calls {P : Program} {f : FuncId} {con : Con} (h : FnOK P f con) {cargs : List SV} {obs : List Prop} {sm : List Bool} (hc : con.f cargs [] = some ⟨obs, .one (.v (.bool true)) [], sm⟩) (hob : ∀ p ∈ obs, p) {W : World} {args : List Value} (hd : DensA (fun _ => none) W (fun _ => False) cargs args) (hG : ∀ g r, (g, r) ∈ globs → Den (fun _ => none) W (fun _ => False) (.rsl r) (.slice (some ⟨g, 0, none⟩) (rlen r) (rlen r)) := by intro g r h; simp [globs] at h) :
    Calls P f args.toArray W fun e W' => e = .returned (.bool true) ∧ Below W.heap.size W W' := by
  have hO : ∀ b, ¬ Own (fun _ => none) (canon 0 ([] : List Ck)) b := by
    rintro b ⟨id, c, p, h1, h2, h3⟩
    cases h2
  have hS : HSat (ctxOf W (fun _ => False) (fun _ => none) []) (fun _ => none) (canon 0 []) (fun i => ([] : List Ck).length ≤ i) W := by
    refine ⟨fun id c hc => by simp [canon, hget] at hc, fun i j c d p q b h1 => by simp [canon, hget] at h1, fun b hb => absurd hb (hO b), rfl, rfl, rfl, Nat.le_refl _, fun _ _ _ => rfl, ⟨fun b hb => hb.elim, fun g r hg => (hG g r hg).mono (fun _ _ h => h) (Nat.le_refl _) (fun _ _ _ => rfl) (fun b _ hb => by rcases hb with hz | ho; exact hz; exact hO b ho)⟩, fun _ _ => rfl, fun id hid => rfl⟩
  have hA : Avo (ctxOf W (fun _ => False) (fun _ => none) []) (fun _ => none) (canon 0 []) = fun _ => False := by
    funext b
    simp only [Avo, ctxOf, false_or, eq_iff_iff, iff_false]
    exact hO b
  have key := h cargs [] _ hc hob (fun _ => False) (fun _ => none) W args hS (by rw [hA]; exact hd)
  refine key.mono ?_
  rintro e W' ⟨u, PL', rfl, H, D⟩
  cases D
  refine ⟨rfl, ?_⟩
  exact ⟨H.os, H.tape, H.output, H.size, fun k hk => H.old k hk (hO k)⟩

/-- The same, by a contract that leaves open what it yields. -/
theorem law_many {P : Program} {f : FuncId} {con : Con} (h : FnOK P f con) {cargs : List SV} {obs : List Prop} {X : Type} {Pr : X → Prop} {v : X → SV} {post : X → List PostC} {sm : List Bool} (hc : con.f cargs [] = some ⟨obs, .many X Pr v post, sm⟩) (hob : ∀ p ∈ obs, p) (hv : ∀ x, Pr x → v x = .v (.bool true) ∧ post x = []) {W : World} {args : List Value} (hd : DensA (fun _ => none) W (fun _ => False) cargs args) (hG : ∀ g r, (g, r) ∈ globs → Den (fun _ => none) W (fun _ => False) (.rsl r) (.slice (some ⟨g, 0, none⟩) (rlen r) (rlen r)) := by intro g r h; simp [globs] at h) :
    Calls P f args.toArray W fun e W' => e = .returned (.bool true) ∧ Below W.heap.size W W' := by
  have hO : ∀ b, ¬ Own (fun _ => none) (canon 0 ([] : List Ck)) b := by
    rintro b ⟨id, c, p, h1, h2, h3⟩
    cases h2
  have hS : HSat (ctxOf W (fun _ => False) (fun _ => none) []) (fun _ => none) (canon 0 []) (fun i => ([] : List Ck).length ≤ i) W := by
    refine ⟨fun id c hc => by simp [canon, hget] at hc, fun i j c d p q b h1 => by simp [canon, hget] at h1, fun b hb => absurd hb (hO b), rfl, rfl, rfl, Nat.le_refl _, fun _ _ _ => rfl, ⟨fun b hb => hb.elim, fun g r hg => (hG g r hg).mono (fun _ _ h => h) (Nat.le_refl _) (fun _ _ _ => rfl) (fun b _ hb => by rcases hb with hz | ho; exact hz; exact hO b ho)⟩, fun _ _ => rfl, fun id hid => rfl⟩
  have hA : Avo (ctxOf W (fun _ => False) (fun _ => none) []) (fun _ => none) (canon 0 []) = fun _ => False := by
    funext b
    simp only [Avo, ctxOf, false_or, eq_iff_iff, iff_false]
    exact hO b
  have key := h cargs [] _ hc hob (fun _ => False) (fun _ => none) W args hS (by rw [hA]; exact hd)
  refine key.mono ?_
  rintro e W' ⟨u, PL', rfl, x, hx, H, D⟩
  obtain ⟨e1, e2⟩ := hv x hx
  rw [e1] at D
  cases D
  refine ⟨rfl, ?_⟩
  exact ⟨H.os, H.tape, H.output, H.size, fun k hk => H.old k hk (hO k)⟩
theorem densA_nil {PL : Nat → Option Pl} {w : World} {Av : Nat → Prop} : DensA PL w Av [] [] := ⟨rfl, fun j h1 _ => absurd h1 (by simp)⟩
theorem densA_cons {PL : Nat → Option Pl} {w : World} {Av : Nat → Prop} {x : SV} {l : List SV} {c : Value} {cs : List Value} (h : Den PL w Av x c) (k : DensA PL w Av l cs) : DensA PL w Av (x :: l) (c :: cs) :=
  ⟨by simp [k.1], fun j h1 h2 => by
    cases j with
    | zero => exact h
    | succ j => exact k.2 j (by simpa using h1) (by simpa using h2)⟩
theorem den_str {PL : Nat → Option Pl} {w : World} {Av : Nat → Prop} (b : ByteArray) : Den PL w Av (.str b.data.toList) (.string b) := by
  have := Den.str (PL := PL) (w := w) (Av := Av) b.data.toList
  simpa using this
end Go.Proofs.Ytknaheioedkaeaa
end
section
/-
  The walks of the functions that tollbar/tollbarlaw03.TlvBack reaches, tied to the program (printed by a program of ours).
-/
set_option linter.unusedVariables false
set_option linter.unusedSimpArgs false
namespace Go.Proofs.Ytknaheioedkaeaa
open Go.RowKit

theorem mixed : Try.prog.follows .mixedOrders = true := by kernel_rfl
theorem tabok_tlv_Item_odd : Tab Try.prog tab_tlv_Item_odd := Tab.nil _
theorem ok_tlv_Item_odd : FnOK Try.prog 31 con_tlv_Item_odd := FnOK.of tabok_tlv_Item_odd mixed Try.func31 comp_31 (vc_tlv_Item_odd _ tabok_tlv_Item_odd mixed)
theorem tabok_tlv_rightG (gn : Nat) (h : FnOK Try.prog 23 (con_tlv_rightG gn)) : Tab Try.prog (tab_tlv_rightG gn) := Tab.cons (Tab.cons (Tab.nil _) ok_tlv_Item_odd Try.func31 rfl rfl) h Try.func23 rfl rfl
theorem okG_tlv_right : ∀ gn : Nat, FnOK Try.prog 23 (con_tlv_rightG gn)
  | 0 => fun cargs ccks ce hce hob => by
    exfalso
    replace hce : con_tlv_rightG_1 0 cargs ccks = some ce := hce
    unfold con_tlv_rightG_1 at hce
    split at hce
    rotate_left
    · cases hce
    obtain rfl := Option.some.inj hce
    obtain ⟨r, hr⟩ := obl.1 (hob _ (List.mem_singleton.2 rfl))
    rw [lock_eq] at hr
    cases hr
  | gn + 1 => FnOK.of (tabok_tlv_rightG gn (okG_tlv_right gn)) mixed Try.func23 comp_23 (vc_tlv_rightG _ gn (tabok_tlv_rightG gn (okG_tlv_right gn)) mixed)
theorem ok_tlv_right : FnOK Try.prog 23 con_tlv_right := FnOK.fix okG_tlv_right fun cargs ccks ce hce hob => by
  replace hce : con_tlv_right_1 cargs ccks = some ce := hce
  unfold con_tlv_right_1 at hce
  split at hce
  rotate_left
  · cases hce
  obtain rfl := Option.some.inj hce
  obtain ⟨r, hr⟩ := obl.1 (hob _ (List.mem_singleton.2 rfl))
  rw [lock_eq] at hr
  obtain ⟨gn, hn⟩ := fixo_ex hr
  refine ⟨gn, _, rfl, fun p hp => ?_, ?_⟩
  · obtain rfl := List.mem_singleton.1 hp
    exact obl.2 ⟨r, by rw [lock_eq]; exact hn⟩
  · rintro Q ⟨u, hu, H⟩
    rw [lock_eq] at hu
    exact ⟨u, by rw [lock_eq]; exact hr.trans (hn.symm.trans hu), H⟩
theorem tabok_tlv_Item_innerG (gn : Nat) (h : FnOK Try.prog 15 (con_tlv_SizeG gn)) : Tab Try.prog (tab_tlv_Item_innerG gn) := Tab.cons (Tab.cons (Tab.nil _) ok_tlv_Item_odd Try.func31 rfl rfl) h Try.func15 rfl rfl
theorem okG_tlv_Item_inner (gn : Nat) (h : FnOK Try.prog 15 (con_tlv_SizeG gn)) : FnOK Try.prog 22 (con_tlv_Item_innerG gn) := FnOK.of (tabok_tlv_Item_innerG gn h) mixed Try.func22 comp_22 (vc_tlv_Item_innerG _ gn (tabok_tlv_Item_innerG gn h) mixed)
theorem tabok_varint_groups : Tab Try.prog tab_varint_groups := Tab.nil _
theorem ok_varint_groups : FnOK Try.prog 30 con_varint_groups := FnOK.of tabok_varint_groups mixed Try.func30 comp_30 (vc_varint_groups _ tabok_varint_groups mixed)
theorem tabok_varint_Len : Tab Try.prog tab_varint_Len := Tab.cons (Tab.nil _) ok_varint_groups Try.func30 rfl rfl
theorem ok_varint_Len : FnOK Try.prog 25 con_varint_Len := FnOK.of tabok_varint_Len mixed Try.func25 comp_25 (vc_varint_Len _ tabok_varint_Len mixed (ItOK.of Try.func39 comp_39 rfl rfl))
theorem tabok_tlv_SizeG (gn : Nat) (h : FnOK Try.prog 15 (con_tlv_SizeG gn)) : Tab Try.prog (tab_tlv_SizeG gn) := Tab.cons (Tab.cons (Tab.cons (Tab.nil _) ok_varint_Len Try.func25 rfl rfl) (okG_tlv_Item_inner gn h) Try.func22 rfl rfl) h Try.func15 rfl rfl
theorem okG_tlv_Size : ∀ gn : Nat, FnOK Try.prog 15 (con_tlv_SizeG gn)
  | 0 => fun cargs ccks ce hce hob => by
    exfalso
    replace hce : con_tlv_SizeG_1 0 cargs ccks = some ce := hce
    unfold con_tlv_SizeG_1 at hce
    split at hce
    rotate_left
    · cases hce
    obtain rfl := Option.some.inj hce
    obtain ⟨r, hr⟩ := obl.1 (hob _ (List.mem_singleton.2 rfl))
    rw [lock_eq] at hr
    cases hr
  | gn + 1 => FnOK.of (tabok_tlv_SizeG gn (okG_tlv_Size gn)) mixed Try.func15 comp_15 (vc_tlv_SizeG _ gn (tabok_tlv_SizeG gn (okG_tlv_Size gn)) mixed)
theorem ok_tlv_Size : FnOK Try.prog 15 con_tlv_Size := FnOK.fix okG_tlv_Size fun cargs ccks ce hce hob => by
  replace hce : con_tlv_Size_1 cargs ccks = some ce := hce
  unfold con_tlv_Size_1 at hce
  split at hce
  rotate_left
  · cases hce
  obtain rfl := Option.some.inj hce
  obtain ⟨r, hr⟩ := obl.1 (hob _ (List.mem_singleton.2 rfl))
  rw [lock_eq] at hr
  obtain ⟨gn, hn⟩ := fixo_ex hr
  refine ⟨gn, _, rfl, fun p hp => ?_, ?_⟩
  · obtain rfl := List.mem_singleton.1 hp
    exact obl.2 ⟨r, by rw [lock_eq]; exact hn⟩
  · rintro Q ⟨u, hu, H⟩
    rw [lock_eq] at hu
    exact ⟨u, by rw [lock_eq]; exact hr.trans (hn.symm.trans hu), H⟩
theorem ok_tlv_Item_inner : FnOK Try.prog 22 con_tlv_Item_inner := FnOK.fix (fun gn => okG_tlv_Item_inner gn (okG_tlv_Size gn)) fun cargs ccks ce hce hob => by
  replace hce : con_tlv_Item_inner_1 cargs ccks = some ce := hce
  unfold con_tlv_Item_inner_1 at hce
  split at hce
  rotate_left
  · cases hce
  obtain rfl := Option.some.inj hce
  obtain ⟨r, hr⟩ := obl.1 (hob _ (List.mem_singleton.2 rfl))
  rw [lock_eq] at hr
  obtain ⟨gn, hn⟩ := fixo_ex hr
  refine ⟨gn, _, rfl, fun p hp => ?_, ?_⟩
  · obtain rfl := List.mem_singleton.1 hp
    exact obl.2 ⟨r, by rw [lock_eq]; exact hn⟩
  · rintro Q ⟨u, hu, H⟩
    rw [lock_eq] at hu
    exact ⟨u, by rw [lock_eq]; exact hr.trans (hn.symm.trans hu), H⟩
theorem tabok_tlv_Check : Tab Try.prog tab_tlv_Check := Tab.cons (Tab.cons (Tab.nil _) ok_tlv_Size Try.func15 rfl rfl) ok_tlv_right Try.func23 rfl rfl
theorem ok_tlv_Check : FnOK Try.prog 13 con_tlv_Check := FnOK.of tabok_tlv_Check mixed Try.func13 comp_13 (vc_tlv_Check _ tabok_tlv_Check mixed)
theorem tabok_varint_Put : Tab Try.prog tab_varint_Put := Tab.cons (Tab.nil _) ok_varint_groups Try.func30 rfl rfl
theorem ok_varint_Put : FnOK Try.prog 21 con_varint_Put := FnOK.of tabok_varint_Put mixed Try.func21 comp_21 (vc_varint_Put _ tabok_varint_Put mixed (ItOK.of Try.func39 comp_39 rfl rfl))
theorem tabok_tlv_PutinG (gn : Nat) (h : FnOK Try.prog 20 (con_tlv_PutinG gn)) : Tab Try.prog (tab_tlv_PutinG gn) := Tab.cons (Tab.cons (Tab.cons (Tab.nil _) ok_tlv_Item_inner Try.func22 rfl rfl) ok_varint_Put Try.func21 rfl rfl) h Try.func20 rfl rfl
theorem okG_tlv_Putin : ∀ gn : Nat, FnOK Try.prog 20 (con_tlv_PutinG gn)
  | 0 => fun cargs ccks ce hce hob => by
    exfalso
    replace hce : con_tlv_PutinG_2 0 cargs ccks = some ce := hce
    unfold con_tlv_PutinG_2 at hce
    split at hce
    rotate_left
    · cases hce
    obtain rfl := Option.some.inj hce
    obtain ⟨r, hr⟩ := obl.1 (hob _ (List.mem_singleton.2 rfl))
    rw [lock_eq] at hr
    cases hr
  | gn + 1 => FnOK.of (tabok_tlv_PutinG gn (okG_tlv_Putin gn)) mixed Try.func20 comp_20 (vc_tlv_PutinG _ gn (tabok_tlv_PutinG gn (okG_tlv_Putin gn)) mixed)
theorem ok_tlv_PutinR : FnOK Try.prog 20 con_tlv_PutinR := FnOK.fix okG_tlv_Putin fun cargs ccks ce hce hob => by
  replace hce : con_tlv_Putin_2 cargs ccks = some ce := hce
  unfold con_tlv_Putin_2 at hce
  split at hce
  rotate_left
  · cases hce
  obtain rfl := Option.some.inj hce
  obtain ⟨r, hr⟩ := obl.1 (hob _ (List.mem_singleton.2 rfl))
  rw [lock_eq] at hr
  obtain ⟨gn, hn⟩ := fixo_ex hr
  refine ⟨gn, _, rfl, fun p hp => ?_, ?_⟩
  · obtain rfl := List.mem_singleton.1 hp
    exact obl.2 ⟨r, by rw [lock_eq]; exact hn⟩
  · rintro Q ⟨u, hu, H⟩
    rw [lock_eq] at hu
    exact ⟨u, by rw [lock_eq]; exact hr.trans (hn.symm.trans hu), H⟩
theorem tabok_tlv_PutinN : Tab Try.prog tab_tlv_PutinN := Tab.cons (Tab.cons (Tab.cons (Tab.nil _) ok_tlv_PutinR Try.func20 rfl rfl) ok_tlv_Item_inner Try.func22 rfl rfl) ok_varint_Put Try.func21 rfl rfl
theorem ok_tlv_PutinN : FnOK Try.prog 20 con_tlv_PutinN := FnOK.of tabok_tlv_PutinN mixed Try.func20 comp_20 (vc_tlv_PutinN _ tabok_tlv_PutinN mixed)
theorem ok_tlv_Putin : FnOK Try.prog 20 con_tlv_Putin := FnOK.alt ok_tlv_PutinN ok_tlv_PutinR
theorem tabok_tlv_Put : Tab Try.prog tab_tlv_Put := Tab.cons (Tab.cons (Tab.nil _) ok_tlv_Putin Try.func20 rfl rfl) ok_tlv_Check Try.func13 rfl rfl
theorem ok_tlv_Put : FnOK Try.prog 11 con_tlv_Put := FnOK.of tabok_tlv_Put mixed Try.func11 comp_11 (vc_tlv_Put _ tabok_tlv_Put mixed)
theorem tabok_slices_Clone : Tab Try.prog tab_slices_Clone := Tab.nil _
theorem ok_slices_Clone : FnOK Try.prog 37 con_slices_Clone := FnOK.of tabok_slices_Clone mixed Try.func37 comp_37 (vc_slices_Clone _ tabok_slices_Clone mixed)
theorem tabok_octet_Open : Tab Try.prog tab_octet_Open := Tab.cons (Tab.nil _) ok_slices_Clone Try.func37 rfl rfl
theorem ok_octet_Open : FnOK Try.prog 28 con_octet_Open := FnOK.of tabok_octet_Open mixed Try.func28 comp_28 (vc_octet_Open _ tabok_octet_Open mixed)
theorem tabok_octet_Window_Left : Tab Try.prog tab_octet_Window_Left := Tab.nil _
theorem ok_octet_Window_Left : FnOK Try.prog 32 con_octet_Window_Left := FnOK.of tabok_octet_Window_Left mixed Try.func32 comp_32 (vc_octet_Window_Left _ tabok_octet_Window_Left mixed)
theorem tabok_octet_Window_Err : Tab Try.prog tab_octet_Window_Err := Tab.nil _
theorem ok_octet_Window_Err : FnOK Try.prog 40 con_octet_Window_Err := FnOK.of tabok_octet_Window_Err mixed Try.func40 comp_40 (vc_octet_Window_Err _ tabok_octet_Window_Err mixed)
theorem tabok_octet_Window_fail : Tab Try.prog tab_octet_Window_fail := Tab.nil _
theorem ok_octet_Window_fail : FnOK Try.prog 43 con_octet_Window_fail := FnOK.of tabok_octet_Window_fail mixed Try.func43 comp_43 (vc_octet_Window_fail _ tabok_octet_Window_fail mixed)
theorem tabok_octet_Window_Bytes : Tab Try.prog tab_octet_Window_Bytes := Tab.cons (Tab.nil _) ok_octet_Window_fail Try.func43 rfl rfl
theorem ok_octet_Window_Bytes : FnOK Try.prog 36 con_octet_Window_Bytes := FnOK.of tabok_octet_Window_Bytes mixed Try.func36 comp_36 (vc_octet_Window_Bytes _ tabok_octet_Window_Bytes mixed)
theorem tabok_octet_Value : Tab Try.prog tab_octet_Value := Tab.nil _
theorem ok_octet_Value : FnOK Try.prog 45 con_octet_Value := FnOK.of tabok_octet_Value mixed Try.func45 comp_45 (vc_octet_Value _ tabok_octet_Value mixed)
theorem tabok_octet_Window_Num : Tab Try.prog tab_octet_Window_Num := Tab.cons (Tab.cons (Tab.cons (Tab.nil _) ok_octet_Value Try.func45 rfl rfl) ok_octet_Window_Bytes Try.func36 rfl rfl) ok_octet_Window_fail Try.func43 rfl rfl
theorem ok_octet_Window_Num : FnOK Try.prog 44 con_octet_Window_Num := FnOK.of tabok_octet_Window_Num mixed Try.func44 comp_44 (vc_octet_Window_Num _ tabok_octet_Window_Num mixed)
theorem tabok_octet_Window_Byte : Tab Try.prog tab_octet_Window_Byte := Tab.cons (Tab.nil _) ok_octet_Window_Num Try.func44 rfl rfl
theorem ok_octet_Window_Byte : FnOK Try.prog 41 con_octet_Window_Byte := FnOK.of tabok_octet_Window_Byte mixed Try.func41 comp_41 (vc_octet_Window_Byte _ tabok_octet_Window_Byte mixed)
theorem tabok_varint_Get : Tab Try.prog tab_varint_Get := Tab.nil _
theorem ok_varint_Get : FnOK Try.prog 42 con_varint_Get := FnOK.of tabok_varint_Get mixed Try.func42 comp_42 (vc_varint_Get _ tabok_varint_Get mixed)
theorem tabok_varint_Take : Tab Try.prog tab_varint_Take := Tab.cons (Tab.cons (Tab.cons (Tab.cons (Tab.cons (Tab.nil _) ok_octet_Window_Bytes Try.func36 rfl rfl) ok_varint_Get Try.func42 rfl rfl) ok_octet_Window_Byte Try.func41 rfl rfl) ok_octet_Window_Left Try.func32 rfl rfl) ok_octet_Window_Err Try.func40 rfl rfl
theorem ok_varint_Take : FnOK Try.prog 33 con_varint_Take := FnOK.of tabok_varint_Take mixed Try.func33 comp_33 (vc_varint_Take _ tabok_varint_Take mixed)
theorem tabok_tlv_reader_fail : Tab Try.prog tab_tlv_reader_fail := Tab.nil _
theorem ok_tlv_reader_fail : FnOK Try.prog 34 con_tlv_reader_fail := FnOK.of tabok_tlv_reader_fail mixed Try.func34 comp_34 (vc_tlv_reader_fail _ tabok_tlv_reader_fail mixed)
theorem tabok_octet_Window_Sub : Tab Try.prog tab_octet_Window_Sub := Tab.cons (Tab.cons (Tab.nil _) ok_octet_Window_Err Try.func40 rfl rfl) ok_octet_Window_Bytes Try.func36 rfl rfl
theorem ok_octet_Window_Sub : FnOK Try.prog 35 con_octet_Window_Sub := FnOK.of tabok_octet_Window_Sub mixed Try.func35 comp_35 (vc_octet_Window_Sub _ tabok_octet_Window_Sub mixed)
theorem tabok_tlv_reader_itemsG (gn : Nat) (h : FnOK Try.prog 27 (con_tlv_reader_itemsG gn)) : Tab Try.prog (tab_tlv_reader_itemsG gn) := Tab.cons (Tab.cons (Tab.cons (Tab.cons (Tab.cons (Tab.cons (Tab.cons (Tab.nil _) ok_octet_Window_Bytes Try.func36 rfl rfl) ok_octet_Window_Sub Try.func35 rfl rfl) ok_tlv_Item_odd Try.func31 rfl rfl) ok_tlv_reader_fail Try.func34 rfl rfl) ok_varint_Take Try.func33 rfl rfl) ok_octet_Window_Left Try.func32 rfl rfl) h Try.func27 rfl rfl
theorem okG_tlv_reader_items : ∀ gn : Nat, FnOK Try.prog 27 (con_tlv_reader_itemsG gn)
  | 0 => fun cargs ccks ce hce hob => by
    exfalso
    replace hce : con_tlv_reader_itemsG_1 0 cargs ccks = some ce := hce
    unfold con_tlv_reader_itemsG_1 at hce
    split at hce
    rotate_left
    · cases hce
    obtain rfl := Option.some.inj hce
    obtain ⟨r, hr⟩ := obl.1 (hob _ (List.mem_singleton.2 rfl))
    rw [lock_eq] at hr
    cases hr
  | gn + 1 => FnOK.of (tabok_tlv_reader_itemsG gn (okG_tlv_reader_items gn)) mixed Try.func27 comp_27 (vc_tlv_reader_itemsG _ gn (tabok_tlv_reader_itemsG gn (okG_tlv_reader_items gn)) mixed)
theorem ok_tlv_reader_items : FnOK Try.prog 27 con_tlv_reader_items := FnOK.fix okG_tlv_reader_items fun cargs ccks ce hce hob => by
  replace hce : con_tlv_reader_items_1 cargs ccks = some ce := hce
  unfold con_tlv_reader_items_1 at hce
  split at hce
  rotate_left
  · cases hce
  obtain rfl := Option.some.inj hce
  obtain ⟨r, hr⟩ := obl.1 (hob _ (List.mem_singleton.2 rfl))
  rw [lock_eq] at hr
  obtain ⟨gn, hn⟩ := fixo_ex hr
  refine ⟨gn, _, rfl, fun p hp => ?_, ?_⟩
  · obtain rfl := List.mem_singleton.1 hp
    exact obl.2 ⟨r, by rw [lock_eq]; exact hn⟩
  · rintro Q ⟨u, hu, H⟩
    rw [lock_eq] at hu
    exact ⟨u, by rw [lock_eq]; exact hr.trans (hn.symm.trans hu), H⟩
theorem tabok_tlv_Get : Tab Try.prog tab_tlv_Get := Tab.cons (Tab.cons (Tab.nil _) ok_tlv_reader_items Try.func27 rfl rfl) ok_octet_Open Try.func28 rfl rfl
theorem ok_tlv_Get : FnOK Try.prog 17 con_tlv_Get := FnOK.of tabok_tlv_Get mixed Try.func17 comp_17 (vc_tlv_Get _ tabok_tlv_Get mixed)
theorem tabok_tollbarlaw03_awake : Tab Try.prog tab_tollbarlaw03_awake := Tab.cons (Tab.cons (Tab.cons (Tab.cons (Tab.nil _) ok_tlv_Size Try.func15 rfl rfl) ok_tlv_Check Try.func13 rfl rfl) ok_tlv_Get Try.func17 rfl rfl) ok_tlv_Put Try.func11 rfl rfl
theorem ok_tollbarlaw03_awake : FnOK Try.prog 8 con_tollbarlaw03_awake := FnOK.of tabok_tollbarlaw03_awake mixed Try.func8 comp_8 (vc_tollbarlaw03_awake _ tabok_tollbarlaw03_awake mixed)
theorem tabok_tollbarlaw03_manyG (gn : Nat) (h : FnOK Try.prog 9 (con_tollbarlaw03_manyG gn)) : Tab Try.prog (tab_tollbarlaw03_manyG gn) := Tab.cons (Tab.nil _) h Try.func9 rfl rfl
theorem okG_tollbarlaw03_many : ∀ gn : Nat, FnOK Try.prog 9 (con_tollbarlaw03_manyG gn)
  | 0 => fun cargs ccks ce hce hob => by
    exfalso
    replace hce : con_tollbarlaw03_manyG_1 0 cargs ccks = some ce := hce
    unfold con_tollbarlaw03_manyG_1 at hce
    split at hce
    rotate_left
    · cases hce
    obtain rfl := Option.some.inj hce
    obtain ⟨r, hr⟩ := obl.1 (hob _ (List.mem_singleton.2 rfl))
    rw [lock_eq] at hr
    cases hr
  | gn + 1 => FnOK.of (tabok_tollbarlaw03_manyG gn (okG_tollbarlaw03_many gn)) mixed Try.func9 comp_9 (vc_tollbarlaw03_manyG _ gn (tabok_tollbarlaw03_manyG gn (okG_tollbarlaw03_many gn)) mixed)
theorem ok_tollbarlaw03_many : FnOK Try.prog 9 con_tollbarlaw03_many := FnOK.fix okG_tollbarlaw03_many fun cargs ccks ce hce hob => by
  replace hce : con_tollbarlaw03_many_1 cargs ccks = some ce := hce
  unfold con_tollbarlaw03_many_1 at hce
  split at hce
  rotate_left
  · cases hce
  obtain rfl := Option.some.inj hce
  obtain ⟨r, hr⟩ := obl.1 (hob _ (List.mem_singleton.2 rfl))
  rw [lock_eq] at hr
  obtain ⟨gn, hn⟩ := fixo_ex hr
  refine ⟨gn, _, rfl, fun p hp => ?_, ?_⟩
  · obtain rfl := List.mem_singleton.1 hp
    exact obl.2 ⟨r, by rw [lock_eq]; exact hn⟩
  · rintro Q ⟨u, hu, H⟩
    rw [lock_eq] at hu
    exact ⟨u, by rw [lock_eq]; exact hr.trans (hn.symm.trans hu), H⟩
theorem tabok_tollbarlaw03_plainG (gn : Nat) (h : FnOK Try.prog 10 (con_tollbarlaw03_plainG gn)) : Tab Try.prog (tab_tollbarlaw03_plainG gn) := Tab.cons (Tab.nil _) h Try.func10 rfl rfl
theorem okG_tollbarlaw03_plain : ∀ gn : Nat, FnOK Try.prog 10 (con_tollbarlaw03_plainG gn)
  | 0 => fun cargs ccks ce hce hob => by
    exfalso
    replace hce : con_tollbarlaw03_plainG_1 0 cargs ccks = some ce := hce
    unfold con_tollbarlaw03_plainG_1 at hce
    split at hce
    rotate_left
    · cases hce
    obtain rfl := Option.some.inj hce
    obtain ⟨r, hr⟩ := obl.1 (hob _ (List.mem_singleton.2 rfl))
    rw [lock_eq] at hr
    cases hr
  | gn + 1 => FnOK.of (tabok_tollbarlaw03_plainG gn (okG_tollbarlaw03_plain gn)) mixed Try.func10 comp_10 (vc_tollbarlaw03_plainG _ gn (tabok_tollbarlaw03_plainG gn (okG_tollbarlaw03_plain gn)) mixed)
theorem ok_tollbarlaw03_plain : FnOK Try.prog 10 con_tollbarlaw03_plain := FnOK.fix okG_tollbarlaw03_plain fun cargs ccks ce hce hob => by
  replace hce : con_tollbarlaw03_plain_1 cargs ccks = some ce := hce
  unfold con_tollbarlaw03_plain_1 at hce
  split at hce
  rotate_left
  · cases hce
  obtain rfl := Option.some.inj hce
  obtain ⟨r, hr⟩ := obl.1 (hob _ (List.mem_singleton.2 rfl))
  rw [lock_eq] at hr
  obtain ⟨gn, hn⟩ := fixo_ex hr
  refine ⟨gn, _, rfl, fun p hp => ?_, ?_⟩
  · obtain rfl := List.mem_singleton.1 hp
    exact obl.2 ⟨r, by rw [lock_eq]; exact hn⟩
  · rintro Q ⟨u, hu, H⟩
    rw [lock_eq] at hu
    exact ⟨u, by rw [lock_eq]; exact hr.trans (hn.symm.trans hu), H⟩
theorem tabok_tollbarref03_SameG (gn : Nat) (h : FnOK Try.prog 19 (con_tollbarref03_SameG gn)) : Tab Try.prog (tab_tollbarref03_SameG gn) := Tab.cons (Tab.nil _) h Try.func19 rfl rfl
theorem okG_tollbarref03_Same : ∀ gn : Nat, FnOK Try.prog 19 (con_tollbarref03_SameG gn)
  | 0 => fun cargs ccks ce hce hob => by
    exfalso
    replace hce : con_tollbarref03_SameG_1 0 cargs ccks = some ce := hce
    unfold con_tollbarref03_SameG_1 at hce
    split at hce
    rotate_left
    · cases hce
    obtain rfl := Option.some.inj hce
    obtain ⟨r, hr⟩ := obl.1 (hob _ (List.mem_singleton.2 rfl))
    rw [lock_eq] at hr
    cases hr
  | gn + 1 => FnOK.of (tabok_tollbarref03_SameG gn (okG_tollbarref03_Same gn)) mixed Try.func19 comp_19 (vc_tollbarref03_SameG _ gn (tabok_tollbarref03_SameG gn (okG_tollbarref03_Same gn)) mixed)
theorem ok_tollbarref03_Same : FnOK Try.prog 19 con_tollbarref03_Same := FnOK.fix okG_tollbarref03_Same fun cargs ccks ce hce hob => by
  replace hce : con_tollbarref03_Same_1 cargs ccks = some ce := hce
  unfold con_tollbarref03_Same_1 at hce
  split at hce
  rotate_left
  · cases hce
  obtain rfl := Option.some.inj hce
  obtain ⟨r, hr⟩ := obl.1 (hob _ (List.mem_singleton.2 rfl))
  rw [lock_eq] at hr
  obtain ⟨gn, hn⟩ := fixo_ex hr
  refine ⟨gn, _, rfl, fun p hp => ?_, ?_⟩
  · obtain rfl := List.mem_singleton.1 hp
    exact obl.2 ⟨r, by rw [lock_eq]; exact hn⟩
  · rintro Q ⟨u, hu, H⟩
    rw [lock_eq] at hu
    exact ⟨u, by rw [lock_eq]; exact hr.trans (hn.symm.trans hu), H⟩
theorem tabok_tollbarlaw03_TlvBack : Tab Try.prog tab_tollbarlaw03_TlvBack := Tab.cons (Tab.cons (Tab.cons (Tab.cons (Tab.cons (Tab.cons (Tab.cons (Tab.nil _) ok_tlv_Size Try.func15 rfl rfl) ok_tollbarref03_Same Try.func19 rfl rfl) ok_tollbarlaw03_plain Try.func10 rfl rfl) ok_tlv_Get Try.func17 rfl rfl) ok_tlv_Put Try.func11 rfl rfl) ok_tollbarlaw03_many Try.func9 rfl rfl) ok_tollbarlaw03_awake Try.func8 rfl rfl
theorem ok_tollbarlaw03_TlvBack : FnOK Try.prog 5 con_tollbarlaw03_TlvBack := FnOK.of tabok_tollbarlaw03_TlvBack mixed Try.func5 comp_5 (vc_tollbarlaw03_TlvBack _ tabok_tollbarlaw03_TlvBack mixed)

end Go.Proofs.Ytknaheioedkaeaa
end
section
/-
  A walk that reckons: arguments of any shape, opened.
-/
set_option linter.unusedVariables false
set_option linter.unusedSimpArgs false
namespace Go.Proofs.Ytknaheioedkaeaa
open Go.RowKit Go.ChangeShapes Go.WideShapes Go.Deep

mutual
/-- What is known of data that came in: its numbers fit. -/
def Ty.rng : Ty → D → Prop
  | .int k, d => (Lit.int k d.toI).wf = true
  | .bool, _ => True
  | .str, d => d.toS.length ≤ maxLen
  | .bytes _, d => d.toS.length ≤ maxLen
  | .ints _ k, d => d.toIs.length ≤ maxLen ∧ ∀ x ∈ d.toIs, (Lit.int k x).wf = true
  | .row _ e, d => d.toL.length ≤ maxLen ∧ ∀ x ∈ d.toL, e.rng x
  | .st fs, d => Ty.rngL fs d 0
  | .self _, _ => True
  | .u8s _, _ => True
def Ty.rngL : List Ty → D → Nat → Prop
  | [], _, _ => True
  | t :: ts, d, j => t.rng (d.fld j) ∧ Ty.rngL ts d (j + 1)
end

mutual
/-- Is a type of the program of this kind? -/
def tyChk (P : Program) : Ty → TypeId → Bool
  | .int k, t => match P.underlying t with | some (.int j) => j == k | _ => false
  | .bool, t => match P.underlying t with | some .bool => true | _ => false
  | .str, t => match P.underlying t with | some .string => true | _ => false
  | .bytes T, t => match P.underlying t, P.underlying T with | some (.slice e), some (.int .u8) => Nat.beq e T && Nat.beq (P.cellsOf T) 1 | _, _ => false
  | .ints T k, t => match P.underlying t, P.underlying T with | some (.slice e), some (.int j) => Nat.beq e T && Nat.beq (P.cellsOf T) 1 && j == k | _, _ => false
  | .row T e, t => match P.underlying t with | some (.slice e') => Nat.beq e' T && Nat.beq (P.cellsOf T) e.size && Nat.ble 1 e.size && tyChk P e T | _ => false
  | .st es, t => match P.underlying t with | some (.struct fl) => Nat.beq (P.cellsOf t) (Ty.sizes es) && tysChk P es fl.toList 0 | _ => false
  | .self _, _ => false
  | .u8s _, _ => false
def tysChk (P : Program) : List Ty → List Field → Nat → Bool
  | [], [], _ => true
  | e :: es, f :: fl, o => Nat.beq f.offset o && Nat.beq (P.cellsOf f.type) e.size && tyChk P e f.type && tysChk P es fl (o + e.size)
  | _, _, _ => false
end

section
variable {H : Type} {enc : TypeId × Value → H} {P : Program} {w : World} {base : Nat} {spare : Nat → Bool} {held : Bool}
def PN : Nat → Option Pl := fun _ => none
def AN : Nat → Prop := fun _ => False
/-- A row whose elements are opened. -/
theorem open_row {r : R} {a : Addr} {len cap : Nat} (hr : rlen r = len) (hl : len ≤ cap) (hsz : 0 < r.sz) (hrow : ∀ i, i < len → ∃ cs, cs.length = r.sz ∧ (∀ j, j < r.sz → w.cell? (a.add (i * r.sz + j)) = cs[j]?) ∧ Dens PN w AN (r.elem i) cs) :
    Den PN w AN (.rsl r) (.slice (some a) len cap) := by
  subst hr
  have : ∀ i, ∃ cs : List Value, i < rlen r → cs.length = r.sz ∧ (∀ j, j < r.sz → w.cell? (a.add (i * r.sz + j)) = cs[j]?) ∧ Dens PN w AN (r.elem i) cs := fun i => by
    by_cases h : i < rlen r
    · obtain ⟨cs, h⟩ := hrow i h; exact ⟨cs, fun _ => h⟩
    · exact ⟨[], fun h' => absurd h' h⟩
  obtain ⟨f, hf⟩ := Classical.axiomOfChoice this
  refine .rsl r (some a) cap (fun i j => ((f i)[j]?).getD undef) hl ?_ ?_ ?_
  · intro h0
    obtain ⟨h1, h2, h3⟩ := hf 0 h0
    have hc := h2 0 hsz
    rw [Nat.zero_mul, Nat.zero_add, List.getElem?_eq_getElem (by omega)] at hc
    refine ⟨a, rfl, ?_, fun h => h⟩
    have := World.block_lt_of_cell? w _ hc
    rwa [add_block] at this
  · intro i j ad e hi hj
    injection e with e; subst e
    obtain ⟨h1, h2, h3⟩ := hf i hi
    have hjl : j < (f i).length := by omega
    rw [add_add, h2 j hj, List.getElem?_eq_getElem hjl]
    have hle : (r.elem i).length = (f i).length := h3.1.symm
    exact ⟨rfl, by simpa using (h3.2 j (by omega) hjl).2⟩
  · intro i j hi hj
    obtain ⟨h1, h2, h3⟩ := hf i hi
    have hjl : j < (f i).length := by rw [h3.1]; exact hj
    have := (h3.2 j hj hjl).1
    simpa [List.getElem?_eq_getElem hjl] using this

theorem den1 {v : SV} {c : Value} (h : Den PN w AN v c) (h1 : c.oneCell' = true) : Dens PN w AN [v] [c] := Dens.cons h h1 Dens.nil
/-- Bytes that came in. -/
theorem open_bytes {t T : TypeId} (hu : P.underlying t = some (.slice T)) (he : P.underlying T = some (.int .u8)) (hc : P.cellsOf T = 1) {fuel : Nat} {cs : List Value} {x : DataW H × List MemPlace} (h : DataW.trod enc P w base spare held fuel t cs = some x) :
    ∃ l : List UInt8, l.length ≤ maxLen ∧ Dens PN w AN [.rsl (.bs T l)] cs := by
  rcases open_slice1 hu hc h with ⟨rfl, _⟩ | ⟨a, len, cap, m, n, V, D, Pl, rfl, hb, hl, hm, hmm, _, hi⟩
  · exact ⟨[], by simp, den1 (nil_den rfl .nsl) rfl⟩
  · have hle : len ≤ m := by rw [hmm]; split <;> omega
    have each : ∀ i, ∃ b : UInt8, i < len → w.cell? (a.add i) = some (.int .u8 b.toNat) := fun i => by
      by_cases h : i < len
      · obtain ⟨h1, h2⟩ := hi i (by omega)
        obtain ⟨y, e1, _, e2⟩ := DataW.trod_int he h2
        injection e1 with e1 _
        have hy : 0 ≤ y ∧ y ≤ 255 := by simpa [Lit.wf, IntKind.min, IntKind.max, IntKind.signed, IntKind.bits, Int.lt_add_one_iff, Int.le_sub_one_iff] using e2
        refine ⟨UInt8.ofNat y.toNat, fun _ => ?_⟩
        rw [h1, e1]
        have : ((UInt8.ofNat y.toNat).toNat : Int) = y := by simp; omega
        rw [this]
      · exact ⟨0, fun h' => absurd h' h⟩
    obtain ⟨f, hf⟩ := Classical.axiomOfChoice each
    refine ⟨(List.range len).map f, by simp; omega, den1 (open_row (by simp [rlen]) hl (by show 0 < 1; omega) fun i hi => ⟨[.int .u8 (f i).toNat], rfl, ?_, ?_⟩) rfl⟩
    · intro j hj
      have : j = 0 := by simp [R.sz] at hj; exact hj
      subst this
      simp only [R.sz, Nat.mul_one, Nat.add_zero]
      rw [hf i hi]
      rfl
    · have : getB ((List.range len).map f) i = ((f i).toNat : Int) := by simp [getB, hi]
      simp only [R.elem, lock_eq, this]
      exact den1 (.v _) rfl
/-- Whole numbers that came in. -/
theorem open_intsD {t T : TypeId} {k : IntKind} (hu : P.underlying t = some (.slice T)) (he : P.underlying T = some (.int k)) (hc : P.cellsOf T = 1) {fuel : Nat} {cs : List Value} {x : DataW H × List MemPlace} (h : DataW.trod enc P w base spare held fuel t cs = some x) :
    ∃ l : List Int, l.length ≤ maxLen ∧ (∀ y ∈ l, (Lit.int k y).wf = true) ∧ Dens PN w AN [.rsl (.ints T k l)] cs := by
  rcases open_slice1 hu hc h with ⟨rfl, _⟩ | ⟨a, len, cap, m, n, V, D, Pl, rfl, hb, hl, hm, hmm, _, hi⟩
  · exact ⟨[], by simp, by simp, den1 (nil_den rfl .nsl) rfl⟩
  · have hle : len ≤ m := by rw [hmm]; split <;> omega
    have each : ∀ i, ∃ b : Int, i < len → w.cell? (a.add i) = some (.int k b) ∧ (Lit.int k b).wf = true := fun i => by
      by_cases h : i < len
      · obtain ⟨h1, h2⟩ := hi i (by omega)
        obtain ⟨y, e1, _, e2⟩ := DataW.trod_int he h2
        injection e1 with e1 _
        exact ⟨y, fun _ => ⟨by rw [h1, e1], e2⟩⟩
      · exact ⟨0, fun h' => absurd h' h⟩
    obtain ⟨f, hf⟩ := Classical.axiomOfChoice each
    refine ⟨(List.range len).map f, by simp; omega, ?_, den1 (open_row (by simp [rlen]) hl (by show 0 < 1; omega) fun i hi => ⟨[.int k (f i)], rfl, ?_, ?_⟩) rfl⟩
    · intro y hy
      obtain ⟨i, h1, rfl⟩ := List.mem_map.1 hy
      exact (hf i (List.mem_range.1 h1)).2
    · intro j hj
      have : j = 0 := by simp [R.sz] at hj; exact hj
      subst this
      simp only [R.sz, Nat.mul_one, Nat.add_zero]
      rw [(hf i hi).1]
      rfl
    · have : getI ((List.range len).map f) i = f i := by simp [getI, hi]
      simp only [R.elem, lock_eq, this]
      exact den1 (.v _) rfl
theorem dens_app {a b : List SV} {c d : List Value} (h : Dens PN w AN a c) (k : Dens PN w AN b d) : Dens PN w AN (a ++ b) (c ++ d) := by
  refine ⟨by simp [h.1, k.1], fun j h1 h2 => ?_⟩
  by_cases hj : j < a.length
  · have hc : j < c.length := by rw [h.1]; exact hj
    rw [List.getElem_append_left hj, List.getElem_append_left hc]
    exact h.2 j hj hc
  · have hc : ¬ j < c.length := by rw [h.1]; exact hj
    rw [List.getElem_append_right (by omega), List.getElem_append_right (by omega)]
    have e := h.1
    have := k.2 (j - a.length) (by simp at h1; omega) (by simp at h2; omega)
    simpa [e] using this
theorem D.fld_l (l : List D) (j : Nat) : (D.l l).fld j = l.getD j (.i 0) := rfl
theorem open_ty : ∀ (e : Ty) (t : TypeId) (fuel : Nat) (cs : List Value) (x : DataW H × List MemPlace), tyChk P e t = true → DataW.trod enc P w base spare held fuel t cs = some x → ∃ d : D, Dens PN w AN (e.leaves d) cs ∧ e.rng d := by
  intro e
  apply Ty.rec (motive_1 := fun e => ∀ (t : TypeId) (fuel : Nat) (cs : List Value) (x : DataW H × List MemPlace), tyChk P e t = true → DataW.trod enc P w base spare held fuel t cs = some x → ∃ d : D, Dens PN w AN (e.leaves d) cs ∧ e.rng d)
    (motive_2 := fun es => ∀ (fl : List Field) (o : Nat) (cs : List Value), tysChk P es fl o = true → (∀ f ∈ fl, ∃ fuel x, DataW.trod enc P w base spare held fuel f.type ((cs.drop f.offset).take (P.cellsOf f.type)) = some x) → cs.length = o + Ty.sizes es →
      ∃ ds : List D, ds.length = es.length ∧ ∀ d j, (∀ i, i < es.length → d.fld (j + i) = ds.getD i (.i 0)) → Dens PN w AN (Ty.leavesL es d j) (cs.drop o) ∧ Ty.rngL es d j)
  · intro k t fuel cs x hc h
    simp only [tyChk] at hc
    split at hc
    · rename_i j hu
      have := LawfulBEq.eq_of_beq hc
      subst this
      obtain ⟨y, rfl, _, e2⟩ := DataW.trod_int hu h
      refine ⟨.i y, ?_, e2⟩
      simp only [Ty.leaves, lock_eq]
      exact den1 (.v _) rfl
    · cases hc
  · intro t fuel cs x hc h
    simp only [tyChk] at hc
    split at hc
    · rename_i hu
      obtain ⟨b, rfl, _⟩ := DataW.trod_bool hu h
      refine ⟨.b b, ?_, trivial⟩
      simp only [Ty.leaves, lock_eq]
      exact den1 (.v _) rfl
    · cases hc
  · intro t fuel cs x hc h
    simp only [tyChk] at hc
    split at hc
    · rename_i hu
      obtain ⟨b, rfl, _, e2⟩ := DataW.trod_string hu h
      refine ⟨.s b.data.toList, ?_, by
        show b.data.toList.length ≤ maxLen
        have : b.data.toList.length = b.size := by rw [Array.length_toList]; rfl
        rw [this]; exact e2⟩
      simp only [Ty.leaves, lock_eq, D.toS]
      have := Den.str (PL := PN) (w := w) (Av := AN) b.data.toList
      simp at this
      exact den1 this rfl
    · cases hc
  · intro T t fuel cs x hc h
    simp only [tyChk] at hc
    split at hc
    · rename_i e0 hu he
      simp only [Bool.and_eq_true] at hc
      have e1 := (nbeq _ _).1 hc.1
      have e2 := (nbeq _ _).1 hc.2
      subst e1
      obtain ⟨l, h1, h2⟩ := open_bytes hu he e2 h
      exact ⟨.s l, by simp only [Ty.leaves, lock_eq]; exact h2, h1⟩
    · cases hc
  · intro T k t fuel cs x hc h
    simp only [tyChk] at hc
    split at hc
    · rename_i e0 j hu he
      simp only [Bool.and_eq_true] at hc
      have e1 := (nbeq _ _).1 hc.1.1
      have e2 := (nbeq _ _).1 hc.1.2
      have e3 := LawfulBEq.eq_of_beq hc.2
      subst e1; subst e3
      obtain ⟨l, h1, h2, h3⟩ := open_intsD hu he e2 h
      exact ⟨.is l, by simp only [Ty.leaves, lock_eq]; exact h3, h1, h2⟩
    · cases hc
  · intro T e ih t fuel cs x hc h
    simp only [tyChk] at hc
    split at hc
    · rename_i e0 hu
      simp only [Bool.and_eq_true] at hc
      obtain ⟨⟨⟨c1, c2⟩, c3⟩, c4⟩ := hc
      have e1 := (nbeq _ _).1 c1
      have e2 := (nbeq _ _).1 c2
      have e3 := Nat.le_of_ble_eq_true c3
      subst e1
      rcases open_slice hu h with ⟨rfl, _⟩ | ⟨a, len, cap, m, n, D0, Pl, rfl, hb, hl, hm, hmm, _, hi⟩
      · refine ⟨.l [], ?_, by simp [Ty.rng, D.toL]⟩
        simp only [Ty.leaves, lock_eq, D.toL]
        exact den1 (nil_den rfl .nsl) rfl
      · have hle : len ≤ m := by rw [hmm]; split <;> omega
        have each : ∀ i, ∃ q : D × List Value, i < len → q.2.length = e.size ∧ (∀ j, j < e.size → w.cell? (a.add (i * e.size + j)) = q.2[j]?) ∧ Dens PN w AN (e.leaves q.1) q.2 ∧ e.rng q.1 := fun i => by
          by_cases hil : i < len
          · obtain ⟨cs', g1, g2⟩ := hi i (by omega)
            obtain ⟨_, g3, g4⟩ := World.cells?_some g1
            obtain ⟨d, g5, g6⟩ := ih _ n cs' _ c4 g2
            refine ⟨(d, cs'), fun _ => ⟨by rw [g3, e2], fun j hj => ?_, g5, g6⟩⟩
            have := g4 j (by omega)
            rw [add_add, e2] at this
            exact this
          · exact ⟨(.i 0, []), fun h' => absurd h' hil⟩
        obtain ⟨f, hf⟩ := Classical.axiomOfChoice each
        refine ⟨.l ((List.range len).map fun i => (f i).1), ?_, ?_, ?_⟩
        · simp only [Ty.leaves, lock_eq, D.toL]
          refine den1 (open_row (by simp [rlen]) hl (by show 0 < e.size; omega) fun i hi => ⟨(f i).2, (hf i hi).1, (hf i hi).2.1, ?_⟩) rfl
          have : getD ((List.range len).map fun i => (f i).1) i = (f i).1 := by simp [getD, hi]
          simp only [R.elem, lock_eq, this]
          exact (hf i hi).2.2.1
        · simp [D.toL]; omega
        · intro y hy
          simp only [D.toL] at hy
          obtain ⟨i, h1, rfl⟩ := List.mem_map.1 hy
          exact (hf i (List.mem_range.1 h1)).2.2.2
    · cases hc
  · intro es ih t fuel cs x hc h
    simp only [tyChk] at hc
    split at hc
    · rename_i fl hu
      simp only [Bool.and_eq_true] at hc
      have e1 := (nbeq _ _).1 hc.1
      obtain ⟨xs, n, _, _, hlen, hxl, hx⟩ := DataW.trod_struct hu h
      obtain ⟨ds, h1, h2⟩ := ih fl.toList 0 cs hc.2 (fun f hf => by
        obtain ⟨i, hi, he⟩ := List.getElem_of_mem hf
        have hi' : i < fl.size := by simpa using hi
        have := hx i f (by rw [Array.getElem?_eq_getElem hi']; simpa using he)
        exact ⟨n, xs[i]'(by omega), by rw [this, List.getElem?_eq_getElem (by omega)]⟩) (by rw [hlen, e1]; omega)
      obtain ⟨g1, g2⟩ := h2 (.l ds) 0 (fun i hi => by rw [D.fld_l, Nat.zero_add])
      exact ⟨.l ds, by simp only [Ty.leaves]; simpa using g1, g2⟩
    · cases hc
  · intro T t fuel cs x hc h; simp [tyChk] at hc
  · intro n t fuel cs x hc h; simp [tyChk] at hc
  · intro fl o cs hc hf hl
    cases fl with
    | nil => exact ⟨[], rfl, fun d j _ => ⟨by simp only [Ty.leavesL]; rw [List.drop_of_length_le (by simp [Ty.sizes] at hl; omega)]; exact Dens.nil, trivial⟩⟩
    | cons f fl => simp [tysChk] at hc
  · intro e es ih1 ih2 fl o cs hc hf hl
    cases fl with
    | nil => simp [tysChk] at hc
    | cons f fl =>
      simp only [tysChk, Bool.and_eq_true] at hc
      obtain ⟨⟨⟨c1, c2⟩, c3⟩, c4⟩ := hc
      have e1 := (nbeq _ _).1 c1
      have e2 := (nbeq _ _).1 c2
      obtain ⟨fuel, x, hx⟩ := hf f (List.mem_cons_self ..)
      obtain ⟨d1, g1, g2⟩ := ih1 _ _ _ _ c3 hx
      simp only [Ty.sizes] at hl
      obtain ⟨ds, g3, g4⟩ := ih2 fl (o + e.size) cs c4 (fun f hf' => hf f (List.mem_cons_of_mem _ hf')) (by omega)
      refine ⟨d1 :: ds, by simp [g3], fun d j hd => ?_⟩
      have hd0 : d.fld j = d1 := by simpa using hd 0 (by simp)
      obtain ⟨k1, k2⟩ := g4 d (j + 1) (fun i hi => by
        have := hd (i + 1) (by simpa using hi)
        rw [Nat.add_assoc, Nat.add_comm 1 i, this, List.getD_cons_succ])
      rw [e1, e2] at g1
      refine ⟨?_, ?_, k2⟩
      · simp only [Ty.leavesL, lock_eq, hd0]
        have : cs.drop o = (cs.drop o).take e.size ++ cs.drop (o + e.size) := by
          rw [← List.drop_drop, List.take_append_drop]
        rw [this]
        exact dens_app g1 k1
      · rw [hd0]; exact g2
end
end Go.Proofs.Ytknaheioedkaeaa
end
section
/-
  Words, as plain Lean reads them.
-/
set_option linter.unusedVariables false
set_option linter.unusedSimpArgs false
namespace Go.Proofs.Ytknaheioedkaeaa

theorem pieq {a b : Int} : (ieq a b = true) = (a = b) := by simp [ieq]
theorem pilt {a b : Int} : (ilt a b = true) = (a < b) := by simp [ilt]
theorem pile {a b : Int} : (ile a b = true) = (a ≤ b) := by simp [ile]
theorem pseq {a b : List UInt8} : (seq a b = true) = (a = b) := by simp [seq]
theorem pbeq2 {a b : Bool} : (beq2 a b = true) = (a = b) := by simp [beq2]
theorem pband {a b : Bool} : (band a b = true) = (a = true ∧ b = true) := by simp [band]

/-- A number of 64 bits. -/
def U (x : Int) : Prop := 0 ≤ x ∧ x < 18446744073709551616
theorem U.lo {x : Int} (h : U x) : 0 ≤ x := h.1
theorem U.hi {x : Int} (h : U x) : x < 18446744073709551616 := h.2
theorem pwu64 (x : Int) : IntKind.u64.wrap x = x % 18446744073709551616 := by simp [IntKind.wrap, IntKind.signed, IntKind.bits]
theorem pwu32 (x : Int) : IntKind.u32.wrap x = x % 4294967296 := by simp [IntKind.wrap, IntKind.signed, IntKind.bits]
theorem pwu16 (x : Int) : IntKind.u16.wrap x = x % 65536 := by simp [IntKind.wrap, IntKind.signed, IntKind.bits]
theorem pwu8 (x : Int) : IntKind.u8.wrap x = x % 256 := by simp [IntKind.wrap, IntKind.signed, IntKind.bits]
theorem pwi64 {x : Int} (h1 : -9223372036854775808 ≤ x) (h2 : x ≤ 9223372036854775807) : IntKind.i64.wrap x = x := by
  simp only [IntKind.wrap, IntKind.signed, IntKind.bits]
  simp
  omega
theorem pu64 {x : Int} (h1 : 0 ≤ x) (h2 : x < 18446744073709551616) : IntKind.u64.wrap x = x := by rw [pwu64]; omega
theorem pu32 {x : Int} (h1 : 0 ≤ x) (h2 : x < 4294967296) : IntKind.u32.wrap x = x := by rw [pwu32]; omega
theorem pu16 {x : Int} (h1 : 0 ≤ x) (h2 : x < 65536) : IntKind.u16.wrap x = x := by rw [pwu16]; omega
theorem pu8 {x : Int} (h1 : 0 ≤ x) (h2 : x < 256) : IntKind.u8.wrap x = x := by rw [pwu8]; omega
theorem pofN (n : Nat) : ofN n = (n : Int) := rfl
theorem ptoN (n : Nat) : toN (n : Int) = n := rfl
theorem ptoN' (x : Int) : toN x = x.toNat := rfl
theorem pxlen {α : Type} (l : List α) : xlen l = l.length := rfl
/-- The next place. -/
theorem pnext {n : Nat} (h : n < 9223372036854775807) : iadd .i64 (n : Int) 1 = ((n + 1 : Nat) : Int) := by
  simp only [iadd]
  rw [pwi64] <;> omega
theorem pgetI {l : List Int} {n : Nat} (h : n < l.length) : getI l n = l[n] := by simp [getI, h]
theorem pgetD {l : List D} {n : Nat} (h : n < l.length) : getD l n = l[n] := by simp [getD, h]
theorem pgetB {l : List UInt8} {n : Nat} (h : n < l.length) : getB l n = ((l[n].toNat : Nat) : Int) := by simp [getB, h]
theorem pcopy {α : Type} (l : List α) (x : α) : lspl (lrep l.length x) 0 (lsub l 0 (nmin (xlen (lrep l.length x)) (xlen l))) = l := by
  simp [lspl, lrep, lsub, nmin, xlen]
theorem pimax (a b : Int) : imax a b = max a b := by
  unfold imax
  by_cases h : b > a
  · rw [if_pos h]; omega
  · rw [if_neg h]; omega
theorem pimin (a b : Int) : imin a b = min a b := by
  unfold imin
  by_cases h : b < a
  · rw [if_pos h]; omega
  · rw [if_neg h]; omega
end Go.Proofs.Ytknaheioedkaeaa
end
section
/-
  A shift.
-/
set_option linter.unusedVariables false
set_option linter.unusedSimpArgs false
namespace Go.Proofs.Ytknaheioedkaeaa

theorem pshr {x : Int} {n : Nat} (h : n < 64) : ishr .u64 x (n : Int) = x / 2 ^ n := by
  simp only [ishr, IntKind.bits]
  have : min (n : Int).toNat 64 = n := by simp; omega
  rw [this, Int.fdiv_eq_ediv_of_nonneg _ (Int.le_of_lt (Int.pow_pos (by omega)))]
end Go.Proofs.Ytknaheioedkaeaa
end
section
/-
  Package varint in plain words: a number's bytes, and the number that bytes begin with.
-/
set_option linter.unusedVariables false
set_option linter.unusedSimpArgs false
namespace Go.Proofs.Ytknaheioedkaeaa

/-- How many of the first bytes say that more come. -/
def ld : List UInt8 → Nat
  | [] => 0
  | c :: t => if 128 ≤ c.toNat then ld t + 1 else 0
/-- The number of groups, the least first. -/
def gv : List UInt8 → Nat
  | [] => 0
  | c :: t => c.toNat % 128 + 128 * gv t
theorem ld_cons (c : UInt8) (t : List UInt8) : ld (c :: t) = if 128 ≤ c.toNat then ld t + 1 else 0 := rfl
theorem gv_cons (c : UInt8) (t : List UInt8) : gv (c :: t) = c.toNat % 128 + 128 * gv t := rfl
def getV (s : List UInt8) : Int × Int × Int :=
  if 10 ≤ ld s then (0, 0, 14) else if ld s = s.length then (0, 0, 10)
  else if 18446744073709551616 ≤ gv (s.take (ld s + 1)) then (0, 0, 14)
  else if 0 < ld s ∧ (s.getD (ld s) 0).toNat = 0 then (0, 0, 11) else (((gv (s.take (ld s + 1)) : Nat) : Int), ((ld s + 1 : Nat) : Int), 0)
theorem getV_big {s : List UInt8} (h : 10 ≤ ld s) : getV s = (0, 0, 14) := by unfold getV; rw [if_pos h]
theorem getV_short {s : List UInt8} (h : ld s < 10) (h2 : ld s = s.length) : getV s = (0, 0, 10) := by unfold getV; rw [if_neg (by omega), if_pos h2]
theorem getV_over {s : List UInt8} (h : ld s < 10) (h2 : ld s < s.length) (h3 : 18446744073709551616 ≤ gv (s.take (ld s + 1))) : getV s = (0, 0, 14) := by
  unfold getV; rw [if_neg (by omega), if_neg (by omega), if_pos h3]
theorem getV_form {s : List UInt8} (h : ld s < 10) (h2 : ld s < s.length) (h3 : gv (s.take (ld s + 1)) < 18446744073709551616) (h4 : 0 < ld s) (h5 : (s.getD (ld s) 0).toNat = 0) : getV s = (0, 0, 11) := by
  unfold getV; rw [if_neg (by omega), if_neg (by omega), if_neg (by omega), if_pos ⟨h4, h5⟩]
theorem getV_ok {s : List UInt8} (h : ld s < 10) (h2 : ld s < s.length) (h3 : gv (s.take (ld s + 1)) < 18446744073709551616) (h4 : ¬ (0 < ld s ∧ (s.getD (ld s) 0).toNat = 0)) : getV s = (((gv (s.take (ld s + 1)) : Nat) : Int), ((ld s + 1 : Nat) : Int), 0) := by
  unfold getV; rw [if_neg (by omega), if_neg (by omega), if_neg (by omega), if_neg h4]

theorem ld_le : ∀ s : List UInt8, ld s ≤ s.length
  | [] => Nat.le_refl _
  | c :: t => by
    have := ld_le t
    unfold ld
    split <;> simp only [List.length_cons] <;> omega
theorem ld_in : ∀ (s : List UInt8) (i : Nat) (h : i < s.length), i < ld s → 128 ≤ s[i].toNat
  | c :: t, 0, h, hi => by
    unfold ld at hi
    split at hi
    · assumption
    · omega
  | c :: t, i + 1, h, hi => by
    unfold ld at hi
    split at hi
    · exact ld_in t i (by simpa using h) (by omega)
    · omega
theorem ld_at : ∀ (s : List UInt8) (h : ld s < s.length), s[ld s].toNat < 128
  | c :: t, h => by
    by_cases hc : 128 ≤ c.toNat
    · have e : ld (c :: t) = ld t + 1 := by rw [ld_cons, if_pos hc]
      have := ld_at t (by rw [e] at h; simpa using h)
      simpa only [e, List.getElem_cons_succ] using this
    · have e : ld (c :: t) = 0 := by rw [ld_cons, if_neg hc]
      simp only [e, List.getElem_cons_zero]
      omega
theorem ld_is {s : List UInt8} {i : Nat} (h : i ≤ ld s) (hl : i < s.length) (hc : ¬ 128 ≤ s[i].toNat) : ld s = i := by
  by_cases hi : i < ld s
  · exact absurd (ld_in s i hl hi) hc
  · omega
theorem ld_next {s : List UInt8} {i : Nat} (h : i ≤ ld s) (hl : i < s.length) (hc : 128 ≤ s[i].toNat) : i + 1 ≤ ld s := by
  by_cases hi : ld s = i
  · subst hi
    have := ld_at s hl
    omega
  · omega
theorem gv_app : ∀ (a b : List UInt8), gv (a ++ b) = gv a + 128 ^ a.length * gv b
  | [], b => by simp [gv]
  | c :: a, b => by
    rw [List.cons_append, gv_cons, gv_cons, gv_app a b, List.length_cons, Nat.pow_succ, Nat.mul_add, ← Nat.mul_assoc, Nat.mul_comm 128 (128 ^ a.length)]
    omega
theorem gv_lt : ∀ s : List UInt8, gv s < 128 ^ s.length
  | [] => by simp [gv]
  | c :: t => by
    have := gv_lt t
    have h : c.toNat % 128 < 128 := Nat.mod_lt _ (by omega)
    unfold gv
    rw [List.length_cons, Nat.pow_succ]
    omega
theorem gv_take {s : List UInt8} {i : Nat} (h : i < s.length) : gv (s.take (i + 1)) = gv (s.take i) + s[i].toNat % 128 * 128 ^ i := by
  rw [List.take_succ_eq_append_getElem h, gv_app, List.length_take, Nat.min_eq_left (by omega), Nat.mul_comm (128 ^ i)]
  simp [gv]
theorem gv_drop {s : List UInt8} {i : Nat} (h : i < s.length) : gv (s.drop i) = s[i].toNat % 128 + 128 * gv (s.drop (i + 1)) := by
  rw [List.drop_eq_getElem_cons h]
  rfl
theorem gv_drop_le (s : List UInt8) (i : Nat) : gv (s.drop i) ≤ gv s := by
  have h := gv_app (s.take i) (s.drop i)
  rw [List.take_append_drop] at h
  have : 1 * gv (s.drop i) ≤ 128 ^ (s.take i).length * gv (s.drop i) := Nat.mul_le_mul_right _ (Nat.pow_pos (by omega))
  omega

theorem p2_7 (i : Nat) : 2 ^ (7 * i) = 128 ^ i := by rw [Nat.pow_mul]
theorem pshrS {x n : Nat} (h : n < 64) : ishr .u64 (x : Int) (n : Int) = ((x / 2 ^ n : Nat) : Int) := by
  rw [pshr h]
  push_cast
  rfl
theorem pshlS {g j : Nat} (hj : j ≤ 64) : ishl .u64 (g : Int) (j : Int) = ((g * 2 ^ j % 18446744073709551616 : Nat) : Int) := by
  simp only [ishl, IntKind.bits]
  have : min (j : Int).toNat 64 = j := by simp; omega
  have h : (g : Int) * 2 ^ j = ((g * 2 ^ j : Nat) : Int) := by push_cast; rfl
  rw [this, pwu64, h]
  generalize g * 2 ^ j = y
  omega
theorem porS {x g j : Nat} (hj : j ≤ 64) (hx : x < 2 ^ j) (h : g * 2 ^ j < 18446744073709551616) : ior .u64 (x : Int) ((g * 2 ^ j : Nat) : Int) = ((x + g * 2 ^ j : Nat) : Int) ∧ x + g * 2 ^ j < 18446744073709551616 := by
  have h64 : 2 ^ j ≤ 2 ^ 64 := Nat.pow_le_pow_right (by omega) hj
  have p64 : (2 : Nat) ^ 64 = 18446744073709551616 := by decide
  have e3 : x ||| g * 2 ^ j = x + g * 2 ^ j := by
    have := Nat.shiftLeft_add_eq_or_of_lt (i := j) (b := x) hx g
    rw [Nat.shiftLeft_eq] at this
    rw [Nat.or_comm, ← this, Nat.add_comm]
  generalize g * 2 ^ j = y at *
  have e : (BitVec.ofInt 64 (x : Int) ||| BitVec.ofInt 64 (y : Int)).toNat = x + y := by
    have e1 : BitVec.ofInt 64 (x : Int) = BitVec.ofNat 64 x := BitVec.ofInt_natCast 64 _
    have e2 : BitVec.ofInt 64 (y : Int) = BitVec.ofNat 64 y := BitVec.ofInt_natCast 64 _
    rw [e1, e2, BitVec.toNat_or, BitVec.toNat_ofNat, BitVec.toNat_ofNat, Nat.mod_eq_of_lt (by omega), Nat.mod_eq_of_lt (by omega), e3]
  have hlt := (BitVec.ofInt 64 (x : Int) ||| BitVec.ofInt 64 (y : Int)).isLt
  rw [e] at hlt
  refine ⟨?_, by omega⟩
  show IntKind.u64.wrap (((BitVec.ofInt 64 (x : Int) ||| BitVec.ofInt 64 (y : Int)).toNat : Nat) : Int) = _
  rw [e, pu64 (by omega) (by omega)]
theorem chk {g j : Nat} : g * 2 ^ j % 18446744073709551616 / 2 ^ j = g ↔ g * 2 ^ j < 18446744073709551616 := by
  constructor
  · intro h
    have h1 : g * 2 ^ j % 18446744073709551616 < 18446744073709551616 := Nat.mod_lt _ (by omega)
    have h2 := Nat.div_mul_le_self (g * 2 ^ j % 18446744073709551616) (2 ^ j)
    rw [h] at h2
    omega
  · intro h
    rw [Nat.mod_eq_of_lt h, Nat.mul_div_cancel _ (Nat.pow_pos (by omega))]

theorem p_get {s : List UInt8} (hs : s.length ≤ 1000000) : F_varint_Get s = some (getV s) := by
  have em : imin (ofN (xlen s)) 10 = ((min s.length 10 : Nat) : Int) := by rw [pimin]; simp only [ofN, xlen]; omega
  have eL : lsub s 0 (toN (imin (ofN (xlen s)) 10)) = s.take 10 := by
    rw [em]
    show (List.drop 0 s).take (min s.length 10) = _
    rw [List.drop_zero]
    by_cases h : s.length ≤ 10
    · rw [Nat.min_eq_left h, List.take_length, List.take_of_length_le h]
    · rw [Nat.min_eq_right (by omega)]
  have ex : ofN (xlen (s.take 10)) = ((min s.length 10 : Nat) : Int) := by
    simp only [ofN, xlen, List.length_take]
    omega
  have hld := ld_le s
  have key : ∀ m i : Nat, i + m = min s.length 10 → i ≤ ld s → iter (F_varint_Get_L1 s) (((gv (s.take i) : Nat) : Int), (i : Int)) = some (getV s) := by
    intro m
    induction m with
    | zero =>
      intro i hi hk
      apply iter_inr
      unfold F_varint_Get_L1
      dsimp only
      rw [eL, ex, if_neg (by rw [pilt]; omega)]
      by_cases h10 : 10 ≤ s.length
      · rw [if_pos (by rw [pile]; simp only [ofN, xlen]; omega), getV_big (by omega)]
      · rw [if_neg (by rw [pile]; simp only [ofN, xlen]; omega), getV_short (by omega) (by omega)]
    | succ m ih =>
      intro i hi hk
      have hlt : i < s.length := by omega
      have h10 : i < 10 := by omega
      have eg : getB (s.take 10) (toN (i : Int)) = ((s[i].toNat : Nat) : Int) := by
        rw [ptoN, pgetB (by simp only [List.length_take]; omega), List.getElem_take]
      have hc : s[i].toNat < 256 := s[i].toNat_lt
      have hn := ld_next hk hlt
      have hi2 := ld_is hk hlt
      have ht := gv_take hlt
      have hgl := gv_lt (s.take i)
      rw [List.length_take, Nat.min_eq_left (by omega)] at hgl
      have hD : (s.getD i 0).toNat = s[i].toNat := by simp [hlt]
      generalize s[i].toNat = c at *
      have e7 : imul .i64 7 (i : Int) = ((7 * i : Nat) : Int) := by simp only [imul]; rw [pwi64 (by omega) (by omega)]; omega
      have er : iconv .u64 (irem ((c : Nat) : Int) 128) = ((c % 128 : Nat) : Int) := by
        simp only [iconv, irem]
        rw [Int.tmod_eq_emod_of_nonneg (by omega), pu64 (by omega) (by omega)]
        omega
      have es : ishl .u64 ((c % 128 : Nat) : Int) ((7 * i : Nat) : Int) = ((c % 128 * 2 ^ (7 * i) % 18446744073709551616 : Nat) : Int) := pshlS (by omega)
      have et : ishr .u64 ((c % 128 * 2 ^ (7 * i) % 18446744073709551616 : Nat) : Int) ((7 * i : Nat) : Int) = ((c % 128 * 2 ^ (7 * i) % 18446744073709551616 / 2 ^ (7 * i) : Nat) : Int) := pshrS (by omega)
      by_cases hb : c % 128 * 2 ^ (7 * i) < 18446744073709551616
      · obtain ⟨eo, hlt64⟩ := porS (x := gv (s.take i)) (by omega) (by rw [p2_7]; exact hgl) hb
        have e1 : c % 128 * 2 ^ (7 * i) % 18446744073709551616 / 2 ^ (7 * i) = c % 128 := chk.2 hb
        have e2 : c % 128 * 2 ^ (7 * i) % 18446744073709551616 = c % 128 * 2 ^ (7 * i) := Nat.mod_eq_of_lt hb
        rw [e1, e2] at et
        rw [e2] at es
        have e3 : gv (s.take i) + c % 128 * 2 ^ (7 * i) = gv (s.take (i + 1)) := by rw [p2_7, ht]
        rw [e3] at eo hlt64
        by_cases hm : 128 ≤ c
        · rw [iter_inl (y := (((gv (s.take (i + 1)) : Nat) : Int), ((i + 1 : Nat) : Int)))]
          · exact ih (i + 1) (by omega) (hn hm)
          · unfold F_varint_Get_L1
            dsimp only
            rw [eL, ex, e7, eg, er, es, et, eo, pnext (by omega), if_pos (by rw [pilt]; omega), if_pos (by omega), if_pos (by omega), if_pos (by omega), if_pos (by rw [pieq]), if_pos (by omega), if_pos (by rw [pile]; omega)]
        · have hk2 := hi2 hm
          apply iter_inr
          unfold F_varint_Get_L1
          dsimp only
          rw [eL, ex, e7, eg, er, es, et, eo, pnext (by omega), if_pos (by rw [pilt]; omega), if_pos (by omega), if_pos (by omega), if_pos (by omega), if_pos (by rw [pieq]), if_pos (by omega), if_neg (by rw [pile]; omega)]
          by_cases hz : c = 0
          · rw [if_pos (by rw [pieq]; omega)]
            by_cases h0 : 0 < i
            · rw [if_pos (by rw [pilt]; omega), getV_form (by omega) (by omega) (by rw [hk2]; exact hlt64) (by omega) (by rw [hk2]; omega)]
            · rw [if_neg (by rw [pilt]; omega), getV_ok (by omega) (by omega) (by rw [hk2]; exact hlt64) (by omega), hk2]
          · rw [if_neg (by rw [pieq]; omega), getV_ok (by omega) (by omega) (by rw [hk2]; exact hlt64) (by rw [hk2, hD]; omega), hk2]
      · have e1 : ¬ c % 128 * 2 ^ (7 * i) % 18446744073709551616 / 2 ^ (7 * i) = c % 128 := fun h => hb (chk.1 h)
        have h9 : i = 9 := by
          by_cases h8 : i ≤ 8
          · have : 2 ^ (7 * i) ≤ 2 ^ 56 := Nat.pow_le_pow_right (by omega) (by omega)
            have h2 : c % 128 * 2 ^ (7 * i) ≤ 127 * 2 ^ 56 := Nat.mul_le_mul (by omega) this
            have h3 : 127 * (2 : Nat) ^ 56 < 18446744073709551616 := by decide
            omega
          · omega
        apply iter_inr
        unfold F_varint_Get_L1
        dsimp only
        rw [eL, ex, e7, eg, er, es, et, if_pos (by rw [pilt]; omega), if_pos (by omega), if_pos (by omega), if_pos (by omega), if_neg (by rw [pieq]; exact fun h => e1 (Int.ofNat_inj.1 h))]
        by_cases hk10 : 10 ≤ ld s
        · rw [getV_big hk10]
        · have hk9 : ld s = i := by omega
          rw [getV_over (by omega) (by omega) (by rw [hk9, ht, ← p2_7]; omega)]
  unfold F_varint_Get
  rw [em, if_pos (by simp only [ofN, xlen]; omega)]
  exact key (min s.length 10) 0 (by omega) (by omega)
end Go.Proofs.Ytknaheioedkaeaa
end
section
/-
  Package varint in plain words: the document's Get, and putting.
-/
set_option linter.unusedVariables false
set_option linter.unusedSimpArgs false
namespace Go.Proofs.Ytknaheioedkaeaa

theorem ld_take : ∀ (s : List UInt8) (n : Nat), ld (s.take n) = min (ld s) n
  | [], n => by simp [ld]
  | c :: t, 0 => by simp [ld]
  | c :: t, n + 1 => by
    rw [List.take_succ_cons, ld_cons, ld_cons, ld_take t n]
    split <;> omega
theorem getV_cut (w : List UInt8) : getV (w.take 10) = getV w := by
  have h1 := ld_take w 10
  have h2 := ld_le w
  by_cases h : 10 ≤ ld w
  · rw [getV_big h, getV_big (by omega)]
  · have e : ld (w.take 10) = ld w := by omega
    by_cases hl : ld w = w.length
    · rw [getV_short (by omega) hl, getV_short (by omega) (by simp only [List.length_take]; omega)]
    · have e1 : (w.take 10).take (ld w + 1) = w.take (ld w + 1) := by rw [List.take_take, Nat.min_eq_left (by omega)]
      have e2 : (w.take 10).getD (ld w) 0 = w.getD (ld w) 0 := by
        simp only [List.getD_eq_getElem?_getD, List.getElem?_take]
        rw [if_pos (by omega)]
      unfold getV
      rw [e, e1, e2, if_neg h, if_neg h, if_neg hl, if_neg (by simp only [List.length_take]; omega)]
theorem getV_n (s : List UInt8) : ∃ n : Nat, (getV s).2.1 = (n : Int) ∧ n ≤ s.length := by
  have := ld_le s
  unfold getV
  split
  · exact ⟨0, rfl, by omega⟩
  · split
    · exact ⟨0, rfl, by omega⟩
    · split
      · exact ⟨0, rfl, by omega⟩
      · split
        · exact ⟨0, rfl, by omega⟩
        · exact ⟨ld s + 1, rfl, by omega⟩

theorem p_rget2 {s : List UInt8} (hs : s.length ≤ 1000000) (h10 : ld s < 10) (hl : ld s < s.length) : ∀ n : Nat, n ≤ ld s + 1 → gv ((s.take (ld s + 1)).drop n) < 18446744073709551616 →
    iter (F_tollbarref02_Get_L2 s ((ld s : Nat) : Int)) (((gv ((s.take (ld s + 1)).drop n) : Nat) : Int), (n : Int) - 1) = some (getV s)
  | 0, _, hv => by
    rw [List.drop_zero] at hv ⊢
    have hD : getB s (toN ((ld s : Nat) : Int)) = (((s.getD (ld s) 0).toNat : Nat) : Int) := rfl
    apply iter_inr
    unfold F_tollbarref02_Get_L2
    dsimp only
    rw [if_neg (by rw [pile]; omega), hD, pnext (by omega)]
    by_cases h0 : 0 < ld s
    · rw [if_pos (by rw [pilt]; omega), if_pos (by simp only [ofN, xlen]; omega)]
      by_cases hz : (s.getD (ld s) 0).toNat = 0
      · rw [if_pos (by rw [pieq]; omega), getV_form h10 hl hv h0 hz]
      · rw [if_neg (by rw [pieq]; omega), getV_ok h10 hl hv (by omega)]
    · rw [if_neg (by rw [pilt]; omega), getV_ok h10 hl hv (by omega)]
  | n + 1, hn, hv => by
    have hnl : n < s.length := by omega
    have hlen : (s.take (ld s + 1)).length = ld s + 1 := by rw [List.length_take]; omega
    have e := gv_drop (s := s.take (ld s + 1)) (i := n) (by omega)
    rw [List.getElem_take] at e
    have hle := gv_drop_le (s.take (ld s + 1)) n
    have ei : ((n + 1 : Nat) : Int) - 1 = (n : Int) := by omega
    have eg : getB s (toN (n : Int)) = ((s[n].toNat : Nat) : Int) := by rw [ptoN, pgetB hnl]
    have hc : s[n].toNat < 256 := s[n].toNat_lt
    have ih := p_rget2 hs h10 hl n (by omega)
    generalize s[n].toNat = c at *
    generalize hx : gv ((s.take (ld s + 1)).drop (n + 1)) = x at *
    rw [ei]
    have er : iconv .u64 (irem ((c : Nat) : Int) 128) = ((c % 128 : Nat) : Int) := by
      simp only [iconv, irem]
      rw [Int.tmod_eq_emod_of_nonneg (by omega), pu64 (by omega) (by omega)]
      omega
    by_cases hb : 144115188075855871 < x
    · apply iter_inr
      unfold F_tollbarref02_Get_L2
      dsimp only
      rw [if_pos (by rw [pile]; omega), if_pos (by simp only [ofN, xlen]; omega), if_pos (by rw [pilt]; omega), getV_over h10 hl (by omega)]
    · have ea : iadd .u64 (imul .u64 128 (x : Int)) ((c % 128 : Nat) : Int) = ((gv ((s.take (ld s + 1)).drop n) : Nat) : Int) := by
        simp only [iadd, imul]
        rw [pu64 (x := 128 * (x : Int)) (by omega) (by omega), pu64 (by omega) (by omega), e]
        omega
      have ed : isub .i64 (n : Int) 1 = (n : Int) - 1 := by simp only [isub]; rw [pwi64 (by omega) (by omega)]
      rw [iter_inl (y := (((gv ((s.take (ld s + 1)).drop n) : Nat) : Int), (n : Int) - 1))]
      · exact ih (by omega)
      · unfold F_tollbarref02_Get_L2
        dsimp only
        rw [if_pos (by rw [pile]; omega), if_pos (by simp only [ofN, xlen]; omega), if_neg (by rw [pilt]; omega), eg, er, ea, ed]
theorem p_rget1 {s : List UInt8} (hs : s.length ≤ 1000000) : ∀ m i : Nat, i + m = 10 → i ≤ ld s → iter (F_tollbarref02_Get_L1 s) (i : Int) = some (getV s) := by
  intro m
  have hld := ld_le s
  have exl : ofN (xlen s) = (s.length : Int) := rfl
  induction m with
  | zero =>
    intro i hi hk
    apply iter_inr
    unfold F_tollbarref02_Get_L1
    dsimp only
    rw [exl]
    by_cases hl : i < s.length
    · rw [if_pos (by rw [pilt]; omega), if_neg (by rw [pilt]; omega), if_pos (by rw [pieq]; omega), getV_big (by omega)]
    · rw [if_neg (by rw [pilt]; omega), if_pos (by rw [pieq]; omega), getV_big (by omega)]
  | succ m ih =>
    intro i hi hk
    by_cases hl : i < s.length
    · have eg : getB s (toN (i : Int)) = ((s[i].toNat : Nat) : Int) := by rw [ptoN, pgetB hl]
      by_cases hc : 128 ≤ s[i].toNat
      · rw [iter_inl (y := ((i + 1 : Nat) : Int))]
        · exact ih (i + 1) (by omega) (ld_next hk hl hc)
        · unfold F_tollbarref02_Get_L1
          dsimp only
          rw [exl, eg, if_pos (by rw [pilt]; omega), if_pos (by rw [pilt]; omega), if_pos (by omega), if_pos (by rw [pilt]; omega), pnext (by omega)]
      · have hk2 := ld_is hk hl hc
        apply iter_inr
        unfold F_tollbarref02_Get_L1
        dsimp only
        rw [exl, eg, if_pos (by rw [pilt]; omega), if_pos (by rw [pilt]; omega), if_pos (by omega), if_neg (by rw [pilt]; omega), if_neg (by rw [pieq]; omega), if_neg (by rw [pieq]; omega)]
        have h := p_rget2 hs (by omega) (by omega) (ld s + 1) (Nat.le_refl _)
        have e0 : (s.take (ld s + 1)).drop (ld s + 1) = [] := by rw [List.drop_eq_nil_iff, List.length_take]; omega
        have ei : ((ld s + 1 : Nat) : Int) - 1 = ((ld s : Nat) : Int) := by omega
        rw [e0, ei, hk2] at h
        have h' : iter (F_tollbarref02_Get_L2 s (i : Int)) (0, (i : Int)) = some (getV s) := h (by decide)
        rw [h']
        rfl
    · apply iter_inr
      unfold F_tollbarref02_Get_L1
      dsimp only
      rw [exl, if_neg (by rw [pilt]; omega), if_neg (by rw [pieq]; omega), if_pos (by rw [pieq]; omega), getV_short (by omega) (by omega)]
theorem p_rget {s : List UInt8} (hs : s.length ≤ 1000000) : F_tollbarref02_Get s = some (getV s) := p_rget1 hs 10 0 (by omega) (by omega)

/-- A number's bytes. -/
def putV (n : Nat) : List UInt8 := if n < 128 then [UInt8.ofNat n] else UInt8.ofNat (n % 128 + 128) :: putV (n / 128)
termination_by n
decreasing_by exact Nat.div_lt_self (by omega) (by omega)
theorem putV_lo {n : Nat} (h : n < 128) : putV n = [UInt8.ofNat n] := by rw [putV, if_pos h]
theorem putV_hi {n : Nat} (h : ¬ n < 128) : putV n = UInt8.ofNat (n % 128 + 128) :: putV (n / 128) := by rw [putV, if_neg h]
theorem uN {n : Nat} (h : n < 256) : (UInt8.ofNat n).toNat = n := by
  rw [UInt8.toNat_ofNat']
  exact Nat.mod_eq_of_lt h
theorem putV_len : ∀ (n x : Nat), x < 128 ^ (n + 1) → 1 ≤ (putV x).length ∧ (putV x).length ≤ n + 1
  | 0, x, h => by rw [putV_lo (by simpa using h)]; simp
  | n + 1, x, h => by
    by_cases hx : x < 128
    · rw [putV_lo hx]; simp
    · have := putV_len n (x / 128) (by rw [Nat.div_lt_iff_lt_mul (by omega)]; rw [Nat.pow_succ] at h; exact h)
      rw [putV_hi hx, List.length_cons]
      omega
theorem p128 : (18446744073709551616 : Nat) ≤ 128 ^ 10 := by decide
theorem putV_10 {x : Nat} (h : x < 18446744073709551616) : 1 ≤ (putV x).length ∧ (putV x).length ≤ 10 := putV_len 9 x (by have := p128; omega)

theorem por128 {g : Nat} (h : g < 128) : ior .u8 (g : Int) 128 = ((g + 128 : Nat) : Int) := by
  have key : ∀ g : Fin 128, ior .u8 ((g.val : Nat) : Int) 128 = ((g.val + 128 : Nat) : Int) := by decide +kernel
  exact key ⟨g, h⟩
theorem pc8 {x : Nat} : iconv .u8 (irem (x : Int) 128) = ((x % 128 : Nat) : Int) := by
  simp only [iconv, irem]
  rw [Int.tmod_eq_emod_of_nonneg (by omega), pu8 (by omega) (by omega)]
  omega
theorem ps7 {x : Nat} : ishr .u64 (x : Int) 7 = ((x / 128 : Nat) : Int) := pshrS (x := x) (n := 7) (by omega)
theorem p_put_loop : ∀ (m x : Nat) (s : List UInt8), x ≤ m → s.length + (putV x).length ≤ 1000 → iter F_varint_Put_L1 ((x : Int), s) = some (s ++ putV x) := by
  intro m
  induction m with
  | zero =>
    intro x s hm hl
    obtain rfl : x = 0 := by omega
    have e : putV 0 = [0] := putV_lo (by omega)
    rw [e] at hl ⊢
    simp only [List.length_cons, List.length_nil] at hl
    apply iter_inr
    unfold F_varint_Put_L1
    dsimp only
    rw [ps7, pc8, if_pos (by omega), if_neg (by rw [pilt]; omega), if_pos (by omega), if_pos (by simp [xlen]; omega), if_pos (by omega), if_neg (by rw [pilt]; omega)]
    rfl
  | succ m ih =>
    intro x s hm hl
    by_cases hx : x < 128
    · rw [putV_lo hx] at hl ⊢
      simp only [List.length_cons, List.length_nil] at hl
      apply iter_inr
      unfold F_varint_Put_L1
      dsimp only
      rw [ps7, pc8, if_pos (by omega), if_neg (by rw [pilt]; omega), if_pos (by omega), if_pos (by simp [xlen]; omega), if_pos (by omega), if_neg (by rw [pilt]; omega)]
      rw [Nat.mod_eq_of_lt hx]
      rfl
    · rw [putV_hi hx] at hl ⊢
      simp only [List.length_cons] at hl
      rw [iter_inl (y := (((x / 128 : Nat) : Int), s ++ [UInt8.ofNat (x % 128 + 128)]))]
      · rw [ih (x / 128) _ (by omega) (by simp; omega), List.append_assoc]
        rfl
      · unfold F_varint_Put_L1
        dsimp only
        rw [ps7, pc8, por128 (by omega), if_pos (by omega), if_pos (by rw [pilt]; omega), if_pos (by omega), if_pos (by simp [xlen]; omega), if_pos (by omega), if_pos (by rw [pilt]; omega), if_pos (by omega)]
        rfl
theorem p_put {x : Nat} (h : x < 18446744073709551616) : F_varint_Put (x : Int) = some (putV x) := by
  have := putV_10 h
  unfold F_varint_Put F_varint_groups
  dsimp only
  rw [p_put_loop x x [] (Nat.le_refl _) (by simp; omega)]
  rfl
theorem rput_body {self : Int → Option (List UInt8)} {x : Nat} (h : x < 18446744073709551616) (hs : ¬ x < 128 → self ((x / 128 : Nat) : Int) = some (putV (x / 128))) : B_tollbarref02_Put self (x : Int) = some (putV x) := by
  unfold B_tollbarref02_Put
  by_cases hx : x < 128
  · have e : iconv .u8 (x : Int) = (x : Int) := by simp only [iconv]; rw [pu8 (by omega) (by omega)]
    rw [if_pos (by rw [pilt]; omega), e, if_pos (by omega), putV_lo hx]
    rfl
  · have e2 : iadd .u8 ((x % 128 : Nat) : Int) 128 = ((x % 128 + 128 : Nat) : Int) := by simp only [iadd]; rw [pu8 (by omega) (by omega)]; omega
    have e3 : iquo .u64 (x : Int) 128 = ((x / 128 : Nat) : Int) := by
      simp only [iquo]
      rw [Int.tdiv_eq_ediv_of_nonneg (by omega), pu64 (by omega) (by omega)]
      omega
    have hl := putV_10 (x := x / 128) (by omega)
    rw [if_neg (by rw [pilt]; omega), pc8, e2, e3, if_pos (by omega), hs hx, putV_hi hx]
    dsimp only
    rw [if_pos (by simp [xlen]; omega)]
    rfl
theorem G_succ (n : Nat) (x : Int) : G_tollbarref02_Put (n + 1) x = B_tollbarref02_Put (G_tollbarref02_Put n) x := rfl
theorem G_zero (x : Int) : G_tollbarref02_Put 0 x = none := rfl
theorem rput_ex (m : Nat) : ∀ x : Nat, x ≤ m → x < 18446744073709551616 → ∃ n, G_tollbarref02_Put n (x : Int) = some (putV x) := by
  induction m with
  | zero =>
    intro x hm h
    refine ⟨0 + 1, ?_⟩
    rw [G_succ]
    exact rput_body h (fun hx => absurd (by omega) hx)
  | succ m ih =>
    intro x hm h
    by_cases hx : x < 128
    · refine ⟨0 + 1, ?_⟩
      rw [G_succ]
      exact rput_body h (fun h => absurd hx h)
    · obtain ⟨n, hn⟩ := ih (x / 128) (by omega) (by omega)
      refine ⟨n + 1, ?_⟩
      rw [G_succ]
      exact rput_body h (fun _ => hn)
theorem rput_mono (n : Nat) : ∀ (x : Nat) (r : List UInt8), x < 18446744073709551616 → G_tollbarref02_Put n (x : Int) = some r → r = putV x := by
  induction n with
  | zero =>
    intro x r h e
    rw [G_zero] at e
    cases e
  | succ n ih =>
    intro x r h e
    rw [G_succ] at e
    by_cases hx : x < 128
    · have := rput_body (self := G_tollbarref02_Put n) h (fun h => absurd hx h)
      exact Option.some.inj (e.symm.trans this)
    · cases hg : G_tollbarref02_Put n ((x / 128 : Nat) : Int) with
      | none =>
        exfalso
        have e3 : iquo .u64 (x : Int) 128 = ((x / 128 : Nat) : Int) := by
          simp only [iquo]
          rw [Int.tdiv_eq_ediv_of_nonneg (by omega), pu64 (by omega) (by omega)]
          omega
        unfold B_tollbarref02_Put at e
        rw [if_neg (by rw [pilt]; omega), e3, hg] at e
        dsimp only at e
        split at e <;> cases e
      | some t =>
        have ht := ih (x / 128) t (by omega) hg
        subst ht
        have := rput_body (self := G_tollbarref02_Put n) h (fun _ => hg)
        exact Option.some.inj (e.symm.trans this)
theorem p_rput {x : Nat} (h : x < 18446744073709551616) : F_tollbarref02_Put (x : Int) = some (putV x) := by
  obtain ⟨n, hn⟩ := rput_ex x x (Nat.le_refl _) h
  exact fixo_is (fun n m r s hr hs => (rput_mono n x r h hr).trans (rput_mono m x s h hs).symm) hn
end Go.Proofs.Ytknaheioedkaeaa
end
section
/-
  Package varint in plain words: what is put is got.
-/
set_option linter.unusedVariables false
set_option linter.unusedSimpArgs false
namespace Go.Proofs.Ytknaheioedkaeaa

theorem putV_facts (m : Nat) : ∀ (x : Nat) (t : List UInt8), x ≤ m → ld (putV x ++ t) + 1 = (putV x).length ∧ gv (putV x) = x ∧ (0 < x → ((putV x ++ t).getD (ld (putV x ++ t)) 0).toNat ≠ 0) := by
  have lo : ∀ (x : Nat) (t : List UInt8), x < 128 → ld (putV x ++ t) + 1 = (putV x).length ∧ gv (putV x) = x ∧ (0 < x → ((putV x ++ t).getD (ld (putV x ++ t)) 0).toNat ≠ 0) := by
    intro x t hx
    have hu := uN (n := x) (by omega)
    have hl : ld (UInt8.ofNat x :: t) = 0 := by rw [ld_cons, hu, if_neg (by omega)]
    rw [putV_lo hx, List.singleton_append, hl]
    refine ⟨rfl, ?_, ?_⟩
    · rw [gv_cons, hu]
      show x % 128 + 128 * 0 = x
      omega
    · intro h0
      show (UInt8.ofNat x).toNat ≠ 0
      omega
  induction m with
  | zero => intro x t hm; exact lo x t (by omega)
  | succ m ih =>
    intro x t hm
    by_cases hx : x < 128
    · exact lo x t hx
    · obtain ⟨h1, h2, h3⟩ := ih (x / 128) t (by omega)
      have hu := uN (n := x % 128 + 128) (by omega)
      have hl : ld (UInt8.ofNat (x % 128 + 128) :: (putV (x / 128) ++ t)) = ld (putV (x / 128) ++ t) + 1 := by rw [ld_cons, hu, if_pos (by omega)]
      rw [putV_hi hx, List.cons_append, hl]
      refine ⟨?_, ?_, ?_⟩
      · rw [List.length_cons, h1]
      · rw [gv_cons, hu, h2]
        omega
      · intro h0
        exact h3 (by omega)
theorem putV_ld (x : Nat) (t : List UInt8) : ld (putV x ++ t) + 1 = (putV x).length := (putV_facts x x t (Nat.le_refl _)).1
theorem putV_gv (x : Nat) : gv (putV x) = x := (putV_facts x x [] (Nat.le_refl _)).2.1
theorem putV_last {x : Nat} (h : 0 < x) (t : List UInt8) : ((putV x ++ t).getD (ld (putV x ++ t)) 0).toNat ≠ 0 := (putV_facts x x t (Nat.le_refl _)).2.2 h
theorem getV_put {x : Nat} (h : x < 18446744073709551616) (t : List UInt8) : getV (putV x ++ t) = ((x : Int), (((putV x).length : Nat) : Int), 0) := by
  have h1 := putV_ld x t
  have h2 := putV_10 h
  have ht : (putV x ++ t).take (ld (putV x ++ t) + 1) = putV x := by rw [h1, List.take_left]
  rw [getV_ok (by omega) (by simp only [List.length_append]; omega) (by rw [ht, putV_gv]; exact h) ?_, ht, putV_gv, h1]
  rintro ⟨h3, h4⟩
  by_cases h0 : 0 < x
  · exact putV_last h0 t h4
  · obtain rfl : x = 0 := by omega
    rw [putV_lo (by omega)] at h1
    simp only [List.length_cons, List.length_nil] at h1
    rw [putV_lo (by omega)] at h3
    omega
theorem getV_cutoff {x : Nat} (h : x < 18446744073709551616) : getV ((putV x).take ((putV x).length - 1)) = (0, 0, 10) := by
  have h1 := putV_ld x []
  rw [List.append_nil] at h1
  have h2 := putV_10 h
  have h3 := ld_take (putV x) ((putV x).length - 1)
  exact getV_short (by omega) (by rw [List.length_take]; omega)
theorem putV_inj {x y : Nat} (h : putV x = putV y) : x = y := by rw [← putV_gv x, h, putV_gv]
theorem putV_pre {x y : Nat} (h : (putV x).length ≤ (putV y).length) (hp : (putV y).take (putV x).length = putV x) : x = y := by
  have e : putV y = putV x ++ (putV y).drop (putV x).length := by
    conv => lhs; rw [← List.take_append_drop (putV x).length (putV y), hp]
  have h1 := putV_ld x ((putV y).drop (putV x).length)
  rw [← e] at h1
  have h2 := putV_ld y []
  rw [List.append_nil] at h2
  have h3 : (putV y).take (putV x).length = putV y := List.take_of_length_le (by omega)
  exact putV_inj (hp.symm.trans h3)
theorem putV_mono (m : Nat) : ∀ x y : Nat, x ≤ m → x ≤ y → (putV x).length ≤ (putV y).length := by
  have pos : ∀ y : Nat, 1 ≤ (putV y).length := fun y => by have := putV_ld y []; omega
  induction m with
  | zero =>
    intro x y hm hxy
    obtain rfl : x = 0 := by omega
    have := pos y
    rw [putV_lo (n := 0) (by omega)]
    simpa using this
  | succ m ih =>
    intro x y hm hxy
    by_cases hx : x < 128
    · rw [putV_lo hx]
      simpa using pos y
    · rw [putV_hi hx, putV_hi (n := y) (by omega), List.length_cons, List.length_cons]
      have := ih (x / 128) (y / 128) (by omega) (Nat.div_le_div_right hxy)
      omega
/-- What is got is put as the very bytes. -/
theorem putV_get : ∀ s : List UInt8, ld s < s.length → (ld s = 0 ∨ (s.getD (ld s) 0).toNat ≠ 0) → putV (gv (s.take (ld s + 1))) = s.take (ld s + 1)
  | [], h, _ => by simp at h
  | c :: t, h, hz => by
    have hc : c.toNat < 256 := c.toNat_lt
    by_cases hm : 128 ≤ c.toNat
    · have e : ld (c :: t) = ld t + 1 := by rw [ld_cons, if_pos hm]
      rw [e] at h hz ⊢
      simp only [List.length_cons] at h
      have hz2 : (t.getD (ld t) 0).toNat ≠ 0 := by
        rcases hz with hz | hz
        · omega
        · exact hz
      have ih := putV_get t (by omega) (.inr hz2)
      rw [List.take_succ_cons, gv_cons]
      generalize hG : gv (t.take (ld t + 1)) = G at *
      have hG0 : G ≠ 0 := by
        rintro rfl
        rw [putV_lo (by omega)] at ih
        have hl := congrArg List.length ih
        rw [List.length_take] at hl
        simp only [List.length_cons, List.length_nil] at hl
        have h0 : ld t = 0 := by omega
        rw [h0] at ih hz2
        apply hz2
        cases t with
        | nil => rfl
        | cons d t =>
          simp only [List.take_succ_cons, List.take_zero, List.cons.injEq, and_true] at ih
          show d.toNat = 0
          rw [← ih]
          rfl
      have e1 : (c.toNat % 128 + 128 * G) / 128 = G := by omega
      have e2 : (c.toNat % 128 + 128 * G) % 128 + 128 = c.toNat := by omega
      rw [putV_hi (by omega), e1, e2, ih]
      simp
    · have e : ld (c :: t) = 0 := by rw [ld_cons, if_neg hm]
      rw [e]
      have e1 : (c :: t).take (0 + 1) = [c] := by simp
      rw [e1, gv_cons]
      have e2 : c.toNat % 128 + 128 * gv [] = c.toNat := by show c.toNat % 128 + 128 * 0 = _; omega
      rw [e2, putV_lo (by omega)]
      simp
/-- What Get tells, case by case. -/
theorem getV_own (s : List UInt8) : (∃ v n : Nat, v < 18446744073709551616 ∧ 1 ≤ n ∧ n ≤ s.length ∧ getV s = ((v : Int), (n : Int), 0) ∧ putV v = s.take n) ∨ ∃ e : Int, e ≠ 0 ∧ getV s = (0, 0, e) := by
  have hl := ld_le s
  by_cases h10 : 10 ≤ ld s
  · exact .inr ⟨14, by omega, getV_big h10⟩
  · by_cases h2 : ld s = s.length
    · exact .inr ⟨10, by omega, getV_short (by omega) h2⟩
    · by_cases h3 : 18446744073709551616 ≤ gv (s.take (ld s + 1))
      · exact .inr ⟨14, by omega, getV_over (by omega) (by omega) h3⟩
      · by_cases h4 : 0 < ld s ∧ (s.getD (ld s) 0).toNat = 0
        · exact .inr ⟨11, by omega, getV_form (by omega) (by omega) (by omega) h4.1 h4.2⟩
        · exact .inl ⟨_, _, by omega, by omega, by omega, getV_ok (by omega) (by omega) (by omega) h4, putV_get s (by omega) (by omega)⟩

end Go.Proofs.Ytknaheioedkaeaa
end
section
/-
  What the functions of package octet tell that package varint calls.
-/
set_option linter.unusedVariables false
set_option linter.unusedSimpArgs false
namespace Go.Proofs.Ytknaheioedkaeaa

theorem pshl8 {x : Int} (h0 : 0 ≤ x) (h : x < 72057594037927936) : ishl .u64 x 8 = x * 256 := by
  simp only [ishl, IntKind.bits]
  rw [show min (8 : Int).toNat 64 = 8 from rfl, show (2 : Int) ^ 8 = 256 from rfl, pu64 (by omega) (by omega)]
theorem por8 {x c : Int} (h0 : 0 ≤ x) (h : x < 72057594037927936) (hc : 0 ≤ c) (hc2 : c < 256) : ior .u64 (x * 256) c = x * 256 + c := by
  obtain ⟨a, rfl⟩ := Int.eq_ofNat_of_zero_le h0
  obtain ⟨b, rfl⟩ := Int.eq_ofNat_of_zero_le hc
  show IntKind.u64.wrap (((BitVec.ofInt 64 ((a : Int) * 256) ||| BitVec.ofInt 64 (b : Int)).toNat : Nat) : Int) = _
  have e1 : BitVec.ofInt 64 ((a : Int) * 256) = BitVec.ofNat 64 (a * 256) := by
    rw [show ((a : Int) * 256) = ((a * 256 : Nat) : Int) by omega]; exact BitVec.ofInt_natCast 64 _
  have e2 : BitVec.ofInt 64 (b : Int) = BitVec.ofNat 64 b := BitVec.ofInt_natCast 64 _
  rw [e1, e2, BitVec.toNat_or, BitVec.toNat_ofNat, BitVec.toNat_ofNat, Nat.mod_eq_of_lt (by omega), Nat.mod_eq_of_lt (by omega)]
  have e3 : a * 256 ||| b = a * 256 + b := by
    have := Nat.shiftLeft_add_eq_or_of_lt (i := 8) (b := b) (by omega) a
    rw [Nat.shiftLeft_eq] at this
    exact this.symm
  rw [e3, pu64 (by omega) (by omega)]
  omega

/-- The number of bytes, the greatest first. -/
def valB (s : List UInt8) : Nat := s.foldl (fun x c => x * 256 + c.toNat) 0
theorem valB_snoc (s : List UInt8) (c : UInt8) : valB (s ++ [c]) = valB s * 256 + c.toNat := by simp [valB]
theorem valB_take {s : List UInt8} {i : Nat} (h : i < s.length) : valB (s.take (i + 1)) = valB (s.take i) * 256 + s[i].toNat := by
  rw [List.take_succ_eq_append_getElem h, valB_snoc]
theorem valB_mono {s : List UInt8} : ∀ (n i : Nat), i + n ≤ s.length → valB (s.take i) ≤ valB (s.take (i + n))
  | 0, i, h => Nat.le_refl _
  | n + 1, i, h => by
    have ih := valB_mono (s := s) n i (by omega)
    rw [← Nat.add_assoc, valB_take (by omega)]
    omega
theorem p_value (s : List UInt8) (hl : s.length ≤ 1000000) : F_octet_Value s = some (if valB s < 18446744073709551616 then ((valB s : Int), true) else (0, false)) := by
  unfold F_octet_Value
  have key : ∀ (m i : Nat), i + m = s.length → valB (s.take i) < 18446744073709551616 → iter (F_octet_Value_L1 s) ((valB (s.take i) : Int), (i : Int)) = some (if valB s < 18446744073709551616 then ((valB s : Int), true) else (0, false)) := by
    intro m
    induction m with
    | zero =>
      intro i hi hv
      have : s.take i = s := List.take_of_length_le (by omega)
      rw [this] at hv ⊢
      apply iter_inr
      unfold F_octet_Value_L1
      dsimp only
      rw [if_neg (by simp only [pilt, ofN, xlen]; omega), if_pos hv]
    | succ m ih =>
      intro i hi hv
      have hlt : i < s.length := by omega
      have es : ishr .u64 (valB (s.take i) : Int) 56 = ((valB (s.take i) / 72057594037927936 : Nat) : Int) := by
        have := pshr (x := (valB (s.take i) : Int)) (n := 56) (by omega)
        rw [show ((56 : Nat) : Int) = 56 from rfl] at this
        rw [this]
        omega
      have eg : getB s (toN (i : Int)) = ((s[i].toNat : Nat) : Int) := pgetB (by exact hlt)
      have hc : s[i].toNat < 256 := s[i].toNat_lt
      by_cases hb : 72057594037927936 ≤ valB (s.take i)
      · apply iter_inr
        unfold F_octet_Value_L1
        dsimp only
        rw [if_pos (by simp only [pilt, ofN, xlen]; omega), if_pos (by simp only [ofN, xlen]; omega), if_pos (by omega), es, if_pos (by rw [pilt]; omega)]
        have h1 := valB_take hlt
        have h2 := valB_mono (s := s) (s.length - (i + 1)) (i + 1) (by omega)
        rw [show i + 1 + (s.length - (i + 1)) = s.length by omega, List.take_of_length_le (Nat.le_refl _)] at h2
        rw [if_neg (by omega)]
      · rw [iter_inl (y := ((valB (s.take (i + 1)) : Int), ((i + 1 : Nat) : Int)))]
        · refine ih (i + 1) (by omega) ?_
          rw [valB_take hlt]; omega
        · unfold F_octet_Value_L1
          dsimp only
          have ec : iconv .u64 ((s[i].toNat : Nat) : Int) = ((s[i].toNat : Nat) : Int) := by simp only [iconv]; rw [pu64 (by omega) (by omega)]
          rw [if_pos (by simp only [pilt, ofN, xlen]; omega), if_pos (by simp only [ofN, xlen]; omega), if_pos (by omega), es, if_neg (by rw [pilt]; omega), if_pos (by omega), pshl8 (by omega) (by omega), eg, ec, por8 (by omega) (by omega) (by omega) (by omega), pnext (by omega), valB_take hlt]
          congr 3
  exact key s.length 0 (by omega) (by simp [valB])

theorem valB_lt : ∀ (s : List UInt8), valB s < 256 ^ s.length := by
  intro s
  have key : ∀ (s : List UInt8) (x : Nat), s.foldl (fun x c => x * 256 + c.toNat) x < (x + 1) * 256 ^ s.length := by
    intro s
    induction s with
    | nil => intro x; simp
    | cons c s ih =>
      intro x
      have := ih (x * 256 + c.toNat)
      have hc : c.toNat < 256 := c.toNat_lt
      simp only [List.foldl_cons, List.length_cons, Nat.pow_succ]
      refine Nat.lt_of_lt_of_le this ?_
      rw [Nat.mul_comm (256 ^ s.length) 256, ← Nat.mul_assoc]
      exact Nat.mul_le_mul_right _ (by omega)
  simpa [valB] using key s 0
/-- So many bytes read: these, what is left, and what went wrong first. -/
def wB (n : Int) (w : List UInt8) (e : Int) : List UInt8 × List UInt8 × Int :=
  if e ≠ 0 then ([], w, e) else if n < 0 then ([], w, 1) else if (w.length : Int) < n then ([], w, 10) else (w.take n.toNat, w.drop n.toNat, 0)
/-- A number of so many bytes. -/
def wN (n : Int) (w : List UInt8) (e : Int) : Int × List UInt8 × Int :=
  if e ≠ 0 then (0, w, e) else if n < 1 ∨ 8 < n then (0, w, 1) else ((valB (wB n w e).1 : Int), (wB n w e).2.1, (wB n w e).2.2)
theorem wB_len {n : Int} {w : List UInt8} {e : Int} : (wB n w e).1.length ≤ w.length ∧ (wB n w e).2.1.length ≤ w.length := by
  unfold wB
  split
  · exact ⟨by simp, Nat.le_refl _⟩
  · split
    · exact ⟨by simp, Nat.le_refl _⟩
    · split
      · exact ⟨by simp, Nat.le_refl _⟩
      · exact ⟨by simp [List.length_take]; omega, by simp⟩
theorem wB_len8 {n : Int} {w : List UInt8} {e : Int} (h : n ≤ 8) : (wB n w e).1.length ≤ 8 := by
  unfold wB
  split
  · simp
  · split
    · simp
    · split
      · simp
      · simp [List.length_take]; omega
theorem valB8 {s : List UInt8} (h : s.length ≤ 8) : valB s < 18446744073709551616 := by
  have h1 := valB_lt s
  have h2 : 256 ^ s.length ≤ 256 ^ 8 := Nat.pow_le_pow_right (by omega) h
  have h3 : (256 : Nat) ^ 8 = 18446744073709551616 := by decide
  omega
/-- Where a window stands in its row. -/
structure WS (s : List UInt8) (n1 n2 : Nat) (w : List UInt8) : Prop where
  h : n1 + n2 ≤ s.length
  w : lsub s n1 n2 = w
theorem WS.len {s : List UInt8} {n1 n2 : Nat} {w : List UInt8} (h : WS s n1 n2 w) : w.length = n2 := by
  have := h.h
  rw [← h.w]
  simp [lsub]
  omega
theorem WS.all (s : List UInt8) : WS s 0 s.length s := ⟨by omega, by simp [lsub]⟩
theorem WS.cut {s : List UInt8} {n1 n2 : Nat} {w : List UInt8} (h : WS s n1 n2 w) {k : Nat} (hk : k ≤ n2) : WS s (n1 + k) (n2 - k) (w.drop k) := by
  have := h.h
  refine ⟨by omega, ?_⟩
  rw [← h.w]
  simp only [lsub]
  rw [List.drop_take, List.drop_drop]
theorem p_fail2 {x e : Int} {n1 n2 : Nat} {s : List UInt8} : F_octet_Window_fail_2 x n1 n2 e s = some (if e = 0 then x else e) := by
  unfold F_octet_Window_fail_2
  by_cases h : e = 0
  · rw [if_pos (by rw [pieq]; exact h), if_pos h]
  · rw [if_neg (by rw [pieq]; exact h), if_neg h]
/-- What is copied out of a window. -/
theorem copy_take {w : List UInt8} {n : Nat} (h : n ≤ w.length) : lspl (@lrep UInt8 n 0) 0 (lsub w 0 (nmin (xlen (@lrep UInt8 n 0)) (xlen w))) = w.take n := by
  have : min n w.length = n := by omega
  simp [lspl, lrep, lsub, nmin, xlen, this]
theorem p_bytes2 {n e : Int} {s w : List UInt8} {n1 n2 : Nat} (hW : WS s n1 n2 w) (hs : s.length ≤ 1000000) : ∃ k1 k2, F_octet_Window_Bytes_2 n n1 n2 e s = some (k1, k2, (wB n w e).2.2, (wB n w e).1) ∧ WS s k1 k2 (wB n w e).2.1 := by
  have hl := hW.len
  have hh := hW.h
  unfold F_octet_Window_Bytes_2 wB
  by_cases e0 : e = 0
  · subst e0
    rw [if_neg (show ¬ (0 : Int) ≠ 0 by simp)]
    by_cases h1 : n < 0
    · rw [if_pos h1]
      refine ⟨n1, n2, ?_, hW⟩
      rw [if_pos (by rw [pilt]; exact h1), p_fail2, if_pos rfl]
      dsimp only
      rw [if_neg (by rw [pieq]; omega)]
    · rw [if_neg h1]
      by_cases h2 : (w.length : Int) < n
      · rw [if_pos h2]
        refine ⟨n1, n2, ?_, hW⟩
        rw [if_neg (by rw [pilt]; exact h1), if_pos (by rw [pilt]; simp only [ofN]; omega), p_fail2, if_pos rfl]
        dsimp only
        rw [if_neg (by rw [pieq]; omega)]
      · rw [if_neg h2]
        obtain ⟨k, rfl⟩ : ∃ k : Nat, n = (k : Int) := ⟨n.toNat, by omega⟩
        have hk : k ≤ w.length := by omega
        have em : nmin (xlen (@lrep UInt8 (toN (k : Int)) 0)) (xlen (lsub s n1 n2)) = k := by
          rw [hW.w]; simp [nmin, xlen, lrep, toN]; omega
        refine ⟨n1 + k, n2 - k, ?_, hW.cut (by omega)⟩
        rw [if_neg (by rw [pilt]; exact h1), if_neg (by rw [pilt]; simp only [ofN]; omega), if_pos (by rw [pieq]), if_pos ⟨by omega, by omega, by simp; omega, by omega⟩, em, if_pos (by simp only [ofN]; omega)]
        have ec := copy_take hk
        have em2 : nmin (xlen (@lrep UInt8 k 0)) (xlen w) = k := by simp [nmin, xlen, lrep]; omega
        rw [em2] at ec
        rw [hW.w]
        show some (n1 + k, n2 - k, (0 : Int), lspl (@lrep UInt8 k 0) 0 (lsub w 0 k)) = _
        rw [ec]
        rfl
  · rw [if_pos e0]
    refine ⟨n1, n2, ?_, hW⟩
    by_cases h1 : n < 0
    · rw [if_pos (by rw [pilt]; exact h1), p_fail2, if_neg e0]
      dsimp only
      rw [if_neg (by rw [pieq]; exact e0)]
    · rw [if_neg (by rw [pilt]; exact h1)]
      by_cases h2 : (n2 : Int) < n
      · rw [if_pos (by rw [pilt]; exact h2), p_fail2, if_neg e0]
        dsimp only
        rw [if_neg (by rw [pieq]; exact e0)]
      · rw [if_neg (by rw [pilt]; exact h2), if_neg (by rw [pieq]; exact e0)]
theorem p_num2 {n e : Int} {s w : List UInt8} {n1 n2 : Nat} (hW : WS s n1 n2 w) (hs : s.length ≤ 1000000) : ∃ k1 k2, F_octet_Window_Num_2 n n1 n2 e s = some ((wN n w e).1, k1, k2, (wN n w e).2.2) ∧ WS s k1 k2 (wN n w e).2.1 := by
  unfold F_octet_Window_Num_2 wN
  by_cases h1 : n < 1
  · refine ⟨n1, n2, ?_, ?_⟩
    · rw [if_pos (by rw [pilt]; exact h1), p_fail2]
      by_cases e0 : e = 0
      · rw [if_pos e0, if_neg (by simp [e0]), if_pos (.inl h1)]
      · rw [if_neg e0, if_pos e0]
    · by_cases e0 : e = 0
      · rw [if_neg (by simp [e0]), if_pos (.inl h1)]; exact hW
      · rw [if_pos e0]; exact hW
  · by_cases h8 : 8 < n
    · refine ⟨n1, n2, ?_, ?_⟩
      · rw [if_neg (by rw [pilt]; exact h1), if_pos (by rw [pilt]; exact h8), p_fail2]
        by_cases e0 : e = 0
        · rw [if_pos e0, if_neg (by simp [e0]), if_pos (.inr h8)]
        · rw [if_neg e0, if_pos e0]
      · by_cases e0 : e = 0
        · rw [if_neg (by simp [e0]), if_pos (.inr h8)]; exact hW
        · rw [if_pos e0]; exact hW
    · obtain ⟨k1, k2, eb, hk⟩ := p_bytes2 (n := n) (e := e) hW hs
      have hlen := wB_len8 (w := w) (e := e) (n := n) (by omega)
      have hv := valB8 hlen
      rw [if_neg (by rw [pilt]; exact h1), if_neg (by rw [pilt]; exact h8), eb]
      dsimp only
      rw [p_value _ (by omega), if_pos hv]
      dsimp only
      by_cases e0 : e = 0
      · rw [if_neg (show ¬ e ≠ 0 by simp [e0]), if_neg (by omega)]
        exact ⟨k1, k2, rfl, hk⟩
      · rw [if_pos e0]
        have e1 : wB n w e = ([], w, e) := by unfold wB; rw [if_pos e0]
        rw [e1] at hk ⊢
        exact ⟨k1, k2, rfl, hk⟩
theorem p_open {s : List UInt8} (h : s.length ≤ 1000000) : F_octet_Open s = some s := by
  have : cloneB s = some s := by
    unfold cloneB
    rw [if_pos (by simp [xlen]; omega)]
  unfold F_octet_Open
  rw [this]
theorem wN1 {w : List UInt8} {e : Int} : 0 ≤ (wN 1 w e).1 ∧ (wN 1 w e).1 < 256 := by
  unfold wN
  split
  · omega
  · split
    · omega
    · have h : (wB 1 w e).1.length ≤ 1 := by
        unfold wB
        split
        · simp
        · split
          · simp
          · split
            · simp
            · simp [List.length_take]; omega
      have h1 := valB_lt (wB 1 w e).1
      have h2 : 256 ^ (wB 1 w e).1.length ≤ 256 ^ 1 := Nat.pow_le_pow_right (by omega) h
      omega
theorem p_left {n1 n2 : Nat} {e : Int} {s w : List UInt8} (hW : WS s n1 n2 w) : F_octet_Window_Left_2 n1 n2 e s = some (ofN (xlen w)) := by
  unfold F_octet_Window_Left_2
  rw [← hW.len]
  rfl
theorem p_byte2 {e : Int} {s w : List UInt8} {n1 n2 : Nat} (hW : WS s n1 n2 w) (hs : s.length ≤ 1000000) : ∃ k1 k2, F_octet_Window_Byte_2 n1 n2 e s = some ((wN 1 w e).1, k1, k2, (wN 1 w e).2.2) ∧ WS s k1 k2 (wN 1 w e).2.1 := by
  obtain ⟨k1, k2, h1, h2⟩ := p_num2 (n := 1) (e := e) hW hs
  have := wN1 (w := w) (e := e)
  refine ⟨k1, k2, ?_, h2⟩
  unfold F_octet_Window_Byte_2
  rw [h1]
  dsimp only
  have e1 : iconv .u8 (wN 1 w e).1 = (wN 1 w e).1 := by simp only [iconv]; rw [pu8 this.1 this.2]
  rw [e1]
end Go.Proofs.Ytknaheioedkaeaa
end
section
/-
  Package varint in plain words: what is put is got; taking from a window; the document's example.
-/
set_option linter.unusedVariables false
set_option linter.unusedSimpArgs false
namespace Go.Proofs.Ytknaheioedkaeaa

theorem p_len_loop : ∀ (m x i : Nat), x ≤ m → i + (putV x).length ≤ 1000 → iter F_varint_Len_L1 ((i : Int), (x : Int)) = some (((i + (putV x).length : Nat)) : Int) := by
  intro m
  induction m with
  | zero =>
    intro x i hm hl
    obtain rfl : x = 0 := by omega
    have e : putV 0 = [0] := putV_lo (by omega)
    rw [e] at hl ⊢
    simp only [List.length_cons, List.length_nil] at hl
    apply iter_inr
    unfold F_varint_Len_L1
    dsimp only
    rw [ps7, if_pos (by omega), if_pos (by omega), if_neg (by rw [pilt]; omega), pnext (by omega)]
    rfl
  | succ m ih =>
    intro x i hm hl
    by_cases hx : x < 128
    · rw [putV_lo hx] at hl ⊢
      simp only [List.length_cons, List.length_nil] at hl
      apply iter_inr
      unfold F_varint_Len_L1
      dsimp only
      rw [ps7, if_pos (by omega), if_pos (by omega), if_neg (by rw [pilt]; omega), pnext (by omega)]
      rfl
    · rw [putV_hi hx] at hl ⊢
      simp only [List.length_cons] at hl
      rw [iter_inl (y := (((i + 1 : Nat) : Int), ((x / 128 : Nat) : Int)))]
      · rw [ih (x / 128) (i + 1) (by omega) (by omega), List.length_cons, Nat.add_right_comm, Nat.add_assoc]
      · unfold F_varint_Len_L1
        dsimp only
        rw [ps7, if_pos (by omega), if_pos (by omega), if_pos (by rw [pilt]; omega), if_pos (by omega), pnext (by omega)]
theorem p_len {x : Nat} (h : x < 18446744073709551616) : F_varint_Len (x : Int) = some (((putV x).length : Nat) : Int) := by
  have := putV_10 h
  unfold F_varint_Len F_varint_groups
  dsimp only
  have h2 := p_len_loop x x 0 (Nat.le_refl _) (by omega)
  rw [Nat.zero_add] at h2
  exact h2
/-! Taking. -/
theorem take_loop {s w : List UInt8} {T : Type} {B : Nat × Nat × Int × List UInt8 → Option ((Nat × Nat × Int × List UInt8) ⊕ T)} {P : T → Prop}
    (h1 : ∀ n3 n4 w' b, WS s n3 n4 w' → b = w.take 10 → (w' = [] ∨ 10 ≤ b.length) → ∃ r, B (n3, n4, 0, b) = some (.inr r) ∧ P r)
    (h2 : ∀ n3 n4 c w' b, WS s n3 n4 (c :: w') → b.length < 10 → ∃ k1 k2, B (n3, n4, 0, b) = some (.inl (k1, k2, 0, b ++ [c])) ∧ WS s k1 k2 w') :
    ∀ (w' : List UInt8) (n3 n4 : Nat) (b : List UInt8), WS s n3 n4 w' → b ++ w' = w → b.length ≤ 10 → ∃ r, iter B (n3, n4, 0, b) = some r ∧ P r
  | [], n3, n4, b, hW, hw, hb => by
    obtain ⟨r, h, hp⟩ := h1 n3 n4 [] b hW (by rw [← hw, List.append_nil, List.take_of_length_le hb]) (.inl rfl)
    exact ⟨r, iter_inr h, hp⟩
  | c :: w', n3, n4, b, hW, hw, hb => by
    by_cases h10 : b.length < 10
    · obtain ⟨k1, k2, h, hW2⟩ := h2 n3 n4 c w' b hW h10
      rw [iter_inl h]
      exact take_loop h1 h2 w' k1 k2 (b ++ [c]) hW2 (by rw [← hw, List.append_assoc]; rfl) (by simp; omega)
    · obtain ⟨r, h, hp⟩ := h1 n3 n4 (c :: w') b hW (by
        have : b.length = 10 := by omega
        rw [← hw, ← this, List.take_left]) (.inr (by omega))
      exact ⟨r, iter_inr h, hp⟩
theorem wN1c (c : UInt8) (w : List UInt8) : wN 1 (c :: w) 0 = ((c.toNat : Int), w, 0) := by
  have e : wB 1 (c :: w) 0 = ([c], w, 0) := by
    unfold wB
    rw [if_neg (by simp), if_neg (by omega), if_neg (by simp only [List.length_cons]; omega)]
    rfl
  unfold wN
  rw [if_neg (by simp), if_neg (by omega), e]
  simp [valB]
theorem bO (c : UInt8) : byteOf ((c.toNat : Nat) : Int) = c := by
  show UInt8.ofNat ((c.toNat : Int)).toNat = c
  simp
/-- What is told where a number is taken, and what is left. -/
def tkV (w : List UInt8) (e : Int) : Int × Int × List UInt8 :=
  if e = 0 then ((getV w).1, (getV w).2.2, w.drop (getV w).2.1.toNat) else (0, e, w)
theorem wB_get (w : List UInt8) : (wB (getV w).2.1 w 0).2 = (w.drop (getV w).2.1.toNat, 0) := by
  obtain ⟨n, h1, h2⟩ := getV_n w
  rw [h1]
  unfold wB
  rw [if_neg (by simp), if_neg (by omega), if_neg (by omega)]
theorem getV_take (w : List UInt8) : getV (w.take 10) = getV w := getV_cut w
theorem p_take2 {s w : List UInt8} {n1 n2 : Nat} {e : Int} (hW : WS s n1 n2 w) (hs : s.length ≤ 1000000) : ∃ k1 k2, F_varint_Take_2 n1 n2 e s = some ((tkV w e).1, (tkV w e).2.1, k1, k2, e) ∧ WS s k1 k2 (tkV w e).2.2 := by
  unfold F_varint_Take_2 F_octet_Window_Err_2
  dsimp only
  by_cases he : e = 0
  · subst he
    rw [if_pos (by rw [pieq])]
    have et : tkV w 0 = ((getV w).1, (getV w).2.2, w.drop (getV w).2.1.toNat) := by unfold tkV; rw [if_pos rfl]
    rw [et]
    suffices hh : ∃ r, iter (F_varint_Take_2_L1 s n1 n2 0) (n1, n2, 0, []) = some r ∧ ∃ k1 k2, r = ((getV w).1, (getV w).2.2, k1, k2, 0) ∧ WS s k1 k2 (w.drop (getV w).2.1.toNat) by
      obtain ⟨r, hr, k1, k2, e1, e2⟩ := hh
      exact ⟨k1, k2, by rw [hr, e1], e2⟩
    refine take_loop (s := s) (w := w) (B := F_varint_Take_2_L1 s n1 n2 0) (P := fun r => ∃ k1 k2, r = ((getV w).1, (getV w).2.2, k1, k2, 0) ∧ WS s k1 k2 (w.drop (getV w).2.1.toNat)) ?_ ?_ w n1 n2 [] hW rfl (by simp)
    · intro n3 n4 w' b hW' hb hx
      have hg : F_varint_Get b = some (getV w) := by
        rw [p_get (by rw [hb, List.length_take]; omega), hb, getV_take]
      obtain ⟨k1, k2, h1, h2⟩ := p_bytes2 (n := (getV w).2.1) (e := 0) hW hs
      have hwb := wB_get w
      refine ⟨((getV w).1, (getV w).2.2, k1, k2, 0), ?_, k1, k2, rfl, ?_⟩
      · unfold F_varint_Take_2_L1
        dsimp only
        rw [p_left hW']
        dsimp only
        rcases hx with rfl | hx
        · rw [if_neg (by rw [pilt]; simp [ofN, xlen]), hg]
          generalize getV w = gg at *
          obtain ⟨x, n, er⟩ := gg
          dsimp only at h1 hwb ⊢
          rw [h1, hwb]
        · by_cases h0 : 0 < w'.length
          · rw [if_pos (by rw [pilt]; simp only [ofN, xlen]; omega), if_neg (by rw [pilt]; simp only [ofN, xlen]; omega), hg]
            generalize getV w = gg at *
            obtain ⟨x, n, er⟩ := gg
            dsimp only at h1 hwb ⊢
            rw [h1, hwb]
          · rw [if_neg (by rw [pilt]; simp only [ofN, xlen]; omega), hg]
            generalize getV w = gg at *
            obtain ⟨x, n, er⟩ := gg
            dsimp only at h1 hwb ⊢
            rw [h1, hwb]
      · rw [hwb] at h2
        exact h2
    · intro n3 n4 c w' b hW' hb
      obtain ⟨k1, k2, h1, h2⟩ := p_byte2 (e := 0) hW' hs
      rw [wN1c] at h1 h2
      have hc : c.toNat < 256 := c.toNat_lt
      refine ⟨k1, k2, ?_, h2⟩
      unfold F_varint_Take_2_L1
      dsimp only
      rw [p_left hW']
      dsimp only
      rw [if_pos (by rw [pilt]; simp only [ofN, xlen, List.length_cons]; omega), if_pos (by rw [pilt]; simp only [ofN, xlen]; omega), h1]
      dsimp only
      rw [if_pos (by omega), if_pos (by simp [xlen]; omega), bO]
      rfl
  · rw [if_neg (by rw [pieq]; exact he)]
    have et : tkV w e = (0, e, w) := by unfold tkV; rw [if_neg he]
    rw [et]
    exact ⟨n1, n2, rfl, hW⟩
end Go.Proofs.Ytknaheioedkaeaa
end
section
/-
  More fuel tells no less (printed by a program of ours).
-/
set_option linter.unusedVariables false
set_option linter.unusedSimpArgs false
namespace Go.Proofs.Ytknaheioedkaeaa

theorem mono_F_tlv_right_L1 {self self' : (List D) → Int → Option (Bool)} (h_self : ∀ a0 a1, OLe (self a0 a1) (self' a0 a1)) (r1 : List D) (x1 : Int) : ∀ x, OLe (F_tlv_right_L1 self r1 x1 x) (F_tlv_right_L1 self' r1 x1 x) := by
  rintro i1
  · unfold F_tlv_right_L1
    (try dsimp only)
    refine OLe.ite (fun _ => ?_) (fun _ => ?_)
    · refine OLe.ite (fun _ => ?_) (fun _ => OLe.refl _)
      generalize F_tlv_Item_odd (D.toI (D.fld (getD r1 (toN i1)) 0)) (D.toS (D.fld (getD r1 (toN i1)) 1)) (D.toL (D.fld (getD r1 (toN i1)) 2)) = oq
      cases oq with
      | none => exact OLe.none _
      | some q =>
        obtain ⟨c11, hz⟩ : ∃ z, z = q := ⟨q, rfl⟩
        subst hz
        dsimp only
        refine OLe.ite (fun _ => ?_) (fun _ => ?_)
        · refine OLe.ite (fun _ => ?_) (fun _ => ?_)
          · exact OLe.refl _
          · refine OLe.ite (fun _ => ?_) (fun _ => ?_)
            · refine OLe.ite (fun _ => ?_) (fun _ => ?_)
              · exact OLe.refl _
              · have e := h_self (D.toL (D.fld (getD r1 (toN i1)) 2)) (iadd .i64 x1 (1 : Int))
                generalize self (D.toL (D.fld (getD r1 (toN i1)) 2)) (iadd .i64 x1 (1 : Int)) = oq at e ⊢
                cases oq with
                | none => exact OLe.none _
                | some q =>
                  rw [e q rfl]
                  clear e
                  obtain ⟨c13, hz⟩ : ∃ z, z = q := ⟨q, rfl⟩
                  subst hz
                  dsimp only
                  exact OLe.refl _
            · refine OLe.ite (fun _ => ?_) (fun _ => ?_)
              · exact OLe.refl _
              · refine OLe.ite (fun _ => ?_) (fun _ => ?_)
                · exact OLe.refl _
                · have e := h_self (D.toL (D.fld (getD r1 (toN i1)) 2)) (iadd .i64 x1 (1 : Int))
                  generalize self (D.toL (D.fld (getD r1 (toN i1)) 2)) (iadd .i64 x1 (1 : Int)) = oq at e ⊢
                  cases oq with
                  | none => exact OLe.none _
                  | some q =>
                    rw [e q rfl]
                    clear e
                    obtain ⟨c12, hz⟩ : ∃ z, z = q := ⟨q, rfl⟩
                    subst hz
                    dsimp only
                    exact OLe.refl _
        · refine OLe.ite (fun _ => ?_) (fun _ => ?_)
          · refine OLe.ite (fun _ => ?_) (fun _ => ?_)
            · exact OLe.refl _
            · have e := h_self (D.toL (D.fld (getD r1 (toN i1)) 2)) (iadd .i64 x1 (1 : Int))
              generalize self (D.toL (D.fld (getD r1 (toN i1)) 2)) (iadd .i64 x1 (1 : Int)) = oq at e ⊢
              cases oq with
              | none => exact OLe.none _
              | some q =>
                rw [e q rfl]
                clear e
                obtain ⟨c15, hz⟩ : ∃ z, z = q := ⟨q, rfl⟩
                subst hz
                dsimp only
                exact OLe.refl _
          · refine OLe.ite (fun _ => ?_) (fun _ => ?_)
            · exact OLe.refl _
            · refine OLe.ite (fun _ => ?_) (fun _ => ?_)
              · exact OLe.refl _
              · have e := h_self (D.toL (D.fld (getD r1 (toN i1)) 2)) (iadd .i64 x1 (1 : Int))
                generalize self (D.toL (D.fld (getD r1 (toN i1)) 2)) (iadd .i64 x1 (1 : Int)) = oq at e ⊢
                cases oq with
                | none => exact OLe.none _
                | some q =>
                  rw [e q rfl]
                  clear e
                  obtain ⟨c14, hz⟩ : ∃ z, z = q := ⟨q, rfl⟩
                  subst hz
                  dsimp only
                  exact OLe.refl _
    · exact OLe.refl _
theorem mono_B_tlv_right {self self' : (List D) → Int → Option (Bool)} (h_self : ∀ a0 a1, OLe (self a0 a1) (self' a0 a1)) (r1 : List D) (x1 : Int) : OLe (B_tlv_right self r1 x1) (B_tlv_right self' r1 x1) := by
  unfold B_tlv_right
  exact iter_le (mono_F_tlv_right_L1 h_self r1 x1) _
theorem mono_G_tlv_right : ∀ (gn : Nat) (r1 : List D) (x1 : Int), OLe (G_tlv_right gn r1 x1) (G_tlv_right (gn + 1) r1 x1)
  | 0, r1, x1 => OLe.none _
  | gn + 1, r1, x1 => mono_B_tlv_right (mono_G_tlv_right gn) r1 x1
theorem fix_tlv_right {gn : Nat} (r1 : List D) (x1 : Int) {r : Bool} (h : G_tlv_right gn r1 x1 = some r) : F_tlv_right r1 x1 = some r := fixo_is (OLe.det fun gn => mono_G_tlv_right gn r1 x1) h
theorem up_tlv_right {gn m : Nat} (r1 : List D) (x1 : Int) {r : Bool} (hm : gn ≤ m) (h : G_tlv_right gn r1 x1 = some r) : G_tlv_right m r1 x1 = some r := OLe.up (g := fun gn => G_tlv_right gn r1 x1) (fun gn => mono_G_tlv_right gn r1 x1) hm h

theorem mono_B_tlv_Item_inner {self self' : (List D) → Option (Int)} (h_self : ∀ a0, OLe (self a0) (self' a0)) (x1 : Int) (s1 : List UInt8) (r1 : List D) : OLe (B_tlv_Item_inner self x1 s1 r1) (B_tlv_Item_inner self' x1 s1 r1) := by
  unfold B_tlv_Item_inner
  generalize F_tlv_Item_odd x1 s1 r1 = oq
  cases oq with
  | none => exact OLe.none _
  | some q =>
    obtain ⟨c1, hz⟩ : ∃ z, z = q := ⟨q, rfl⟩
    subst hz
    dsimp only
    refine OLe.ite (fun _ => ?_) (fun _ => ?_)
    · have e := h_self r1
      generalize self r1 = oq at e ⊢
      cases oq with
      | none => exact OLe.none _
      | some q =>
        rw [e q rfl]
        clear e
        obtain ⟨y1, hz⟩ : ∃ z, z = q := ⟨q, rfl⟩
        subst hz
        dsimp only
        exact OLe.refl _
    · exact OLe.refl _

theorem mono_F_tlv_Size_L1 {self_tlv_Item_inner self_tlv_Item_inner' : Int → (List UInt8) → (List D) → Option (Int)} (h_self_tlv_Item_inner : ∀ a0 a1 a2, OLe (self_tlv_Item_inner a0 a1 a2) (self_tlv_Item_inner' a0 a1 a2)) (r1 : List D) : ∀ x, OLe (F_tlv_Size_L1 self_tlv_Item_inner r1 x) (F_tlv_Size_L1 self_tlv_Item_inner' r1 x) := by
  rintro ⟨i1, i2⟩
  · unfold F_tlv_Size_L1
    (try dsimp only)
    refine OLe.ite (fun _ => ?_) (fun _ => ?_)
    · refine OLe.ite (fun _ => ?_) (fun _ => OLe.refl _)
      have e := h_self_tlv_Item_inner (D.toI (D.fld (getD r1 (toN i2)) 0)) (D.toS (D.fld (getD r1 (toN i2)) 1)) (D.toL (D.fld (getD r1 (toN i2)) 2))
      generalize self_tlv_Item_inner (D.toI (D.fld (getD r1 (toN i2)) 0)) (D.toS (D.fld (getD r1 (toN i2)) 1)) (D.toL (D.fld (getD r1 (toN i2)) 2)) = oq at e ⊢
      cases oq with
      | none => exact OLe.none _
      | some q =>
        rw [e q rfl]
        clear e
        obtain ⟨y7, hz⟩ : ∃ z, z = q := ⟨q, rfl⟩
        subst hz
        dsimp only
        exact OLe.refl _
    · exact OLe.refl _
theorem mono_B_tlv_Size {self self' : (List D) → Option (Int)} (h_self : ∀ a0, OLe (self a0) (self' a0)) {self_tlv_Item_inner self_tlv_Item_inner' : Int → (List UInt8) → (List D) → Option (Int)} (h_self_tlv_Item_inner : ∀ a0 a1 a2, OLe (self_tlv_Item_inner a0 a1 a2) (self_tlv_Item_inner' a0 a1 a2)) (r1 : List D) : OLe (B_tlv_Size self self_tlv_Item_inner r1) (B_tlv_Size self' self_tlv_Item_inner' r1) := by
  unfold B_tlv_Size
  exact iter_le (mono_F_tlv_Size_L1 h_self_tlv_Item_inner r1) _
theorem mono_G_tlv_Size : ∀ (gn : Nat) (r1 : List D), OLe (G_tlv_Size gn r1) (G_tlv_Size (gn + 1) r1)
  | 0, r1 => OLe.none _
  | gn + 1, r1 => mono_B_tlv_Size (mono_G_tlv_Size gn) (fun a0 a1 a2 => mono_B_tlv_Item_inner (mono_G_tlv_Size gn) a0 a1 a2) r1
theorem fix_tlv_Size {gn : Nat} (r1 : List D) {r : Int} (h : G_tlv_Size gn r1 = some r) : F_tlv_Size r1 = some r := fixo_is (OLe.det fun gn => mono_G_tlv_Size gn r1) h
theorem up_tlv_Size {gn m : Nat} (r1 : List D) {r : Int} (hm : gn ≤ m) (h : G_tlv_Size gn r1 = some r) : G_tlv_Size m r1 = some r := OLe.up (g := fun gn => G_tlv_Size gn r1) (fun gn => mono_G_tlv_Size gn r1) hm h
theorem fix_tlv_Item_inner {gn : Nat} (x1 : Int) (s1 : List UInt8) (r1 : List D) {r : Int} (h : G_tlv_Item_inner gn x1 s1 r1 = some r) : F_tlv_Item_inner x1 s1 r1 = some r := fixo_is (OLe.det fun gn => mono_B_tlv_Item_inner (mono_G_tlv_Size gn) x1 s1 r1) h

theorem mono_F_tlv_Putin_L1 {self self' : (List D) → (List UInt8) → Option ((List UInt8))} (h_self : ∀ a0 a1, OLe (self a0 a1) (self' a0 a1)) (r1 : List D) : ∀ x, OLe (F_tlv_Putin_L1 self r1 x) (F_tlv_Putin_L1 self' r1 x) := by
  rintro ⟨i1, s2⟩
  · unfold F_tlv_Putin_L1
    (try dsimp only)
    refine OLe.ite (fun _ => ?_) (fun _ => ?_)
    · refine OLe.ite (fun _ => ?_) (fun _ => OLe.refl _)
      generalize F_varint_Put (D.toI (D.fld (getD r1 (toN i1)) 0)) = oq
      cases oq with
      | none => exact OLe.none _
      | some q =>
        obtain ⟨t10, hz⟩ : ∃ z, z = q := ⟨q, rfl⟩
        subst hz
        dsimp only
        refine OLe.ite (fun _ => ?_) (fun _ => OLe.refl _)
        generalize F_tlv_Item_inner (D.toI (D.fld (getD r1 (toN i1)) 0)) (D.toS (D.fld (getD r1 (toN i1)) 1)) (D.toL (D.fld (getD r1 (toN i1)) 2)) = oq
        cases oq with
        | none => exact OLe.none _
        | some q =>
          obtain ⟨y4, hz⟩ : ∃ z, z = q := ⟨q, rfl⟩
          subst hz
          dsimp only
          generalize F_varint_Put (iconv .u64 y4) = oq
          cases oq with
          | none => exact OLe.none _
          | some q =>
            obtain ⟨t11, hz⟩ : ∃ z, z = q := ⟨q, rfl⟩
            subst hz
            dsimp only
            refine OLe.ite (fun _ => ?_) (fun _ => OLe.refl _)
            refine OLe.ite (fun _ => ?_) (fun _ => OLe.refl _)
            have e := h_self (D.toL (D.fld (getD r1 (toN i1)) 2)) (cat (cat (cat s2 t10) t11) (D.toS (D.fld (getD r1 (toN i1)) 1)))
            generalize self (D.toL (D.fld (getD r1 (toN i1)) 2)) (cat (cat (cat s2 t10) t11) (D.toS (D.fld (getD r1 (toN i1)) 1))) = oq at e ⊢
            cases oq with
            | none => exact OLe.none _
            | some q =>
              rw [e q rfl]
              clear e
              obtain ⟨t12, hz⟩ : ∃ z, z = q := ⟨q, rfl⟩
              subst hz
              dsimp only
              exact OLe.refl _
    · exact OLe.refl _
theorem mono_B_tlv_Putin {self self' : (List D) → (List UInt8) → Option ((List UInt8))} (h_self : ∀ a0 a1, OLe (self a0 a1) (self' a0 a1)) (r1 : List D) (s1 : List UInt8) : OLe (B_tlv_Putin self r1 s1) (B_tlv_Putin self' r1 s1) := by
  unfold B_tlv_Putin
  exact iter_le (mono_F_tlv_Putin_L1 h_self r1) _
theorem mono_G_tlv_Putin : ∀ (gn : Nat) (r1 : List D) (s1 : List UInt8), OLe (G_tlv_Putin gn r1 s1) (G_tlv_Putin (gn + 1) r1 s1)
  | 0, r1, s1 => OLe.none _
  | gn + 1, r1, s1 => mono_B_tlv_Putin (mono_G_tlv_Putin gn) r1 s1
theorem fix_tlv_Putin {gn : Nat} (r1 : List D) (s1 : List UInt8) {r : (List UInt8)} (h : G_tlv_Putin gn r1 s1 = some r) : F_tlv_Putin r1 s1 = some r := fixo_is (OLe.det fun gn => mono_G_tlv_Putin gn r1 s1) h
theorem up_tlv_Putin {gn m : Nat} (r1 : List D) (s1 : List UInt8) {r : (List UInt8)} (hm : gn ≤ m) (h : G_tlv_Putin gn r1 s1 = some r) : G_tlv_Putin m r1 s1 = some r := OLe.up (g := fun gn => G_tlv_Putin gn r1 s1) (fun gn => mono_G_tlv_Putin gn r1 s1) hm h

theorem mono_F_tlv_reader_items_L1 {self self' : Int → Int → Int → Int → Int → (List UInt8) → Option ((List D) × Int × Int × Nat × Nat × Int)} (h_self : ∀ a0 a1 a2 a3 a4 a5, OLe (self a0 a1 a2 a3 a4 a5) (self' a0 a1 a2 a3 a4 a5)) (s1 : List UInt8) (x1 : Int) (x2 : Int) : ∀ x, OLe (F_tlv_reader_items_L1 self s1 x1 x2 x) (F_tlv_reader_items_L1 self' s1 x1 x2 x) := by
  rintro ⟨i1, i2, n1, n2, i3, r1⟩
  · unfold F_tlv_reader_items_L1
    (try dsimp only)
    generalize F_octet_Window_Left_2 n1 n2 i3 s1 = oq
    cases oq with
    | none => exact OLe.none _
    | some q =>
      obtain ⟨y130, hz⟩ : ∃ z, z = q := ⟨q, rfl⟩
      subst hz
      dsimp only
      refine OLe.ite (fun _ => ?_) (fun _ => ?_)
      · refine OLe.ite (fun _ => ?_) (fun _ => ?_)
        · generalize F_varint_Take_2 n1 n2 i3 s1 = oq
          cases oq with
          | none => exact OLe.none _
          | some q =>
            rcases q with ⟨y131, y132, k85, k86, y133⟩
            dsimp only
            generalize F_tlv_reader_fail y132 (isub .i64 x1 y130) i1 i2 = oq
            cases oq with
            | none => exact OLe.none _
            | some q =>
              rcases q with ⟨y134, y135⟩
              dsimp only
              generalize F_octet_Window_Left_2 k85 k86 y133 s1 = oq
              cases oq with
              | none => exact OLe.none _
              | some q =>
                obtain ⟨y136, hz⟩ : ∃ z, z = q := ⟨q, rfl⟩
                subst hz
                dsimp only
                generalize F_varint_Take_2 k85 k86 y133 s1 = oq
                cases oq with
                | none => exact OLe.none _
                | some q =>
                  rcases q with ⟨y137, y138, k87, k88, y139⟩
                  dsimp only
                  generalize F_tlv_reader_fail y138 (isub .i64 x1 y136) y134 y135 = oq
                  cases oq with
                  | none => exact OLe.none _
                  | some q =>
                    rcases q with ⟨y140, y141⟩
                    dsimp only
                    generalize F_octet_Window_Left_2 k87 k88 y139 s1 = oq
                    cases oq with
                    | none => exact OLe.none _
                    | some q =>
                      obtain ⟨y142, hz⟩ : ∃ z, z = q := ⟨q, rfl⟩
                      subst hz
                      dsimp only
                      refine OLe.ite (fun _ => ?_) (fun _ => ?_)
                      · generalize F_tlv_reader_fail (10 : Int) (isub .i64 x1 y142) y140 y141 = oq
                        cases oq with
                        | none => exact OLe.none _
                        | some q =>
                          rcases q with ⟨y143, y144⟩
                          dsimp only
                          refine OLe.ite (fun _ => ?_) (fun _ => ?_)
                          · generalize F_tlv_reader_fail (13 : Int) (isub .i64 x1 y130) y143 y144 = oq
                            cases oq with
                            | none => exact OLe.none _
                            | some q =>
                              rcases q with ⟨y145, y146⟩
                              dsimp only
                              refine OLe.ite (fun _ => ?_) (fun _ => ?_)
                              · generalize F_tlv_Item_odd_2 y131 = oq
                                cases oq with
                                | none => exact OLe.none _
                                | some q =>
                                  obtain ⟨c13, hz⟩ : ∃ z, z = q := ⟨q, rfl⟩
                                  subst hz
                                  dsimp only
                                  refine OLe.ite (fun _ => ?_) (fun _ => ?_)
                                  · generalize F_octet_Window_Sub (iconv .i64 y137) k87 k88 y139 s1 = oq
                                    cases oq with
                                    | none => exact OLe.none _
                                    | some q =>
                                      rcases q with ⟨k89, k90, y147, y148, t25⟩
                                      dsimp only
                                      have e := h_self (iadd .i64 (isub .i64 x1 y142) (iconv .i64 y137)) (iadd .i64 x2 (1 : Int)) y145 y146 y148 t25
                                      generalize self (iadd .i64 (isub .i64 x1 y142) (iconv .i64 y137)) (iadd .i64 x2 (1 : Int)) y145 y146 y148 t25 = oq at e ⊢
                                      cases oq with
                                      | none => exact OLe.none _
                                      | some q =>
                                        rw [e q rfl]
                                        clear e
                                        rcases q with ⟨q13, y149, y150, k91, k92, y151⟩
                                        dsimp only
                                        exact OLe.refl _
                                  · exact OLe.refl _
                              · exact OLe.refl _
                          · refine OLe.ite (fun _ => ?_) (fun _ => ?_)
                            · generalize F_tlv_Item_odd_2 y131 = oq
                              cases oq with
                              | none => exact OLe.none _
                              | some q =>
                                obtain ⟨c14, hz⟩ : ∃ z, z = q := ⟨q, rfl⟩
                                subst hz
                                dsimp only
                                refine OLe.ite (fun _ => ?_) (fun _ => ?_)
                                · generalize F_octet_Window_Sub (iconv .i64 y137) k87 k88 y139 s1 = oq
                                  cases oq with
                                  | none => exact OLe.none _
                                  | some q =>
                                    rcases q with ⟨k95, k96, y153, y154, t27⟩
                                    dsimp only
                                    have e := h_self (iadd .i64 (isub .i64 x1 y142) (iconv .i64 y137)) (iadd .i64 x2 (1 : Int)) y143 y144 y154 t27
                                    generalize self (iadd .i64 (isub .i64 x1 y142) (iconv .i64 y137)) (iadd .i64 x2 (1 : Int)) y143 y144 y154 t27 = oq at e ⊢
                                    cases oq with
                                    | none => exact OLe.none _
                                    | some q =>
                                      rw [e q rfl]
                                      clear e
                                      rcases q with ⟨q14, y155, y156, k97, k98, y157⟩
                                      dsimp only
                                      exact OLe.refl _
                                · exact OLe.refl _
                            · exact OLe.refl _
                      · refine OLe.ite (fun _ => ?_) (fun _ => ?_)
                        · generalize F_tlv_reader_fail (13 : Int) (isub .i64 x1 y130) y140 y141 = oq
                          cases oq with
                          | none => exact OLe.none _
                          | some q =>
                            rcases q with ⟨y159, y160⟩
                            dsimp only
                            refine OLe.ite (fun _ => ?_) (fun _ => ?_)
                            · generalize F_tlv_Item_odd_2 y131 = oq
                              cases oq with
                              | none => exact OLe.none _
                              | some q =>
                                obtain ⟨c15, hz⟩ : ∃ z, z = q := ⟨q, rfl⟩
                                subst hz
                                dsimp only
                                refine OLe.ite (fun _ => ?_) (fun _ => ?_)
                                · generalize F_octet_Window_Sub (iconv .i64 y137) k87 k88 y139 s1 = oq
                                  cases oq with
                                  | none => exact OLe.none _
                                  | some q =>
                                    rcases q with ⟨k101, k102, y161, y162, t29⟩
                                    dsimp only
                                    have e := h_self (iadd .i64 (isub .i64 x1 y142) (iconv .i64 y137)) (iadd .i64 x2 (1 : Int)) y159 y160 y162 t29
                                    generalize self (iadd .i64 (isub .i64 x1 y142) (iconv .i64 y137)) (iadd .i64 x2 (1 : Int)) y159 y160 y162 t29 = oq at e ⊢
                                    cases oq with
                                    | none => exact OLe.none _
                                    | some q =>
                                      rw [e q rfl]
                                      clear e
                                      rcases q with ⟨q15, y163, y164, k103, k104, y165⟩
                                      dsimp only
                                      exact OLe.refl _
                                · exact OLe.refl _
                            · exact OLe.refl _
                        · refine OLe.ite (fun _ => ?_) (fun _ => ?_)
                          · generalize F_tlv_Item_odd_2 y131 = oq
                            cases oq with
                            | none => exact OLe.none _
                            | some q =>
                              obtain ⟨c16, hz⟩ : ∃ z, z = q := ⟨q, rfl⟩
                              subst hz
                              dsimp only
                              refine OLe.ite (fun _ => ?_) (fun _ => ?_)
                              · generalize F_octet_Window_Sub (iconv .i64 y137) k87 k88 y139 s1 = oq
                                cases oq with
                                | none => exact OLe.none _
                                | some q =>
                                  rcases q with ⟨k107, k108, y167, y168, t31⟩
                                  dsimp only
                                  have e := h_self (iadd .i64 (isub .i64 x1 y142) (iconv .i64 y137)) (iadd .i64 x2 (1 : Int)) y140 y141 y168 t31
                                  generalize self (iadd .i64 (isub .i64 x1 y142) (iconv .i64 y137)) (iadd .i64 x2 (1 : Int)) y140 y141 y168 t31 = oq at e ⊢
                                  cases oq with
                                  | none => exact OLe.none _
                                  | some q =>
                                    rw [e q rfl]
                                    clear e
                                    rcases q with ⟨q16, y169, y170, k109, k110, y171⟩
                                    dsimp only
                                    exact OLe.refl _
                              · exact OLe.refl _
                          · exact OLe.refl _
        · exact OLe.refl _
      · exact OLe.refl _
theorem mono_B_tlv_reader_items {self self' : Int → Int → Int → Int → Int → (List UInt8) → Option ((List D) × Int × Int × Nat × Nat × Int)} (h_self : ∀ a0 a1 a2 a3 a4 a5, OLe (self a0 a1 a2 a3 a4 a5) (self' a0 a1 a2 a3 a4 a5)) (x1 : Int) (x2 : Int) (x3 : Int) (x4 : Int) (x5 : Int) (s1 : List UInt8) : OLe (B_tlv_reader_items self x1 x2 x3 x4 x5 s1) (B_tlv_reader_items self' x1 x2 x3 x4 x5 s1) := by
  unfold B_tlv_reader_items
  exact iter_le (mono_F_tlv_reader_items_L1 h_self s1 x1 x2) _
theorem mono_G_tlv_reader_items : ∀ (gn : Nat) (x1 : Int) (x2 : Int) (x3 : Int) (x4 : Int) (x5 : Int) (s1 : List UInt8), OLe (G_tlv_reader_items gn x1 x2 x3 x4 x5 s1) (G_tlv_reader_items (gn + 1) x1 x2 x3 x4 x5 s1)
  | 0, x1, x2, x3, x4, x5, s1 => OLe.none _
  | gn + 1, x1, x2, x3, x4, x5, s1 => mono_B_tlv_reader_items (mono_G_tlv_reader_items gn) x1 x2 x3 x4 x5 s1
theorem fix_tlv_reader_items {gn : Nat} (x1 : Int) (x2 : Int) (x3 : Int) (x4 : Int) (x5 : Int) (s1 : List UInt8) {r : (List D) × Int × Int × Nat × Nat × Int} (h : G_tlv_reader_items gn x1 x2 x3 x4 x5 s1 = some r) : F_tlv_reader_items x1 x2 x3 x4 x5 s1 = some r := fixo_is (OLe.det fun gn => mono_G_tlv_reader_items gn x1 x2 x3 x4 x5 s1) h
theorem up_tlv_reader_items {gn m : Nat} (x1 : Int) (x2 : Int) (x3 : Int) (x4 : Int) (x5 : Int) (s1 : List UInt8) {r : (List D) × Int × Int × Nat × Nat × Int} (hm : gn ≤ m) (h : G_tlv_reader_items gn x1 x2 x3 x4 x5 s1 = some r) : G_tlv_reader_items m x1 x2 x3 x4 x5 s1 = some r := OLe.up (g := fun gn => G_tlv_reader_items gn x1 x2 x3 x4 x5 s1) (fun gn => mono_G_tlv_reader_items gn x1 x2 x3 x4 x5 s1) hm h

theorem mono_F_tollbarlaw03_many_L1 {self self' : (List D) → Option (Int)} (h_self : ∀ a0, OLe (self a0) (self' a0)) (r1 : List D) : ∀ x, OLe (F_tollbarlaw03_many_L1 self r1 x) (F_tollbarlaw03_many_L1 self' r1 x) := by
  rintro ⟨i1, i2⟩
  · unfold F_tollbarlaw03_many_L1
    (try dsimp only)
    refine OLe.ite (fun _ => ?_) (fun _ => ?_)
    · refine OLe.ite (fun _ => ?_) (fun _ => OLe.refl _)
      have e := h_self (D.toL (D.fld (getD r1 (toN i2)) 2))
      generalize self (D.toL (D.fld (getD r1 (toN i2)) 2)) = oq at e ⊢
      cases oq with
      | none => exact OLe.none _
      | some q =>
        rw [e q rfl]
        clear e
        obtain ⟨y3, hz⟩ : ∃ z, z = q := ⟨q, rfl⟩
        subst hz
        dsimp only
        exact OLe.refl _
    · exact OLe.refl _
theorem mono_B_tollbarlaw03_many {self self' : (List D) → Option (Int)} (h_self : ∀ a0, OLe (self a0) (self' a0)) (r1 : List D) : OLe (B_tollbarlaw03_many self r1) (B_tollbarlaw03_many self' r1) := by
  unfold B_tollbarlaw03_many
  exact iter_le (mono_F_tollbarlaw03_many_L1 h_self r1) _
theorem mono_G_tollbarlaw03_many : ∀ (gn : Nat) (r1 : List D), OLe (G_tollbarlaw03_many gn r1) (G_tollbarlaw03_many (gn + 1) r1)
  | 0, r1 => OLe.none _
  | gn + 1, r1 => mono_B_tollbarlaw03_many (mono_G_tollbarlaw03_many gn) r1
theorem fix_tollbarlaw03_many {gn : Nat} (r1 : List D) {r : Int} (h : G_tollbarlaw03_many gn r1 = some r) : F_tollbarlaw03_many r1 = some r := fixo_is (OLe.det fun gn => mono_G_tollbarlaw03_many gn r1) h
theorem up_tollbarlaw03_many {gn m : Nat} (r1 : List D) {r : Int} (hm : gn ≤ m) (h : G_tollbarlaw03_many gn r1 = some r) : G_tollbarlaw03_many m r1 = some r := OLe.up (g := fun gn => G_tollbarlaw03_many gn r1) (fun gn => mono_G_tollbarlaw03_many gn r1) hm h

theorem mono_F_tollbarlaw03_plain_L1 {self self' : (List D) → Option ((List D))} (h_self : ∀ a0, OLe (self a0) (self' a0)) (r1 : List D) : ∀ x, OLe (F_tollbarlaw03_plain_L1 self r1 x) (F_tollbarlaw03_plain_L1 self' r1 x) := by
  rintro ⟨i1, r2⟩
  · unfold F_tollbarlaw03_plain_L1
    (try dsimp only)
    refine OLe.ite (fun _ => ?_) (fun _ => ?_)
    · refine OLe.ite (fun _ => ?_) (fun _ => OLe.refl _)
      refine OLe.ite (fun _ => ?_) (fun _ => OLe.refl _)
      refine OLe.ite (fun _ => ?_) (fun _ => OLe.refl _)
      have e := h_self (D.toL (D.fld (getD r1 (toN i1)) 2))
      generalize self (D.toL (D.fld (getD r1 (toN i1)) 2)) = oq at e ⊢
      cases oq with
      | none => exact OLe.none _
      | some q =>
        rw [e q rfl]
        clear e
        obtain ⟨q4, hz⟩ : ∃ z, z = q := ⟨q, rfl⟩
        subst hz
        dsimp only
        exact OLe.refl _
    · exact OLe.refl _
theorem mono_B_tollbarlaw03_plain {self self' : (List D) → Option ((List D))} (h_self : ∀ a0, OLe (self a0) (self' a0)) (r1 : List D) : OLe (B_tollbarlaw03_plain self r1) (B_tollbarlaw03_plain self' r1) := by
  unfold B_tollbarlaw03_plain
  exact iter_le (mono_F_tollbarlaw03_plain_L1 h_self r1) _
theorem mono_G_tollbarlaw03_plain : ∀ (gn : Nat) (r1 : List D), OLe (G_tollbarlaw03_plain gn r1) (G_tollbarlaw03_plain (gn + 1) r1)
  | 0, r1 => OLe.none _
  | gn + 1, r1 => mono_B_tollbarlaw03_plain (mono_G_tollbarlaw03_plain gn) r1
theorem fix_tollbarlaw03_plain {gn : Nat} (r1 : List D) {r : (List D)} (h : G_tollbarlaw03_plain gn r1 = some r) : F_tollbarlaw03_plain r1 = some r := fixo_is (OLe.det fun gn => mono_G_tollbarlaw03_plain gn r1) h
theorem up_tollbarlaw03_plain {gn m : Nat} (r1 : List D) {r : (List D)} (hm : gn ≤ m) (h : G_tollbarlaw03_plain gn r1 = some r) : G_tollbarlaw03_plain m r1 = some r := OLe.up (g := fun gn => G_tollbarlaw03_plain gn r1) (fun gn => mono_G_tollbarlaw03_plain gn r1) hm h

theorem mono_F_tollbarref03_right_L1 {self self' : (List D) → Int → Option (Bool)} (h_self : ∀ a0 a1, OLe (self a0 a1) (self' a0 a1)) (r1 : List D) (x1 : Int) : ∀ x, OLe (F_tollbarref03_right_L1 self r1 x1 x) (F_tollbarref03_right_L1 self' r1 x1 x) := by
  rintro i1
  · unfold F_tollbarref03_right_L1
    (try dsimp only)
    refine OLe.ite (fun _ => ?_) (fun _ => ?_)
    · refine OLe.ite (fun _ => ?_) (fun _ => OLe.refl _)
      refine OLe.ite (fun _ => ?_) (fun _ => ?_)
      · refine OLe.ite (fun _ => ?_) (fun _ => OLe.refl _)
        refine OLe.ite (fun _ => ?_) (fun _ => ?_)
        · refine OLe.ite (fun _ => ?_) (fun _ => ?_)
          · refine OLe.ite (fun _ => ?_) (fun _ => OLe.refl _)
            have e := h_self (D.toL (D.fld (getD r1 (toN i1)) 2)) (iadd .i64 x1 (1 : Int))
            generalize self (D.toL (D.fld (getD r1 (toN i1)) 2)) (iadd .i64 x1 (1 : Int)) = oq at e ⊢
            cases oq with
            | none => exact OLe.none _
            | some q =>
              rw [e q rfl]
              clear e
              obtain ⟨c10, hz⟩ : ∃ z, z = q := ⟨q, rfl⟩
              subst hz
              dsimp only
              exact OLe.refl _
          · refine OLe.ite (fun _ => ?_) (fun _ => OLe.refl _)
            refine OLe.ite (fun _ => ?_) (fun _ => ?_)
            · exact OLe.refl _
            · refine OLe.ite (fun _ => ?_) (fun _ => OLe.refl _)
              have e := h_self (D.toL (D.fld (getD r1 (toN i1)) 2)) (iadd .i64 x1 (1 : Int))
              generalize self (D.toL (D.fld (getD r1 (toN i1)) 2)) (iadd .i64 x1 (1 : Int)) = oq at e ⊢
              cases oq with
              | none => exact OLe.none _
              | some q =>
                rw [e q rfl]
                clear e
                obtain ⟨c9, hz⟩ : ∃ z, z = q := ⟨q, rfl⟩
                subst hz
                dsimp only
                exact OLe.refl _
        · exact OLe.refl _
      · refine OLe.ite (fun _ => ?_) (fun _ => ?_)
        · refine OLe.ite (fun _ => ?_) (fun _ => OLe.refl _)
          have e := h_self (D.toL (D.fld (getD r1 (toN i1)) 2)) (iadd .i64 x1 (1 : Int))
          generalize self (D.toL (D.fld (getD r1 (toN i1)) 2)) (iadd .i64 x1 (1 : Int)) = oq at e ⊢
          cases oq with
          | none => exact OLe.none _
          | some q =>
            rw [e q rfl]
            clear e
            obtain ⟨c12, hz⟩ : ∃ z, z = q := ⟨q, rfl⟩
            subst hz
            dsimp only
            exact OLe.refl _
        · refine OLe.ite (fun _ => ?_) (fun _ => OLe.refl _)
          refine OLe.ite (fun _ => ?_) (fun _ => ?_)
          · exact OLe.refl _
          · refine OLe.ite (fun _ => ?_) (fun _ => OLe.refl _)
            have e := h_self (D.toL (D.fld (getD r1 (toN i1)) 2)) (iadd .i64 x1 (1 : Int))
            generalize self (D.toL (D.fld (getD r1 (toN i1)) 2)) (iadd .i64 x1 (1 : Int)) = oq at e ⊢
            cases oq with
            | none => exact OLe.none _
            | some q =>
              rw [e q rfl]
              clear e
              obtain ⟨c11, hz⟩ : ∃ z, z = q := ⟨q, rfl⟩
              subst hz
              dsimp only
              exact OLe.refl _
    · exact OLe.refl _
theorem mono_F_tollbarref03_right_L2 {self self' : (List D) → Int → Option (Bool)} (h_self : ∀ a0 a1, OLe (self a0 a1) (self' a0 a1)) (r1 : List D) (x1 : Int) : ∀ x, OLe (F_tollbarref03_right_L2 self r1 x1 x) (F_tollbarref03_right_L2 self' r1 x1 x) := by
  rintro i2
  · unfold F_tollbarref03_right_L2
    (try dsimp only)
    refine OLe.ite (fun _ => ?_) (fun _ => ?_)
    · refine OLe.ite (fun _ => ?_) (fun _ => OLe.refl _)
      refine OLe.ite (fun _ => ?_) (fun _ => ?_)
      · refine OLe.ite (fun _ => ?_) (fun _ => OLe.refl _)
        refine OLe.ite (fun _ => ?_) (fun _ => ?_)
        · refine OLe.ite (fun _ => ?_) (fun _ => ?_)
          · refine OLe.ite (fun _ => ?_) (fun _ => OLe.refl _)
            have e := h_self (D.toL (D.fld (getD r1 (toN i2)) 2)) (iadd .i64 x1 (1 : Int))
            generalize self (D.toL (D.fld (getD r1 (toN i2)) 2)) (iadd .i64 x1 (1 : Int)) = oq at e ⊢
            cases oq with
            | none => exact OLe.none _
            | some q =>
              rw [e q rfl]
              clear e
              obtain ⟨c22, hz⟩ : ∃ z, z = q := ⟨q, rfl⟩
              subst hz
              dsimp only
              exact OLe.refl _
          · refine OLe.ite (fun _ => ?_) (fun _ => OLe.refl _)
            refine OLe.ite (fun _ => ?_) (fun _ => ?_)
            · exact OLe.refl _
            · refine OLe.ite (fun _ => ?_) (fun _ => OLe.refl _)
              have e := h_self (D.toL (D.fld (getD r1 (toN i2)) 2)) (iadd .i64 x1 (1 : Int))
              generalize self (D.toL (D.fld (getD r1 (toN i2)) 2)) (iadd .i64 x1 (1 : Int)) = oq at e ⊢
              cases oq with
              | none => exact OLe.none _
              | some q =>
                rw [e q rfl]
                clear e
                obtain ⟨c21, hz⟩ : ∃ z, z = q := ⟨q, rfl⟩
                subst hz
                dsimp only
                exact OLe.refl _
        · exact OLe.refl _
      · refine OLe.ite (fun _ => ?_) (fun _ => ?_)
        · refine OLe.ite (fun _ => ?_) (fun _ => OLe.refl _)
          have e := h_self (D.toL (D.fld (getD r1 (toN i2)) 2)) (iadd .i64 x1 (1 : Int))
          generalize self (D.toL (D.fld (getD r1 (toN i2)) 2)) (iadd .i64 x1 (1 : Int)) = oq at e ⊢
          cases oq with
          | none => exact OLe.none _
          | some q =>
            rw [e q rfl]
            clear e
            obtain ⟨c24, hz⟩ : ∃ z, z = q := ⟨q, rfl⟩
            subst hz
            dsimp only
            exact OLe.refl _
        · refine OLe.ite (fun _ => ?_) (fun _ => OLe.refl _)
          refine OLe.ite (fun _ => ?_) (fun _ => ?_)
          · exact OLe.refl _
          · refine OLe.ite (fun _ => ?_) (fun _ => OLe.refl _)
            have e := h_self (D.toL (D.fld (getD r1 (toN i2)) 2)) (iadd .i64 x1 (1 : Int))
            generalize self (D.toL (D.fld (getD r1 (toN i2)) 2)) (iadd .i64 x1 (1 : Int)) = oq at e ⊢
            cases oq with
            | none => exact OLe.none _
            | some q =>
              rw [e q rfl]
              clear e
              obtain ⟨c23, hz⟩ : ∃ z, z = q := ⟨q, rfl⟩
              subst hz
              dsimp only
              exact OLe.refl _
    · exact OLe.refl _
theorem mono_B_tollbarref03_right {self self' : (List D) → Int → Option (Bool)} (h_self : ∀ a0 a1, OLe (self a0 a1) (self' a0 a1)) (r1 : List D) (x1 : Int) : OLe (B_tollbarref03_right self r1 x1) (B_tollbarref03_right self' r1 x1) := by
  unfold B_tollbarref03_right
  refine OLe.ite (fun _ => ?_) (fun _ => ?_)
  · refine OLe.ite (fun _ => ?_) (fun _ => ?_)
    · exact OLe.refl _
    · exact iter_le (mono_F_tollbarref03_right_L1 h_self r1 x1) _
  · exact iter_le (mono_F_tollbarref03_right_L2 h_self r1 x1) _
theorem mono_G_tollbarref03_right : ∀ (gn : Nat) (r1 : List D) (x1 : Int), OLe (G_tollbarref03_right gn r1 x1) (G_tollbarref03_right (gn + 1) r1 x1)
  | 0, r1, x1 => OLe.none _
  | gn + 1, r1, x1 => mono_B_tollbarref03_right (mono_G_tollbarref03_right gn) r1 x1
theorem fix_tollbarref03_right {gn : Nat} (r1 : List D) (x1 : Int) {r : Bool} (h : G_tollbarref03_right gn r1 x1 = some r) : F_tollbarref03_right r1 x1 = some r := fixo_is (OLe.det fun gn => mono_G_tollbarref03_right gn r1 x1) h
theorem up_tollbarref03_right {gn m : Nat} (r1 : List D) (x1 : Int) {r : Bool} (hm : gn ≤ m) (h : G_tollbarref03_right gn r1 x1 = some r) : G_tollbarref03_right m r1 x1 = some r := OLe.up (g := fun gn => G_tollbarref03_right gn r1 x1) (fun gn => mono_G_tollbarref03_right gn r1 x1) hm h

theorem mono_B_tollbarref02_Put {self self' : Int → Option ((List UInt8))} (h_self : ∀ a0, OLe (self a0) (self' a0)) (x1 : Int) : OLe (B_tollbarref02_Put self x1) (B_tollbarref02_Put self' x1) := by
  unfold B_tollbarref02_Put
  refine OLe.ite (fun _ => ?_) (fun _ => ?_)
  · exact OLe.refl _
  · refine OLe.ite (fun _ => ?_) (fun _ => OLe.refl _)
    have e := h_self (iquo .u64 x1 (128 : Int))
    generalize self (iquo .u64 x1 (128 : Int)) = oq at e ⊢
    cases oq with
    | none => exact OLe.none _
    | some q =>
      rw [e q rfl]
      clear e
      obtain ⟨t1, hz⟩ : ∃ z, z = q := ⟨q, rfl⟩
      subst hz
      dsimp only
      exact OLe.refl _
theorem mono_G_tollbarref02_Put : ∀ (gn : Nat) (x1 : Int), OLe (G_tollbarref02_Put gn x1) (G_tollbarref02_Put (gn + 1) x1)
  | 0, x1 => OLe.none _
  | gn + 1, x1 => mono_B_tollbarref02_Put (mono_G_tollbarref02_Put gn) x1
theorem fix_tollbarref02_Put {gn : Nat} (x1 : Int) {r : (List UInt8)} (h : G_tollbarref02_Put gn x1 = some r) : F_tollbarref02_Put x1 = some r := fixo_is (OLe.det fun gn => mono_G_tollbarref02_Put gn x1) h
theorem up_tollbarref02_Put {gn m : Nat} (x1 : Int) {r : (List UInt8)} (hm : gn ≤ m) (h : G_tollbarref02_Put gn x1 = some r) : G_tollbarref02_Put m x1 = some r := OLe.up (g := fun gn => G_tollbarref02_Put gn x1) (fun gn => mono_G_tollbarref02_Put gn x1) hm h

theorem mono_F_tollbarref03_All_L1 {self self' : (List D) → Option ((List UInt8))} (h_self : ∀ a0, OLe (self a0) (self' a0)) (r1 : List D) : ∀ x, OLe (F_tollbarref03_All_L1 self r1 x) (F_tollbarref03_All_L1 self' r1 x) := by
  rintro ⟨s1, i1⟩
  · unfold F_tollbarref03_All_L1
    (try dsimp only)
    refine OLe.ite (fun _ => ?_) (fun _ => ?_)
    · refine OLe.ite (fun _ => ?_) (fun _ => OLe.refl _)
      refine OLe.ite (fun _ => ?_) (fun _ => OLe.refl _)
      refine OLe.ite (fun _ => ?_) (fun _ => ?_)
      · refine OLe.ite (fun _ => ?_) (fun _ => OLe.refl _)
        have e := h_self (D.toL (D.fld (getD r1 (toN i1)) 2))
        generalize self (D.toL (D.fld (getD r1 (toN i1)) 2)) = oq at e ⊢
        cases oq with
        | none => exact OLe.none _
        | some q =>
          rw [e q rfl]
          clear e
          obtain ⟨t11, hz⟩ : ∃ z, z = q := ⟨q, rfl⟩
          subst hz
          dsimp only
          exact OLe.refl _
      · exact OLe.refl _
    · exact OLe.refl _
theorem mono_B_tollbarref03_All {self self' : (List D) → Option ((List UInt8))} (h_self : ∀ a0, OLe (self a0) (self' a0)) (r1 : List D) : OLe (B_tollbarref03_All self r1) (B_tollbarref03_All self' r1) := by
  unfold B_tollbarref03_All
  exact iter_le (mono_F_tollbarref03_All_L1 h_self r1) _
theorem mono_G_tollbarref03_All : ∀ (gn : Nat) (r1 : List D), OLe (G_tollbarref03_All gn r1) (G_tollbarref03_All (gn + 1) r1)
  | 0, r1 => OLe.none _
  | gn + 1, r1 => mono_B_tollbarref03_All (mono_G_tollbarref03_All gn) r1
theorem fix_tollbarref03_All {gn : Nat} (r1 : List D) {r : (List UInt8)} (h : G_tollbarref03_All gn r1 = some r) : F_tollbarref03_All r1 = some r := fixo_is (OLe.det fun gn => mono_G_tollbarref03_All gn r1) h
theorem up_tollbarref03_All {gn m : Nat} (r1 : List D) {r : (List UInt8)} (hm : gn ≤ m) (h : G_tollbarref03_All gn r1 = some r) : G_tollbarref03_All m r1 = some r := OLe.up (g := fun gn => G_tollbarref03_All gn r1) (fun gn => mono_G_tollbarref03_All gn r1) hm h

theorem mono_F_tollbarref03_getin_L1 {self self' : (List UInt8) → Int → Int → Option ((List D) × Int × Int)} (h_self : ∀ a0 a1 a2, OLe (self a0 a1 a2) (self' a0 a1 a2)) (x1 : Int) : ∀ x, OLe (F_tollbarref03_getin_L1 self x1 x) (F_tollbarref03_getin_L1 self' x1 x) := by
  rintro ⟨s2, i1, r1⟩
  · unfold F_tollbarref03_getin_L1
    (try dsimp only)
    refine OLe.ite (fun _ => ?_) (fun _ => ?_)
    · exact OLe.refl _
    · generalize F_tollbarref02_Get s2 = oq
      cases oq with
      | none => exact OLe.none _
      | some q =>
        rcases q with ⟨y25, y26, y27⟩
        dsimp only
        refine OLe.ite (fun _ => ?_) (fun _ => ?_)
        · refine OLe.ite (fun _ => ?_) (fun _ => OLe.refl _)
          generalize F_tollbarref02_Get (lsub s2 (toN y26) (ndec (xlen s2) (toN y26))) = oq
          cases oq with
          | none => exact OLe.none _
          | some q =>
            rcases q with ⟨y28, y29, y30⟩
            dsimp only
            refine OLe.ite (fun _ => ?_) (fun _ => ?_)
            · refine OLe.ite (fun _ => ?_) (fun _ => ?_)
              · exact OLe.refl _
              · refine OLe.ite (fun _ => ?_) (fun _ => ?_)
                · exact OLe.refl _
                · refine OLe.ite (fun _ => ?_) (fun _ => OLe.refl _)
                  refine OLe.ite (fun _ => ?_) (fun _ => ?_)
                  · exact OLe.refl _
                  · have e := h_self (lsub s2 (toN (iadd .i64 y26 y29)) (ndec (toN (iadd .i64 (iadd .i64 y26 y29) (iconv .i64 y28))) (toN (iadd .i64 y26 y29)))) (iadd .i64 x1 (1 : Int)) (iadd .i64 (iadd .i64 i1 y26) y29)
                    generalize self (lsub s2 (toN (iadd .i64 y26 y29)) (ndec (toN (iadd .i64 (iadd .i64 y26 y29) (iconv .i64 y28))) (toN (iadd .i64 y26 y29)))) (iadd .i64 x1 (1 : Int)) (iadd .i64 (iadd .i64 i1 y26) y29) = oq at e ⊢
                    cases oq with
                    | none => exact OLe.none _
                    | some q =>
                      rw [e q rfl]
                      clear e
                      rcases q with ⟨q4, y31, y32⟩
                      dsimp only
                      exact OLe.refl _
            · exact OLe.refl _
        · exact OLe.refl _
theorem mono_B_tollbarref03_getin {self self' : (List UInt8) → Int → Int → Option ((List D) × Int × Int)} (h_self : ∀ a0 a1 a2, OLe (self a0 a1 a2) (self' a0 a1 a2)) (s1 : List UInt8) (x1 : Int) (x2 : Int) : OLe (B_tollbarref03_getin self s1 x1 x2) (B_tollbarref03_getin self' s1 x1 x2) := by
  unfold B_tollbarref03_getin
  exact iter_le (mono_F_tollbarref03_getin_L1 h_self x1) _
theorem mono_G_tollbarref03_getin : ∀ (gn : Nat) (s1 : List UInt8) (x1 : Int) (x2 : Int), OLe (G_tollbarref03_getin gn s1 x1 x2) (G_tollbarref03_getin (gn + 1) s1 x1 x2)
  | 0, s1, x1, x2 => OLe.none _
  | gn + 1, s1, x1, x2 => mono_B_tollbarref03_getin (mono_G_tollbarref03_getin gn) s1 x1 x2
theorem fix_tollbarref03_getin {gn : Nat} (s1 : List UInt8) (x1 : Int) (x2 : Int) {r : (List D) × Int × Int} (h : G_tollbarref03_getin gn s1 x1 x2 = some r) : F_tollbarref03_getin s1 x1 x2 = some r := fixo_is (OLe.det fun gn => mono_G_tollbarref03_getin gn s1 x1 x2) h
theorem up_tollbarref03_getin {gn m : Nat} (s1 : List UInt8) (x1 : Int) (x2 : Int) {r : (List D) × Int × Int} (hm : gn ≤ m) (h : G_tollbarref03_getin gn s1 x1 x2 = some r) : G_tollbarref03_getin m s1 x1 x2 = some r := OLe.up (g := fun gn => G_tollbarref03_getin gn s1 x1 x2) (fun gn => mono_G_tollbarref03_getin gn s1 x1 x2) hm h

theorem mono_F_tollbarref03_Same_L1 {self self' : (List D) → (List D) → Option (Bool)} (h_self : ∀ a0 a1, OLe (self a0 a1) (self' a0 a1)) (r1 : List D) (r2 : List D) : ∀ x, OLe (F_tollbarref03_Same_L1 self r1 r2 x) (F_tollbarref03_Same_L1 self' r1 r2 x) := by
  rintro i1
  · unfold F_tollbarref03_Same_L1
    (try dsimp only)
    refine OLe.ite (fun _ => ?_) (fun _ => ?_)
    · refine OLe.ite (fun _ => ?_) (fun _ => OLe.refl _)
      refine OLe.ite (fun _ => ?_) (fun _ => OLe.refl _)
      have e := h_self (D.toL (D.fld (getD r1 (toN i1)) 2)) (D.toL (D.fld (getD r2 (toN i1)) 2))
      generalize self (D.toL (D.fld (getD r1 (toN i1)) 2)) (D.toL (D.fld (getD r2 (toN i1)) 2)) = oq at e ⊢
      cases oq with
      | none => exact OLe.none _
      | some q =>
        rw [e q rfl]
        clear e
        obtain ⟨c3, hz⟩ : ∃ z, z = q := ⟨q, rfl⟩
        subst hz
        dsimp only
        exact OLe.refl _
    · exact OLe.refl _
theorem mono_B_tollbarref03_Same {self self' : (List D) → (List D) → Option (Bool)} (h_self : ∀ a0 a1, OLe (self a0 a1) (self' a0 a1)) (r1 : List D) (r2 : List D) : OLe (B_tollbarref03_Same self r1 r2) (B_tollbarref03_Same self' r1 r2) := by
  unfold B_tollbarref03_Same
  refine OLe.ite (fun _ => ?_) (fun _ => ?_)
  · exact iter_le (mono_F_tollbarref03_Same_L1 h_self r1 r2) _
  · exact OLe.refl _
theorem mono_G_tollbarref03_Same : ∀ (gn : Nat) (r1 : List D) (r2 : List D), OLe (G_tollbarref03_Same gn r1 r2) (G_tollbarref03_Same (gn + 1) r1 r2)
  | 0, r1, r2 => OLe.none _
  | gn + 1, r1, r2 => mono_B_tollbarref03_Same (mono_G_tollbarref03_Same gn) r1 r2
theorem fix_tollbarref03_Same {gn : Nat} (r1 : List D) (r2 : List D) {r : Bool} (h : G_tollbarref03_Same gn r1 r2 = some r) : F_tollbarref03_Same r1 r2 = some r := fixo_is (OLe.det fun gn => mono_G_tollbarref03_Same gn r1 r2) h
theorem up_tollbarref03_Same {gn m : Nat} (r1 : List D) (r2 : List D) {r : Bool} (hm : gn ≤ m) (h : G_tollbarref03_Same gn r1 r2 = some r) : G_tollbarref03_Same m r1 r2 = some r := OLe.up (g := fun gn => G_tollbarref03_Same gn r1 r2) (fun gn => mono_G_tollbarref03_Same gn r1 r2) hm h
end Go.Proofs.Ytknaheioedkaeaa
end
section
/-
  Items within items, and what the functions of package tlv and its reference tell of them.
-/
set_option linter.unusedVariables false
set_option linter.unusedSimpArgs false
namespace Go.Proofs.Ytknaheioedkaeaa

inductive Itm where
  | mk (t : Nat) (b : List UInt8) (k : List Itm)
def Itm.t : Itm → Nat | .mk t _ _ => t
def Itm.b : Itm → List UInt8 | .mk _ b _ => b
def Itm.k : Itm → List Itm | .mk _ _ k => k

mutual
/-- Items as data. -/
def dI : Itm → D
  | .mk t b k => .l [.i t, .s b, .l (dL k)]
def dL : List Itm → List D
  | [] => []
  | x :: l => dI x :: dL l
end
mutual
/-- Data that tells items. -/
def Rep : Itm → D → Prop
  | .mk t b k, d => D.toI (D.fld d 0) = (t : Int) ∧ D.toS (D.fld d 1) = b ∧ RepL k (D.toL (D.fld d 2))
def RepL : List Itm → List D → Prop
  | [], r => r = []
  | x :: l, r => ∃ d q, r = d :: q ∧ Rep x d ∧ RepL l q
end
mutual
/-- How deep. -/
def dpI : Itm → Nat
  | .mk _ _ k => dpL k + 1
def dpL : List Itm → Nat
  | [] => 0
  | x :: l => max (dpI x) (dpL l)
end
mutual
/-- How much at most. -/
def szI : Itm → Nat
  | .mk _ b k => 20 + b.length + szL k
def szL : List Itm → Nat
  | [] => 0
  | x :: l => szI x + szL l
end
mutual
/-- Tags fit. -/
def wfI : Itm → Prop
  | .mk t _ k => t < 18446744073709551616 ∧ wfL k
def wfL : List Itm → Prop
  | [] => True
  | x :: l => wfI x ∧ wfL l
end
mutual
/-- How many, as the law counts. -/
def mnI : Itm → Nat
  | .mk _ b k => k.length + mnS k + b.length / 100
def mnS : List Itm → Nat
  | [] => 0
  | x :: l => mnI x + mnS l
end
mutual
/-- The encoding. -/
def encI : Itm → List UInt8
  | .mk t b k => putV t ++ (putV (if t % 2 = 1 then encL k else b).length ++ (if t % 2 = 1 then encL k else b))
def encL : List Itm → List UInt8
  | [] => []
  | x :: l => encI x ++ encL l
end
mutual
/-- May items be, so deep? -/
def okI : Nat → Itm → Bool
  | n, .mk t b k => decide (t % 2 = 1 → b = []) && decide (¬ t % 2 = 1 → k.length = 0) && decide (n ≤ 6) && okL (n + 1) k
def okL : Nat → List Itm → Bool
  | _, [] => true
  | n, x :: l => okI n x && okL n l
end

theorem Rep.t {x : Itm} {d : D} (h : Rep x d) : D.toI (D.fld d 0) = (x.t : Int) := by cases x; simp only [Rep] at h; exact h.1
theorem Rep.b {x : Itm} {d : D} (h : Rep x d) : D.toS (D.fld d 1) = x.b := by cases x; simp only [Rep] at h; exact h.2.1
theorem Rep.k {x : Itm} {d : D} (h : Rep x d) : RepL x.k (D.toL (D.fld d 2)) := by cases x; simp only [Rep] at h; exact h.2.2
mutual
theorem rep_dI : ∀ x, Rep x (dI x)
  | .mk t b k => by simp only [Rep, dI]; exact ⟨rfl, rfl, repL_dL k⟩
theorem repL_dL : ∀ l, RepL l (dL l)
  | [] => by simp only [RepL, dL]
  | x :: l => by simp only [RepL, dL]; exact ⟨_, _, rfl, rep_dI x, repL_dL l⟩
end
theorem RepL.len : ∀ {l : List Itm} {r : List D}, RepL l r → r.length = l.length
  | [], r, h => by simp only [RepL] at h; rw [h]; rfl
  | x :: l, r, h => by
    simp only [RepL] at h
    obtain ⟨d, q, rfl, _, h2⟩ := h
    simp [RepL.len h2]
theorem RepL.at : ∀ {l : List Itm} {r : List D}, RepL l r → ∀ (i : Nat) (hi : i < l.length), Rep l[i] (getD r i)
  | [], r, h, i, hi => by simp at hi
  | x :: l, r, h, i, hi => by
    simp only [RepL] at h
    obtain ⟨d, q, rfl, h1, h2⟩ := h
    cases i with
    | zero => exact h1
    | succ i => exact h2.at i (by simpa using hi)
theorem dL_map (l : List Itm) : dL l = l.map dI := by
  induction l with
  | nil => rfl
  | cons x l ih => simp only [dL, List.map_cons, ih]
theorem dL_app (a b : List Itm) : dL (a ++ b) = dL a ++ dL b := by simp [dL_map]

theorem szL_app : ∀ a b : List Itm, szL (a ++ b) = szL a + szL b
  | [], b => by simp [szL]
  | x :: a, b => by simp only [List.cons_append, szL, szL_app a b]; omega
theorem mnS_app : ∀ a b : List Itm, mnS (a ++ b) = mnS a + mnS b
  | [], b => by simp [mnS]
  | x :: a, b => by simp only [List.cons_append, mnS, mnS_app a b]; omega
theorem encL_app : ∀ a b : List Itm, encL (a ++ b) = encL a ++ encL b
  | [], b => by simp [encL]
  | x :: a, b => by simp only [List.cons_append, encL, encL_app a b, List.append_assoc]
theorem okL_app (n : Nat) : ∀ a b : List Itm, okL n (a ++ b) = (okL n a && okL n b)
  | [], b => by simp [okL]
  | x :: a, b => by simp only [List.cons_append, okL, okL_app n a b, Bool.and_assoc]
theorem wfL_app : ∀ a b : List Itm, wfL (a ++ b) ↔ wfL a ∧ wfL b
  | [], b => by simp [wfL]
  | x :: a, b => by simp only [List.cons_append, wfL, wfL_app a b, and_assoc]
theorem encL_take {l : List Itm} {i : Nat} (h : i < l.length) : encL (l.take (i + 1)) = encL (l.take i) ++ encI l[i] := by
  rw [List.take_succ_eq_append_getElem h, encL_app]
  simp [encL]
theorem mnS_take {l : List Itm} {i : Nat} (h : i < l.length) : mnS (l.take (i + 1)) = mnS (l.take i) + mnI l[i] := by
  rw [List.take_succ_eq_append_getElem h, mnS_app]
  simp [mnS]
theorem sz_take (l : List Itm) (i : Nat) : szL (l.take i) ≤ szL l := by
  have := szL_app (l.take i) (l.drop i)
  rw [List.take_append_drop] at this
  omega
theorem sz_at {l : List Itm} {i : Nat} (h : i < l.length) : szI l[i] ≤ szL l := by
  have h1 := szL_app (l.take (i + 1)) (l.drop (i + 1))
  rw [List.take_append_drop, List.take_succ_eq_append_getElem h, szL_app] at h1
  simp only [szL] at h1
  omega
theorem sz_len : ∀ l : List Itm, 20 * l.length ≤ szL l
  | [] => by simp
  | .mk t b k :: l => by have := sz_len l; simp only [szL, szI, List.length_cons]; omega
theorem wf_at : ∀ {l : List Itm} {i : Nat} (h : i < l.length), wfL l → wfI l[i]
  | x :: l, 0, h, hw => by simp only [wfL] at hw; exact hw.1
  | x :: l, i + 1, h, hw => by simp only [wfL] at hw; exact wf_at (l := l) (i := i) (by simpa using h) hw.2
theorem wf_take : ∀ {l : List Itm} (i : Nat), wfL l → wfL (l.take i) := fun {l} i h => by
  have := wfL_app (l.take i) (l.drop i)
  rw [List.take_append_drop] at this
  exact (this.1 h).1
theorem dp_at : ∀ {l : List Itm} {i : Nat} (h : i < l.length), dpL l[i].k < dpL l
  | .mk t b k :: l, 0, h => by simp only [List.getElem_cons_zero, Itm.k, dpL, dpI]; omega
  | x :: l, i + 1, h => by have := dp_at (l := l) (i := i) (by simpa using h); simp only [List.getElem_cons_succ, dpL]; omega
theorem szk (x : Itm) : szI x = 20 + x.b.length + szL x.k := by cases x; simp only [szI, Itm.b, Itm.k]
theorem wfk {x : Itm} (h : wfI x) : x.t < 18446744073709551616 ∧ wfL x.k := by cases x; simp only [wfI] at h; exact h
mutual
theorem mn_leI : ∀ x : Itm, mnI x + 20 ≤ szI x
  | .mk t b k => by have := mn_leL k; have := sz_len k; simp only [mnI, szI]; omega
theorem mn_leL : ∀ l : List Itm, mnS l + 20 * l.length ≤ szL l
  | [] => by simp [mnS, szL]
  | x :: l => by have := mn_leI x; have := mn_leL l; simp only [mnS, szL, List.length_cons]; omega
end
theorem putV_le {x : Nat} (h : x < 18446744073709551616) : (putV x).length ≤ 10 := (putV_10 h).2
mutual
theorem enc_leI : ∀ x : Itm, wfI x → szI x ≤ 1000000000 → (encI x).length ≤ szI x
  | .mk t b k, hw, hs => by
    simp only [wfI] at hw
    simp only [szI] at hs ⊢
    have h1 := enc_leL k hw.2 (by omega)
    have h2 := putV_le hw.1
    simp only [encI, List.length_append]
    by_cases c : t % 2 = 1
    · simp only [if_pos c]
      have h3 : (putV (encL k).length).length ≤ 10 := putV_le (by omega)
      omega
    · simp only [if_neg c]
      have h3 : (putV b.length).length ≤ 10 := putV_le (by omega)
      omega
theorem enc_leL : ∀ l : List Itm, wfL l → szL l ≤ 1000000000 → (encL l).length ≤ szL l
  | [], hw, hs => by simp [encL]
  | x :: l, hw, hs => by
    simp only [wfL] at hw
    simp only [szL] at hs ⊢
    have h1 := enc_leI x hw.1 (by omega)
    have h2 := enc_leL l hw.2 (by omega)
    simp only [encL, List.length_append]
    omega
end
/-- What stands behind an item's length. -/
def inn (x : Itm) : List UInt8 := if x.t % 2 = 1 then encL x.k else x.b
theorem encI_inn (x : Itm) : encI x = putV x.t ++ (putV (inn x).length ++ inn x) := by cases x; simp only [encI, inn, Itm.t, Itm.k, Itm.b]; rfl
theorem inn_le {x : Itm} (hw : wfI x) (hs : szI x ≤ 1000000000) : (inn x).length + 20 ≤ szI x := by
  have h1 := szk x
  have h2 := enc_leL x.k (wfk hw).2 (by omega)
  unfold inn
  split <;> omega

/-! What is counted. -/
theorem many_body {self : List D → Option Int} {l : List Itm} {r : List D} (hR : RepL l r) (hs : szL l ≤ 1000000000) (h : ∀ i (hi : i < l.length), self (D.toL (D.fld (getD r i) 2)) = some ((l[i].k.length + mnS l[i].k : Nat) : Int)) :
    B_tollbarlaw03_many self r = some ((l.length + mnS l : Nat) : Int) := by
  have hl := hR.len
  have hsz := sz_len l
  have hmn := mn_leL l
  have key : ∀ (m i : Nat), i + m = l.length → iter (F_tollbarlaw03_many_L1 self r) (((l.length + mnS (l.take i) : Nat) : Int), (i : Int)) = some ((l.length + mnS l : Nat) : Int) := by
    intro m
    induction m with
    | zero =>
      intro i hi
      apply iter_inr
      unfold F_tollbarlaw03_many_L1
      dsimp only
      rw [if_neg (by rw [pilt]; simp only [ofN, xlen]; omega), List.take_of_length_le (by omega)]
    | succ m ih =>
      intro i hi
      have hi' : i < l.length := by omega
      have hX := hR.at i hi'
      have e1 := mnS_take hi'
      have e2 : mnI l[i] = l[i].k.length + mnS l[i].k + l[i].b.length / 100 := by cases l[i]; simp only [mnI, Itm.k, Itm.b]
      have e3 := mnS_app (l.take (i + 1)) (l.drop (i + 1))
      rw [List.take_append_drop] at e3
      have e4 : iquo .i64 (ofN (xlen l[i].b)) 100 = ((l[i].b.length / 100 : Nat) : Int) := by
        have := sz_at hi'
        have := szk l[i]
        simp only [iquo, ofN, xlen]
        rw [Int.tdiv_eq_ediv_of_nonneg (by omega), pwi64 (by omega) (by omega)]
        omega
      rw [← ih (i + 1) (by omega)]
      apply iter_inl
      unfold F_tollbarlaw03_many_L1
      dsimp only
      rw [if_pos (by rw [pilt]; simp only [ofN, xlen]; omega), if_pos (by simp only [ofN, xlen]; omega), ptoN, h i hi']
      dsimp only
      rw [if_pos (by simp only [ofN, xlen]; omega), hX.b, e4, pnext (by omega)]
      congr 3
      simp only [iadd]
      rw [pwi64 (x := ((l[i].k.length + mnS l[i].k : Nat) : Int) + _) (by omega) (by omega), pwi64 (by omega) (by omega)]
      omega
  unfold B_tollbarlaw03_many
  have := key l.length 0 (by omega)
  simp only [List.take_zero, mnS, Nat.add_zero] at this
  rw [← this]
  simp only [ofN, xlen, hl]
  rfl
theorem many_ok (n : Nat) : ∀ (l : List Itm) (r : List D), RepL l r → dpL l < n → szL l ≤ 1000000000 → G_tollbarlaw03_many n r = some ((l.length + mnS l : Nat) : Int) := by
  induction n with
  | zero => intro l r _ h; omega
  | succ n ih =>
    intro l r hR hd hs
    exact many_body hR hs fun i hi => ih _ _ (hR.at i hi).k (by have := dp_at hi; omega) (by have := sz_at hi; have := szk l[i]; omega)
theorem p_many {l : List Itm} {r : List D} (hR : RepL l r) (hs : szL l ≤ 1000000000) : F_tollbarlaw03_many r = some ((l.length + mnS l : Nat) : Int) :=
  fix_tollbarlaw03_many r (many_ok (dpL l + 1) l r hR (by omega) hs)

/-! Items, as the reference has them. -/
theorem plain_body {self : List D → Option (List D)} {l : List Itm} {r : List D} (hR : RepL l r) (hs : szL l ≤ 1000000000) (h : ∀ i (hi : i < l.length), self (D.toL (D.fld (getD r i) 2)) = some (dL l[i].k)) :
    B_tollbarlaw03_plain self r = some (dL l) := by
  have hl := hR.len
  have hsz := sz_len l
  have key : ∀ (m i : Nat), i + m = l.length → iter (F_tollbarlaw03_plain_L1 self r) ((i : Int), dL (l.take i)) = some (dL l) := by
    intro m
    induction m with
    | zero =>
      intro i hi
      apply iter_inr
      unfold F_tollbarlaw03_plain_L1
      dsimp only
      rw [if_neg (by rw [pilt]; simp only [ofN, xlen]; omega), List.take_of_length_le (by omega)]
    | succ m ih =>
      intro i hi
      have hi' : i < l.length := by omega
      have hX := hR.at i hi'
      have e0 : (dL (l.take i)).length = i := by rw [dL_map]; simp; omega
      have e1 : dL (l.take (i + 1)) = dL (l.take i) ++ [dI l[i]] := by rw [List.take_succ_eq_append_getElem hi', dL_app]; simp [dL]
      have e2 : dI l[i] = D.l [D.i l[i].t, D.s l[i].b, D.l (dL l[i].k)] := by cases l[i]; simp only [dI, Itm.t, Itm.b, Itm.k]
      rw [← ih (i + 1) (by omega)]
      apply iter_inl
      unfold F_tollbarlaw03_plain_L1
      dsimp only
      rw [if_pos (by rw [pilt]; simp only [ofN, xlen]; omega), if_pos (by simp only [ofN, xlen]; omega), if_pos (by simp only [ofN, xlen]; omega), if_pos (by simp only [ofN, xlen]; omega), ptoN, h i hi']
      dsimp only
      rw [hX.b, hX.t, if_pos (by simp only [xlen, e0, List.length_singleton]; omega), pnext (by omega), e1, e2]
      rfl
  unfold B_tollbarlaw03_plain
  exact key l.length 0 (by omega)
theorem plain_ok (n : Nat) : ∀ (l : List Itm) (r : List D), RepL l r → dpL l < n → szL l ≤ 1000000000 → G_tollbarlaw03_plain n r = some (dL l) := by
  induction n with
  | zero => intro l r _ h; omega
  | succ n ih =>
    intro l r hR hd hs
    exact plain_body hR hs fun i hi => ih _ _ (hR.at i hi).k (by have := dp_at hi; omega) (by have := sz_at hi; have := szk l[i]; omega)
theorem p_plain {l : List Itm} {r : List D} (hR : RepL l r) (hs : szL l ≤ 1000000000) : F_tollbarlaw03_plain r = some (dL l) :=
  fix_tollbarlaw03_plain r (plain_ok (dpL l + 1) l r hR (by omega) hs)

/-! The encoding. -/
theorem all_body {self : List D → Option (List UInt8)} {l : List Itm} {r : List D} (hR : RepL l r) (hw : wfL l) (hs : szL l ≤ 1000000000) (h : ∀ i (hi : i < l.length), self (D.toL (D.fld (getD r i) 2)) = some (encL l[i].k)) :
    B_tollbarref03_All self r = some (encL l) := by
  have hl := hR.len
  have hsz := sz_len l
  have key : ∀ (m i : Nat), i + m = l.length → iter (F_tollbarref03_All_L1 self r) (encL (l.take i), (i : Int)) = some (encL l) := by
    intro m
    induction m with
    | zero =>
      intro i hi
      apply iter_inr
      unfold F_tollbarref03_All_L1
      dsimp only
      rw [if_neg (by rw [pilt]; simp only [ofN, xlen]; omega), List.take_of_length_le (by omega)]
    | succ m ih =>
      intro i hi
      have hi' : i < l.length := by omega
      have hX := hR.at i hi'
      have hwi := wf_at hi' hw
      have hsi := sz_at hi'
      have hin := inn_le hwi (by omega)
      have ht := (wfk hwi).1
      have hp := putV_le ht
      have htk := enc_leL (l.take i) (wf_take i hw) (by have := sz_take l i; omega)
      have hsk := sz_take l i
      have e1 := encL_take hi'
      have em : irem (l[i].t : Int) 2 = ((l[i].t % 2 : Nat) : Int) := by simp only [irem]; rw [Int.tmod_eq_emod_of_nonneg (by omega)]; omega
      have ec : iconv .u64 (ofN (xlen (inn l[i]))) = (((inn l[i]).length : Nat) : Int) := by simp only [iconv, ofN, xlen]; exact pu64 (by omega) (by omega)
      have hp2 : (putV (inn l[i]).length).length ≤ 10 := putV_le (by omega)
      have e5 : cat (encL (l.take i)) (cat (cat (putV l[i].t) (putV (inn l[i]).length)) (inn l[i])) = encL (l.take (i + 1)) := by
        rw [e1, encI_inn]
        simp only [cat, List.append_assoc]
      rw [← ih (i + 1) (by omega)]
      apply iter_inl
      unfold F_tollbarref03_All_L1
      dsimp only
      rw [if_pos (by rw [pilt]; simp only [ofN, xlen]; omega), if_pos (by simp only [ofN, xlen]; omega), if_pos (by simp only [ofN, xlen]; omega), ptoN, hX.t, hX.b, em]
      by_cases c : l[i].t % 2 = 1
      · have hin' : inn l[i] = encL l[i].k := by unfold inn; rw [if_pos c]
        rw [if_pos (by rw [pieq]; omega), if_pos (by simp only [ofN, xlen]; omega), h i hi', ← hin']
        dsimp only
        rw [if_pos (by simp only [ofN, xlen]; omega), p_rput ht]
        dsimp only
        rw [ec, p_rput (by omega)]
        dsimp only
        rw [if_pos (by simp only [xlen]; omega), if_pos (by simp only [xlen, cat, List.length_append]; omega), if_pos (by simp only [xlen, cat, List.length_append]; omega), e5, pnext (by omega)]
      · have hin' : inn l[i] = l[i].b := by unfold inn; rw [if_neg c]
        rw [if_neg (by rw [pieq]; omega), if_pos (by simp only [ofN, xlen]; omega), p_rput ht]
        dsimp only
        rw [← hin', ec, p_rput (by omega)]
        dsimp only
        rw [if_pos (by simp only [xlen]; omega), if_pos (by simp only [xlen, cat, List.length_append]; omega), if_pos (by simp only [xlen, cat, List.length_append]; omega), e5, pnext (by omega)]
  unfold B_tollbarref03_All
  exact key l.length 0 (by omega)
theorem all_ok (n : Nat) : ∀ (l : List Itm) (r : List D), RepL l r → wfL l → dpL l < n → szL l ≤ 1000000000 → G_tollbarref03_All n r = some (encL l) := by
  induction n with
  | zero => intro l r _ _ h; omega
  | succ n ih =>
    intro l r hR hw hd hs
    exact all_body hR hw hs fun i hi => ih _ _ (hR.at i hi).k (wfk (wf_at hi hw)).2 (by have := dp_at hi; omega) (by have := sz_at hi; have := szk l[i]; omega)
theorem p_all {l : List Itm} {r : List D} (hR : RepL l r) (hw : wfL l) (hs : szL l ≤ 1000000000) : F_tollbarref03_All r = some (encL l) :=
  fix_tollbarref03_All r (all_ok (dpL l + 1) l r hR hw (by omega) hs)

/-! How many bytes. -/
theorem p_and1 (t : Nat) (h : t < 18446744073709551616) : iand .u64 (t : Int) 1 = ((t % 2 : Nat) : Int) := by
  have e : (BitVec.ofInt 64 (t : Int) &&& BitVec.ofInt 64 1).toNat = t % 2 := by
    rw [BitVec.toNat_and]
    have e1 : (BitVec.ofInt 64 (t : Int)).toNat = t := by rw [BitVec.toNat_ofInt]; omega
    have e2 : (BitVec.ofInt 64 1).toNat = 1 := by decide
    rw [e1, e2, Nat.and_one_is_mod]
  show IntKind.u64.wrap (((BitVec.ofInt 64 (t : Int) &&& BitVec.ofInt 64 1).toNat : Nat) : Int) = _
  rw [e]
  exact pu64 (by omega) (by omega)
theorem p_odd (t : Nat) (h : t < 18446744073709551616) (b : List UInt8) (r : List D) : F_tlv_Item_odd (t : Int) b r = some (decide (t % 2 = 1)) := by
  unfold F_tlv_Item_odd
  rw [p_and1 t h]
  congr 1
  rw [Bool.eq_iff_iff, pieq, decide_eq_true_iff]
  omega
theorem p_odd2 (t : Nat) (h : t < 18446744073709551616) : F_tlv_Item_odd_2 (t : Int) = some (decide (t % 2 = 1)) := p_odd t h [] []
theorem inner_body {self : List D → Option Int} {x : Itm} {d : D} (hR : Rep x d) (hw : wfI x) (h : self (D.toL (D.fld d 2)) = some (((encL x.k).length : Nat) : Int)) :
    B_tlv_Item_inner self (D.toI (D.fld d 0)) (D.toS (D.fld d 1)) (D.toL (D.fld d 2)) = some (((inn x).length : Nat) : Int) := by
  unfold B_tlv_Item_inner inn
  rw [hR.t, hR.b, p_odd _ (wfk hw).1]
  dsimp only
  by_cases c : x.t % 2 = 1
  · rw [if_pos (by simp [c]), h, if_pos c]
  · rw [if_neg (by simp [c]), if_neg c]
    rfl
theorem size_body {self : Int → List UInt8 → List D → Option Int} {l : List Itm} {r : List D} (sf : List D → Option Int) (hR : RepL l r) (hw : wfL l) (hs : szL l ≤ 1000000000)
    (h : ∀ i (hi : i < l.length), self (D.toI (D.fld (getD r i) 0)) (D.toS (D.fld (getD r i) 1)) (D.toL (D.fld (getD r i) 2)) = some (((inn l[i]).length : Nat) : Int)) :
    B_tlv_Size sf self r = some (((encL l).length : Nat) : Int) := by
  have hl := hR.len
  have hsz := sz_len l
  have key : ∀ (m i : Nat), i + m = l.length → iter (F_tlv_Size_L1 self r) ((((encL (l.take i)).length : Nat) : Int), (i : Int)) = some (((encL l).length : Nat) : Int) := by
    intro m
    induction m with
    | zero =>
      intro i hi
      apply iter_inr
      unfold F_tlv_Size_L1
      dsimp only
      rw [if_neg (by rw [pilt]; simp only [ofN, xlen]; omega), List.take_of_length_le (by omega)]
    | succ m ih =>
      intro i hi
      have hi' : i < l.length := by omega
      have hX := hR.at i hi'
      have hwi := wf_at hi' hw
      have hsi := sz_at hi'
      have hin := inn_le hwi (by omega)
      have ht := (wfk hwi).1
      have hp := putV_le ht
      have htk := enc_leL (l.take i) (wf_take i hw) (by have := sz_take l i; omega)
      have hsk := sz_take l i
      have hp2 : (putV (inn l[i]).length).length ≤ 10 := putV_le (by omega)
      have ec : iconv .u64 (((inn l[i]).length : Nat) : Int) = (((inn l[i]).length : Nat) : Int) := by simp only [iconv]; exact pu64 (by omega) (by omega)
      have e1 : (encL (l.take (i + 1))).length = (encL (l.take i)).length + ((putV l[i].t).length + ((putV (inn l[i]).length).length + (inn l[i]).length)) := by
        rw [encL_take hi', encI_inn]
        simp only [List.length_append]
      rw [← ih (i + 1) (by omega)]
      apply iter_inl
      unfold F_tlv_Size_L1
      dsimp only
      rw [if_pos (by rw [pilt]; simp only [ofN, xlen]; omega), if_pos (by simp only [ofN, xlen]; omega), ptoN, h i hi']
      dsimp only
      rw [hX.t, p_len ht]
      dsimp only
      rw [ec, p_len (by omega)]
      dsimp only
      rw [pnext (by omega), e1]
      congr 3
      simp only [iadd]
      rw [pwi64 (x := (((putV l[i].t).length : Nat) : Int) + _) (by omega) (by omega), pwi64 (x := _ + (((inn l[i]).length : Nat) : Int)) (by omega) (by omega), pwi64 (by omega) (by omega)]
      omega
  unfold B_tlv_Size
  exact key l.length 0 (by omega)
theorem size_ok (n : Nat) : ∀ (l : List Itm) (r : List D), RepL l r → wfL l → dpL l < n → szL l ≤ 1000000000 → G_tlv_Size n r = some (((encL l).length : Nat) : Int) := by
  induction n with
  | zero => intro l r _ _ h; omega
  | succ n ih =>
    intro l r hR hw hd hs
    exact size_body (G_tlv_Size n) hR hw hs fun i hi => inner_body (hR.at i hi) (wf_at hi hw) (ih _ _ (hR.at i hi).k (wfk (wf_at hi hw)).2 (by have := dp_at hi; omega) (by have := sz_at hi; have := szk l[i]; omega))
theorem p_size {l : List Itm} {r : List D} (hR : RepL l r) (hw : wfL l) (hs : szL l ≤ 1000000000) : F_tlv_Size r = some (((encL l).length : Nat) : Int) :=
  fix_tlv_Size r (size_ok (dpL l + 1) l r hR hw (by omega) hs)
theorem p_inner {x : Itm} {d : D} (hR : Rep x d) (hw : wfI x) (hs : szI x ≤ 1000000000) : F_tlv_Item_inner (D.toI (D.fld d 0)) (D.toS (D.fld d 1)) (D.toL (D.fld d 2)) = some (((inn x).length : Nat) : Int) :=
  fix_tlv_Item_inner (gn := dpL x.k + 1) _ _ _ (inner_body hR hw (size_ok _ _ _ hR.k (wfk hw).2 (by omega) (by have := szk x; omega)))
end Go.Proofs.Ytknaheioedkaeaa
end
section
/-
  What is known of arguments: their numbers fit.
-/
set_option linter.unusedVariables false
set_option linter.unusedSimpArgs false
namespace Go.Proofs.Ytknaheioedkaeaa
theorem wf_U {x : Int} (h : (Lit.int .u64 x).wf = true) : U x := by
  have : 0 ≤ x ∧ x ≤ 18446744073709551615 := by simpa [Lit.wf, IntKind.min, IntKind.max, IntKind.signed, IntKind.bits, Int.lt_add_one_iff, Int.le_sub_one_iff] using h
  unfold U; omega
theorem wf_u32 {x : Int} (h : (Lit.int .u32 x).wf = true) : 0 ≤ x ∧ x < 4294967296 := by
  have : 0 ≤ x ∧ x ≤ 4294967295 := by simpa [Lit.wf, IntKind.min, IntKind.max, IntKind.signed, IntKind.bits, Int.lt_add_one_iff, Int.le_sub_one_iff] using h
  omega
theorem wf_u16 {x : Int} (h : (Lit.int .u16 x).wf = true) : 0 ≤ x ∧ x < 65536 := by
  have : 0 ≤ x ∧ x ≤ 65535 := by simpa [Lit.wf, IntKind.min, IntKind.max, IntKind.signed, IntKind.bits, Int.lt_add_one_iff, Int.le_sub_one_iff] using h
  omega
theorem wf_u8 {x : Int} (h : (Lit.int .u8 x).wf = true) : 0 ≤ x ∧ x < 256 := by
  have : 0 ≤ x ∧ x ≤ 255 := by simpa [Lit.wf, IntKind.min, IntKind.max, IntKind.signed, IntKind.bits, Int.lt_add_one_iff, Int.le_sub_one_iff] using h
  omega
theorem wf_i64 {x : Int} (h : (Lit.int .i64 x).wf = true) : -9223372036854775808 ≤ x ∧ x ≤ 9223372036854775807 := by
  simpa [Lit.wf, IntKind.min, IntKind.max, IntKind.signed, IntKind.bits, Int.lt_add_one_iff, Int.le_sub_one_iff] using h
end Go.Proofs.Ytknaheioedkaeaa
end
section
/-
  Items that came in, opened; how many there are is bounded by what is read.
-/
set_option linter.unusedVariables false
set_option linter.unusedSimpArgs false
namespace Go.Proofs.Ytknaheioedkaeaa
open Go.RowKit Go.ChangeShapes Go.WideShapes Go.Deep

section
variable {H : Type} {enc : TypeId × Value → H} {w : World} {base : Nat} {spare : Nat → Bool} {held : Bool}
theorem bulk_one (d : DataW H) : 1 ≤ Rows.uptoBulk d := by
  cases d with
  | lit l => cases l <;> simp [Rows.uptoBulk]
  | _ => simp [Rows.uptoBulk]
theorem bulk_len : ∀ l : List (DataW H), l.length ≤ Rows.uptoBulkAll l
  | [] => by simp
  | x :: r => by have := bulk_one x; have := bulk_len r; simp only [Rows.uptoBulkAll, List.length_cons]; omega
theorem bulk_part : ∀ (l : List (DataW H)) (i : Nat) (h : i < l.length), Rows.uptoBulk l[i] ≤ Rows.uptoBulkAll l
  | x :: r, 0, h => by simp only [List.getElem_cons_zero, Rows.uptoBulkAll]; omega
  | x :: r, i + 1, h => by have := bulk_part r i (by simpa using h); simp only [List.getElem_cons_succ, Rows.uptoBulkAll]; omega
theorem open_bytesN {P : Program} {t T : TypeId} (hu : P.underlying t = some (.slice T)) (he : P.underlying T = some (.int .u8)) (hc : P.cellsOf T = 1) {fuel : Nat} {cs : List Value} {x : DataW H × List MemPlace} (h : DataW.trod enc P w base spare held fuel t cs = some x) :
    ∃ l : List UInt8, l.length ≤ Rows.uptoBulk x.1 ∧ Dens PN w AN [.rsl (.bs T l)] cs := by
  rcases open_slice1 hu hc h with ⟨rfl, rfl⟩ | ⟨a, len, cap, m, n, V, D0, Pl0, rfl, hb, hl, hm, hmm, rfl, hi⟩
  · exact ⟨[], by simp, den1 (nil_den rfl .nsl) rfl⟩
  · have hle : len ≤ m := by rw [hmm]; split <;> omega
    have each : ∀ i, ∃ b : UInt8, i < len → w.cell? (a.add i) = some (.int .u8 b.toNat) := fun i => by
      by_cases h : i < len
      · obtain ⟨h1, h2⟩ := hi i (by omega)
        obtain ⟨y, e1, _, e2⟩ := DataW.trod_int he h2
        injection e1 with e1 _
        have hy : 0 ≤ y ∧ y ≤ 255 := by simpa [Lit.wf, IntKind.min, IntKind.max, IntKind.signed, IntKind.bits, Int.lt_add_one_iff, Int.le_sub_one_iff] using e2
        refine ⟨UInt8.ofNat y.toNat, fun _ => ?_⟩
        rw [h1, e1]
        have : ((UInt8.ofNat y.toNat).toNat : Int) = y := by simp; omega
        rw [this]
      · exact ⟨0, fun h' => absurd h' h⟩
    obtain ⟨f, hf⟩ := Classical.axiomOfChoice each
    refine ⟨(List.range len).map f, ?_, den1 (open_row (by simp [rlen]) hl (by show 0 < 1; omega) fun i hi => ⟨[.int .u8 (f i).toNat], rfl, ?_, ?_⟩) rfl⟩
    · have := bulk_len ((List.range len).map D0)
      simp only [List.length_map, List.length_range] at this ⊢
      simp only [Rows.uptoBulk]
      omega
    · intro j hj
      have : j = 0 := by simp [R.sz] at hj; exact hj
      subst this
      simp only [R.sz, Nat.mul_one, Nat.add_zero]
      rw [hf i hi]
      rfl
    · have : getB ((List.range len).map f) i = ((f i).toNat : Int) := by simp [getB, hi]
      simp only [R.elem, lock_eq, this]
      exact den1 (.v _) rfl

theorem item_leaves (t : Nat) (b : List UInt8) (k : List Itm) : (tyEnv 46).leaves (dI (.mk t b k)) = [.v (.int .u64 (t : Int)), .rsl (.bs 5 b), .rsl (.row 46 (tyEnv 46) (dL k))] := by
  have e : tyEnv 46 = .st [.int .u64, .bytes 5, .self 46] := rfl
  conv => lhs; rw [e]
  simp only [Ty.leaves, Ty.leavesL, lock_eq, dI, D.fld, D.toL]
  simp [D.toI, D.toS, D.toL]
theorem open_item {fuel : Nat} {cs : List Value} {x : DataW H × List MemPlace} (h : DataW.trod enc Try.prog w base spare held fuel 46 cs = some x)
    (ih : ∀ (f : Nat) (c : List Value) (y : DataW H × List MemPlace), Rows.uptoBulk y.1 < Rows.uptoBulk x.1 → DataW.trod enc Try.prog w base spare held f 22 c = some y → ∃ l : List Itm, Dens PN w AN [.rsl (.row 46 (tyEnv 46) (dL l))] c ∧ wfL l ∧ szL l ≤ 20 * Rows.uptoBulk y.1) :
    ∃ i : Itm, Dens PN w AN ((tyEnv 46).leaves (dI i)) cs ∧ wfI i ∧ szI i ≤ 20 * Rows.uptoBulk x.1 := by
  obtain ⟨y0, y1, y2, n, rfl, hl, h0, h1, h2⟩ := trod_struct3 Try.underlying46 h
  have c3 : Try.prog.cellsOf 46 = 3 := by kernel_rfl
  have c44 : Try.prog.cellsOf 44 = 1 := by kernel_rfl
  have c27 : Try.prog.cellsOf 27 = 1 := by kernel_rfl
  have c22 : Try.prog.cellsOf 22 = 1 := by kernel_rfl
  have c5 : Try.prog.cellsOf 5 = 1 := by kernel_rfl
  rw [c3] at hl
  simp only [c44, c27, c22] at h0 h1 h2
  obtain ⟨v0, v1, v2, rfl⟩ : ∃ v0 v1 v2, cs = [v0, v1, v2] := by
    match cs, hl with
    | [a, b, c], _ => exact ⟨a, b, c, rfl⟩
  simp only [List.drop_zero, List.drop_succ_cons, List.take_succ_cons, List.take_zero] at h0 h1 h2
  obtain ⟨z, e0, _, hz⟩ := DataW.trod_int Try.underlying44 h0
  injection e0 with e0 _
  have hU := wf_U hz
  obtain ⟨b, hb, hB⟩ := open_bytesN Try.underlying27 Try.underlying5 c5 h1
  have hbk : Rows.uptoBulk (DataW.agg [y0.1, y1.1, y2.1]) = Rows.uptoBulk y0.1 + (Rows.uptoBulk y1.1 + Rows.uptoBulk y2.1) + 1 := by simp only [Rows.uptoBulk, Rows.uptoBulkAll]; omega
  have ho := bulk_one y0.1
  obtain ⟨l, hD, hw, hs⟩ := ih _ _ _ (by rw [hbk]; omega) h2
  refine ⟨.mk z.toNat b l, ?_, ?_, ?_⟩
  · rw [item_leaves]
    have ez : ((z.toNat : Nat) : Int) = z := by have := hU.lo; omega
    rw [ez, e0]
    exact dens_app (a := [_]) (c := [_]) (den1 (.v _) rfl) (dens_app (a := [_]) (c := [_]) hB hD)
  · simp only [wfI]
    exact ⟨by have := hU.hi; have := hU.lo; omega, hw⟩
  · simp only [szI]
    rw [hbk]
    omega
theorem szL_map (g : Nat → Itm) (n : Nat) (B : Nat → Nat) (h : ∀ i, i < n → szI (g i) ≤ 20 * B i) : szL ((List.range n).map g) ≤ 20 * ((List.range n).map B).sum := by
  induction n with
  | zero => simp [szL]
  | succ n ih =>
    have := ih fun i hi => h i (by omega)
    have h1 := h n (by omega)
    rw [List.range_succ, List.map_append, szL_app, List.map_append, List.sum_append]
    simp only [List.map_cons, List.map_nil, szL, List.sum_cons, List.sum_nil]
    omega
theorem bulk_sum : ∀ l : List (DataW H), Rows.uptoBulkAll l = (l.map Rows.uptoBulk).sum
  | [] => rfl
  | x :: r => by simp only [Rows.uptoBulkAll, List.map_cons, List.sum_cons, bulk_sum r]
theorem wfL_all : ∀ l : List Itm, (∀ i ∈ l, wfI i) → wfL l
  | [], _ => by simp [wfL]
  | x :: r, h => by simp only [wfL]; exact ⟨h x (List.mem_cons_self ..), wfL_all r fun i hi => h i (List.mem_cons_of_mem _ hi)⟩
theorem open_items (N : Nat) : ∀ (fuel : Nat) (cs : List Value) (x : DataW H × List MemPlace), Rows.uptoBulk x.1 < N → DataW.trod enc Try.prog w base spare held fuel 22 cs = some x →
    ∃ l : List Itm, Dens PN w AN [.rsl (.row 46 (tyEnv 46) (dL l))] cs ∧ wfL l ∧ szL l ≤ 20 * Rows.uptoBulk x.1 := by
  induction N with
  | zero => intro fuel cs x h; omega
  | succ N ih =>
    intro fuel cs x hN h
    have c3 : Try.prog.cellsOf 46 = 3 := by kernel_rfl
    rcases open_slice Try.underlying22 h with ⟨rfl, rfl⟩ | ⟨a, len, cap, m, n, D0, Pl0, rfl, hb, hl, hm, hmm, rfl, hi⟩
    · refine ⟨[], den1 (nil_den (by simp [rlen, dL]) .nsl) rfl, by simp [wfL], by simp [szL]⟩
    · have hle : len ≤ m := by rw [hmm]; split <;> omega
      have hbk : Rows.uptoBulk (DataW.slice ((List.range len).map D0) ((List.range (m - len)).map fun j => D0 (len + j))) = Rows.uptoBulkAll ((List.range len).map D0) + Rows.uptoBulkAll ((List.range (m - len)).map fun j => D0 (len + j)) + 1 := by simp only [Rows.uptoBulk]
      simp only [hbk] at hN
      have each : ∀ i, ∃ q : Itm × List Value, i < len → q.2.length = 3 ∧ (∀ j, j < 3 → w.cell? (a.add (i * 3 + j)) = q.2[j]?) ∧ Dens PN w AN ((tyEnv 46).leaves (dI q.1)) q.2 ∧ wfI q.1 ∧ szI q.1 ≤ 20 * Rows.uptoBulk (D0 i) := fun i => by
        by_cases hil : i < len
        · obtain ⟨cs', g1, g2⟩ := hi i (by omega)
          obtain ⟨_, g3, g4⟩ := World.cells?_some g1
          have hpart := bulk_part ((List.range len).map D0) i (by simpa using hil)
          simp only [List.getElem_map, List.getElem_range] at hpart
          obtain ⟨it, q1, q2, q3⟩ := open_item g2 (fun f c y hy hd => ih f c y (by dsimp only at hy; omega) hd)
          refine ⟨(it, cs'), fun _ => ⟨by rw [g3, c3], fun j hj => ?_, q1, q2, q3⟩⟩
          have := g4 j (by omega)
          rw [add_add, c3] at this
          exact this
        · exact ⟨(.mk 0 [] [], []), fun h' => absurd h' hil⟩
      obtain ⟨f, hf⟩ := Classical.axiomOfChoice each
      have hdl : dL ((List.range len).map fun i => (f i).1) = (List.range len).map fun i => dI (f i).1 := by rw [dL_map, List.map_map]; rfl
      refine ⟨(List.range len).map fun i => (f i).1, ?_, ?_, ?_⟩
      · have hsz : (R.row 46 (tyEnv 46) (dL ((List.range len).map fun i => (f i).1))).sz = 3 := rfl
        refine den1 (open_row (by simp [rlen, hdl]) hl (by rw [hsz]; omega) fun i hi => ⟨(f i).2, by rw [hsz]; exact (hf i hi).1, fun j hj => ?_, ?_⟩) rfl
        · rw [hsz] at hj ⊢
          exact (hf i hi).2.1 j hj
        · have : getD (dL ((List.range len).map fun i => (f i).1)) i = dI (f i).1 := by rw [hdl]; simp [getD, hi]
          simp only [R.elem, lock_eq, this]
          exact (hf i hi).2.2.1
      · refine wfL_all _ fun i hi => ?_
        obtain ⟨j, h1, rfl⟩ := List.mem_map.1 hi
        exact (hf j (List.mem_range.1 h1)).2.2.2.1
      · have := szL_map (fun i => (f i).1) len (fun i => Rows.uptoBulk (D0 i)) fun i hi => (hf i hi).2.2.2.2
        have e2 := bulk_sum ((List.range len).map D0)
        rw [List.map_map] at e2
        have e3 : ((List.range len).map (Rows.uptoBulk ∘ D0)).sum = ((List.range len).map fun i => Rows.uptoBulk (D0 i)).sum := rfl
        rw [e3] at e2
        dsimp only
        rw [hbk]
        omega
end
end Go.Proofs.Ytknaheioedkaeaa
end
section
/-
  What may be put, and what is put.
-/
set_option linter.unusedVariables false
set_option linter.unusedSimpArgs false
namespace Go.Proofs.Ytknaheioedkaeaa

theorem ok_cons (n : Nat) (x : Itm) (l : List Itm) : okL n (x :: l) = (okI n x && okL n l) := by simp only [okL]
theorem okI_eq (n : Nat) (x : Itm) : okI n x = (decide (x.t % 2 = 1 → x.b = []) && decide (¬ x.t % 2 = 1 → x.k.length = 0) && decide (n ≤ 6) && okL (n + 1) x.k) := by
  cases x; simp only [okI, Itm.t, Itm.b, Itm.k]; rfl
theorem ok_drop {n i : Nat} {l : List Itm} (h : i < l.length) : okL n (l.drop i) = (okI n l[i] && okL n (l.drop (i + 1))) := by
  rw [List.drop_eq_getElem_cons h, ok_cons]
structure OkI (n : Nat) (x : Itm) : Prop where
  odd : x.t % 2 = 1 → x.b = []
  even : ¬ x.t % 2 = 1 → x.k = []
  deep : n ≤ 6
  kids : okL (n + 1) x.k = true
theorem okI_iff {n : Nat} {x : Itm} : okI n x = true ↔ OkI n x := by
  rw [okI_eq]
  simp only [Bool.and_eq_true, decide_eq_true_iff]
  constructor
  · rintro ⟨⟨⟨h1, h2⟩, h3⟩, h4⟩
    exact ⟨h1, fun c => List.length_eq_zero_iff.1 (h2 c), h3, h4⟩
  · intro h
    exact ⟨⟨⟨h.odd, fun c => by rw [h.even c]; rfl⟩, h.deep⟩, h.kids⟩
theorem ok_at : ∀ {n : Nat} {l : List Itm} {i : Nat} (h : i < l.length), okL n l = true → OkI n l[i]
  | n, x :: l, 0, h, hk => by rw [ok_cons, Bool.and_eq_true] at hk; exact okI_iff.1 hk.1
  | n, x :: l, i + 1, h, hk => by rw [ok_cons, Bool.and_eq_true] at hk; exact ok_at (l := l) (i := i) (by simpa using h) hk.2
theorem p_emod2 (t : Nat) : irem (t : Int) 2 = ((t % 2 : Nat) : Int) := by simp only [irem]; rw [Int.tmod_eq_emod_of_nonneg (by omega)]; omega

theorem right_body {self : List D → Int → Option Bool} {l : List Itm} {r : List D} {n : Nat} (hR : RepL l r) (hw : wfL l) (hs : szL l ≤ 1000000000) (hn : n ≤ 7)
    (h : ∀ i (hi : i < l.length), self (D.toL (D.fld (getD r i) 2)) ((n + 1 : Nat) : Int) = some (okL (n + 1) l[i].k)) : B_tlv_right self r (n : Int) = some (okL n l) := by
  have hl := hR.len
  have hsz := sz_len l
  have key : ∀ (m i : Nat), i + m = l.length → iter (F_tlv_right_L1 self r (n : Int)) (i : Int) = some (okL n (l.drop i)) := by
    intro m
    induction m with
    | zero =>
      intro i hi
      apply iter_inr
      unfold F_tlv_right_L1
      dsimp only
      rw [if_neg (by rw [pilt]; simp only [ofN, xlen]; omega), List.drop_of_length_le (by omega)]
      rfl
    | succ m ih =>
      intro i hi
      have hi' : i < l.length := by omega
      have hX := hR.at i hi'
      have hwi := wf_at hi' hw
      have ek : xlen (D.toL (D.fld (getD r i) 2)) = l[i].k.length := hX.k.len
      have en : iadd .i64 (n : Int) 1 = ((n + 1 : Nat) : Int) := pnext (by omega)
      rw [ok_drop hi']
      by_cases hO : okI n l[i] = true
      · have o := okI_iff.1 hO
        rw [hO, Bool.true_and, ← ih (i + 1) (by omega)]
        apply iter_inl
        unfold F_tlv_right_L1
        dsimp only
        rw [if_pos (by rw [pilt]; simp only [ofN, xlen]; omega), if_pos (by simp only [ofN, xlen]; omega), ptoN, hX.t, hX.b, p_odd _ (wfk hwi).1]
        dsimp only
        by_cases c : l[i].t % 2 = 1
        · rw [decide_eq_true c, if_pos rfl, if_neg (by rw [pilt, o.odd c]; simp only [ofN, xlen]; simp), if_pos rfl, if_neg (by rw [pilt]; have := o.deep; omega), en, h i hi', o.kids]
          dsimp only
          rw [if_pos rfl, pnext (by omega)]
        · rw [decide_eq_false c, if_neg (by simp), if_neg (by simp), if_neg (by rw [pilt, ek, o.even c]; simp only [ofN]; simp), if_neg (by rw [pilt]; have := o.deep; omega), en, h i hi', o.kids]
          dsimp only
          rw [if_pos rfl, pnext (by omega)]
      · have hO' : okI n l[i] = false := by simpa using hO
        rw [hO', Bool.false_and]
        apply iter_inr
        have ho := hO'
        rw [okI_eq] at ho
        unfold F_tlv_right_L1
        dsimp only
        rw [if_pos (by rw [pilt]; simp only [ofN, xlen]; omega), if_pos (by simp only [ofN, xlen]; omega), ptoN, hX.t, hX.b, p_odd _ (wfk hwi).1]
        dsimp only
        by_cases c : l[i].t % 2 = 1
        · rw [decide_eq_true c, if_pos rfl]
          by_cases c2 : l[i].b = []
          · rw [if_neg (by rw [pilt, c2]; simp only [ofN, xlen]; simp), if_pos rfl]
            by_cases c3 : n ≤ 6
            · rw [if_neg (by rw [pilt]; omega), en, h i hi']
              dsimp only
              rw [decide_eq_true (fun _ => c2), decide_eq_true (fun q => absurd c q), decide_eq_true c3] at ho
              simp only [Bool.true_and] at ho
              rw [ho, if_neg (by simp)]
            · rw [if_pos (by rw [pilt]; omega)]
          · rw [if_pos (by rw [pilt]; simp only [ofN, xlen]; have := List.length_pos_iff.2 c2; omega)]
        · rw [decide_eq_false c, if_neg (by simp), if_neg (by simp), ek]
          by_cases c2 : l[i].k.length = 0
          · rw [if_neg (by rw [pilt]; simp only [ofN]; omega)]
            by_cases c3 : n ≤ 6
            · rw [if_neg (by rw [pilt]; omega), en, h i hi']
              dsimp only
              rw [decide_eq_true (fun q => absurd q c), decide_eq_true (fun _ => c2), decide_eq_true c3] at ho
              simp only [Bool.true_and] at ho
              rw [ho, if_neg (by simp)]
            · rw [if_pos (by rw [pilt]; omega)]
          · rw [if_pos (by rw [pilt]; simp only [ofN]; omega)]
  unfold B_tlv_right
  exact key l.length 0 (by omega)
theorem right_ok (g : Nat) : ∀ (l : List Itm) (r : List D) (n : Nat), RepL l r → wfL l → dpL l < g → szL l ≤ 1000000000 → G_tlv_right g r (n : Int) = some (okL n l) ∨ 7 < n := by
  induction g with
  | zero => intro l r n _ _ h; omega
  | succ g ih =>
    intro l r n hR hw hd hs
    by_cases hn : n ≤ 6
    · left
      exact right_body hR hw hs (by omega) fun i hi => by
        rcases ih _ _ (n + 1) (hR.at i hi).k (wfk (wf_at hi hw)).2 (by have := dp_at hi; omega) (by have := sz_at hi; have := szk l[i]; omega) with h | h
        · exact h
        · omega
    · by_cases h7 : n = 7
      · subst h7
        left
        -- no item is so deep: the kids are not looked at
        cases l with
        | nil => exact right_body hR hw hs (by omega) fun i hi => by simp at hi
        | cons x l =>
          have e : okL 7 (x :: l) = false := by rw [ok_cons, okI_eq]; simp
          rw [e]
          have hi' : 0 < (x :: l).length := by simp
          have hX := hR.at 0 hi'
          have hl := hR.len
          have hwi := wf_at hi' hw
          have ek : xlen (D.toL (D.fld (getD r 0) 2)) = x.k.length := hX.k.len
          show B_tlv_right (G_tlv_right g) r ((7 : Nat) : Int) = _
          unfold B_tlv_right
          apply iter_inr
          unfold F_tlv_right_L1
          dsimp only
          have hX0 := hX
          simp only [List.getElem_cons_zero] at hX0 hwi
          rw [if_pos (by rw [pilt]; simp only [ofN, xlen]; omega), if_pos (by simp only [ofN, xlen]; omega), show toN (0 : Int) = 0 from rfl, hX0.t, hX0.b, p_odd _ (wfk hwi).1]
          dsimp only
          by_cases c : x.t % 2 = 1
          · rw [decide_eq_true c, if_pos rfl]
            by_cases c2 : ilt (0 : Int) (ofN (xlen x.b)) = true
            · rw [if_pos c2]
            · rw [if_neg c2, if_pos rfl, if_pos (by decide)]
          · rw [decide_eq_false c, if_neg (by simp), if_neg (by simp)]
            by_cases c2 : ilt (0 : Int) (ofN (xlen (D.toL (D.fld (getD r 0) 2)))) = true
            · rw [if_pos c2]
            · rw [if_neg c2, if_pos (by decide)]
      · right; omega
theorem p_right {l : List Itm} {r : List D} (hR : RepL l r) (hw : wfL l) (hs : szL l ≤ 1000000000) : F_tlv_right r 1 = some (okL 1 l) := by
  rcases right_ok (dpL l + 1) l r 1 hR hw (by omega) hs with h | h
  · exact fix_tlv_right r 1 h
  · omega

theorem R12_eq : F_tollbarref03_right_L1 = F_tollbarref03_right_L2 := rfl
theorem rright_body {self : List D → Int → Option Bool} {l : List Itm} {r : List D} {n : Nat} (hR : RepL l r) (hw : wfL l) (hs : szL l ≤ 1000000000) (hn : n ≤ 7)
    (h : n ≤ 6 → ∀ i (hi : i < l.length), self (D.toL (D.fld (getD r i) 2)) ((n + 1 : Nat) : Int) = some (okL (n + 1) l[i].k)) : B_tollbarref03_right self r (n : Int) = some (okL n l) := by
  have hl := hR.len
  have hsz := sz_len l
  have key : n ≤ 6 → ∀ (m i : Nat), i + m = l.length → iter (F_tollbarref03_right_L2 self r (n : Int)) (i : Int) = some (okL n (l.drop i)) := by
    intro hn6 m
    have hb := fun i hi => h hn6 i hi
    induction m with
    | zero =>
      intro i hi
      apply iter_inr
      unfold F_tollbarref03_right_L2
      dsimp only
      rw [if_neg (by rw [pilt]; simp only [ofN, xlen]; omega), List.drop_of_length_le (by omega)]
      rfl
    | succ m ih =>
      intro i hi
      have hi' : i < l.length := by omega
      have hX := hR.at i hi'
      have ek : xlen (D.toL (D.fld (getD r i) 2)) = l[i].k.length := hX.k.len
      have en : iadd .i64 (n : Int) 1 = ((n + 1 : Nat) : Int) := pnext (by omega)
      have hrng : 0 ≤ (i : Int) ∧ (i : Int) < ofN (xlen r) := by simp only [ofN, xlen]; omega
      rw [ok_drop hi']
      by_cases hO : okI n l[i] = true
      · have o := okI_iff.1 hO
        rw [hO, Bool.true_and, ← ih (i + 1) (by omega)]
        apply iter_inl
        unfold F_tollbarref03_right_L2
        dsimp only
        rw [if_pos (by rw [pilt]; exact hrng.2), if_pos hrng, ptoN, hX.t, hX.b, p_emod2]
        by_cases c : l[i].t % 2 = 1
        · rw [if_pos (by rw [pieq]; omega), if_pos hrng, if_pos (by rw [pseq]; exact o.odd c), if_pos (by rw [pieq]; omega), if_pos hrng, en, hb i hi', o.kids]
          dsimp only
          rw [if_pos rfl, pnext (by omega)]
        · rw [if_neg (by rw [pieq]; omega), if_neg (by rw [pieq]; omega), if_pos hrng, if_neg (by rw [pilt, ek, o.even c]; simp only [ofN]; simp), if_pos hrng, en, hb i hi', o.kids]
          dsimp only
          rw [if_pos rfl, pnext (by omega)]
      · have hO' : okI n l[i] = false := by simpa using hO
        rw [hO', Bool.false_and]
        apply iter_inr
        have ho := hO'
        rw [okI_eq] at ho
        unfold F_tollbarref03_right_L2
        dsimp only
        rw [if_pos (by rw [pilt]; exact hrng.2), if_pos hrng, ptoN, hX.t, hX.b, p_emod2]
        by_cases c : l[i].t % 2 = 1
        · rw [if_pos (by rw [pieq]; omega), if_pos hrng]
          by_cases c2 : l[i].b = []
          · rw [if_pos (by rw [pseq]; exact c2), if_pos (by rw [pieq]; omega), if_pos hrng, en, hb i hi']
            dsimp only
            rw [decide_eq_true (fun _ => c2), decide_eq_true (fun q => absurd c q), decide_eq_true hn6] at ho
            simp only [Bool.true_and] at ho
            rw [ho, if_neg (by simp)]
          · rw [if_neg (by rw [pseq]; exact c2)]
        · rw [if_neg (by rw [pieq]; omega), if_neg (by rw [pieq]; omega), if_pos hrng, ek]
          by_cases c2 : l[i].k.length = 0
          · rw [if_neg (by rw [pilt]; simp only [ofN]; omega), if_pos hrng, en, hb i hi']
            dsimp only
            rw [decide_eq_true (fun q => absurd q c), decide_eq_true (fun _ => c2), decide_eq_true hn6] at ho
            simp only [Bool.true_and] at ho
            rw [ho, if_neg (by simp)]
          · rw [if_pos (by rw [pilt]; simp only [ofN]; omega)]
  unfold B_tollbarref03_right
  by_cases hn6 : n ≤ 6
  · rw [if_neg (by rw [pilt]; omega)]
    exact key hn6 l.length 0 (by omega)
  · rw [if_pos (by rw [pilt]; omega)]
    cases l with
    | nil =>
      rw [if_neg (by rw [pilt]; simp only [ofN, xlen, hl]; simp)]
      apply iter_inr
      unfold F_tollbarref03_right_L1
      dsimp only
      rw [if_neg (by rw [pilt]; simp only [ofN, xlen, hl]; simp)]
      rfl
    | cons x l =>
      have e : okL n (x :: l) = false := by rw [ok_cons, okI_eq, decide_eq_false hn6]; simp
      rw [if_pos (by rw [pilt]; simp only [ofN, xlen, hl, List.length_cons]; omega), e]
theorem rright_ok (g : Nat) : ∀ (l : List Itm) (r : List D) (n : Nat), RepL l r → wfL l → dpL l < g → szL l ≤ 1000000000 → n ≤ 7 → G_tollbarref03_right g r (n : Int) = some (okL n l) := by
  induction g with
  | zero => intro l r n _ _ h; omega
  | succ g ih =>
    intro l r n hR hw hd hs hn
    exact rright_body hR hw hs hn fun hn6 i hi => ih _ _ (n + 1) (hR.at i hi).k (wfk (wf_at hi hw)).2 (by have := dp_at hi; omega) (by have := sz_at hi; have := szk l[i]; omega) (by omega)
theorem p_rright {l : List Itm} {r : List D} (hR : RepL l r) (hw : wfL l) (hs : szL l ≤ 1000000000) : F_tollbarref03_right r 1 = some (okL 1 l) :=
  fix_tollbarref03_right r 1 (rright_ok (dpL l + 1) l r 1 hR hw (by omega) hs (by omega))

/-- May items be put? -/
def ckL (l : List Itm) : Bool := okL 1 l && decide ((encL l).length ≤ 8192)
theorem p_check {l : List Itm} {r : List D} (hR : RepL l r) (hw : wfL l) (hs : szL l ≤ 1000000000) : F_tlv_Check r = some (ckL l) := by
  unfold F_tlv_Check ckL
  rw [p_right hR hw hs]
  dsimp only
  cases okL 1 l with
  | false => rfl
  | true =>
    rw [if_pos rfl, p_size hR hw hs]
    dsimp only
    congr 1
    rw [Bool.eq_iff_iff, pile]
    simp
    omega
theorem p_rcheck {l : List Itm} {r : List D} (hR : RepL l r) (hw : wfL l) (hs : szL l ≤ 1000000000) : F_tollbarref03_Check r = some (ckL l) := by
  unfold F_tollbarref03_Check ckL
  rw [p_rright hR hw hs]
  dsimp only
  cases okL 1 l with
  | false => rfl
  | true =>
    rw [if_pos rfl, p_all hR hw hs]
    dsimp only
    congr 1
    rw [Bool.eq_iff_iff, pile]
    simp only [ofN, xlen]
    simp
    omega
theorem putin_body {self : List D → List UInt8 → Option (List UInt8)} {l : List Itm} {r : List D} {n : Nat} {s : List UInt8} (hR : RepL l r) (hw : wfL l) (hk : okL n l = true) (hs : szL l ≤ 1000000000) (hs2 : s.length + szL l ≤ 2000000000)
    (h : ∀ i (hi : i < l.length) (u : List UInt8), u.length + szL l[i].k ≤ 2000000000 → self (D.toL (D.fld (getD r i) 2)) u = some (u ++ encL l[i].k)) : B_tlv_Putin self r s = some (s ++ encL l) := by
  have hl := hR.len
  have hsz := sz_len l
  have key : ∀ (m i : Nat), i + m = l.length → iter (F_tlv_Putin_L1 self r) ((i : Int), s ++ encL (l.take i)) = some (s ++ encL l) := by
    intro m
    induction m with
    | zero =>
      intro i hi
      apply iter_inr
      unfold F_tlv_Putin_L1
      dsimp only
      rw [if_neg (by rw [pilt]; simp only [ofN, xlen]; omega), List.take_of_length_le (by omega)]
    | succ m ih =>
      intro i hi
      have hi' : i < l.length := by omega
      have hX := hR.at i hi'
      have hwi := wf_at hi' hw
      have o := ok_at hi' hk
      have hsi := sz_at hi'
      have hsk := szk l[i]
      have hin := inn_le hwi (by omega)
      have ht := (wfk hwi).1
      have hp := putV_le ht
      have htk := enc_leL (l.take i) (wf_take i hw) (by have := sz_take l i; omega)
      have hsa := szL_app (l.take (i + 1)) (l.drop (i + 1))
      rw [List.take_append_drop, List.take_succ_eq_append_getElem hi', szL_app] at hsa
      simp only [szL] at hsa
      have hp2 : (putV (inn l[i]).length).length ≤ 10 := putV_le (by omega)
      have ec : iconv .u64 (((inn l[i]).length : Nat) : Int) = (((inn l[i]).length : Nat) : Int) := by simp only [iconv]; exact pu64 (by omega) (by omega)
      obtain ⟨u, hu⟩ : ∃ u, u = s ++ encL (l.take i) := ⟨_, rfl⟩
      have hul : u.length = s.length + (encL (l.take i)).length := by rw [hu]; simp
      have e5 : cat (cat (cat u (putV l[i].t)) (putV (inn l[i]).length)) l[i].b ++ encL l[i].k = s ++ encL (l.take (i + 1)) := by
        rw [encL_take hi', encI_inn, hu]
        simp only [cat, List.append_assoc]
        congr 4
        unfold inn
        by_cases c : l[i].t % 2 = 1
        · rw [if_pos c, o.odd c]; rfl
        · rw [if_neg c, o.even c]; simp [encL]
      rw [← ih (i + 1) (by omega), ← hu, ← e5]
      apply iter_inl
      have hinner := p_inner hX hwi (by omega)
      unfold F_tlv_Putin_L1
      dsimp only
      rw [if_pos (by rw [pilt]; simp only [ofN, xlen]; omega), if_pos (by simp only [ofN, xlen]; omega), ptoN, hinner]
      dsimp only
      rw [hX.t, hX.b, p_put ht]
      dsimp only
      rw [if_pos (by simp only [xlen]; omega), ec, p_put (by omega)]
      dsimp only
      rw [if_pos (by simp only [xlen, cat, List.length_append]; omega), if_pos (by simp only [xlen, cat, List.length_append]; omega), h i hi' _ (by simp only [cat, List.length_append]; omega)]
      dsimp only
      rw [pnext (by omega)]
  unfold B_tlv_Putin
  have := key l.length 0 (by omega)
  simpa [encL] using this
theorem putin_ok (g : Nat) : ∀ (l : List Itm) (r : List D) (n : Nat) (s : List UInt8), RepL l r → wfL l → okL n l = true → dpL l < g → szL l ≤ 1000000000 → s.length + szL l ≤ 2000000000 → G_tlv_Putin g r s = some (s ++ encL l) := by
  induction g with
  | zero => intro l r n s _ _ _ h; omega
  | succ g ih =>
    intro l r n s hR hw hk hd hs hs2
    exact putin_body hR hw hk hs hs2 fun i hi u hu => ih _ _ (n + 1) u (hR.at i hi).k (wfk (wf_at hi hw)).2 (ok_at hi hk).kids (by have := dp_at hi; omega) (by have := sz_at hi; have := szk l[i]; omega) hu
theorem p_putin {l : List Itm} {r : List D} {n : Nat} (hR : RepL l r) (hw : wfL l) (hk : okL n l = true) (hs : szL l ≤ 1000000000) : F_tlv_Putin_2 r = some (encL l) := by
  have e : F_tlv_Putin_2 r = B_tlv_Putin F_tlv_Putin r [] := rfl
  rw [e, putin_body (n := n) (s := []) hR hw hk hs (by simp; omega) fun i hi u hu => fix_tlv_Putin _ _ (putin_ok (dpL l[i].k + 1) _ _ (n + 1) u (hR.at i hi).k (wfk (wf_at hi hw)).2 (ok_at hi hk).kids (by omega) (by have := sz_at hi; have := szk l[i]; omega) hu)]
  rfl
theorem p_tput {l : List Itm} {r : List D} (hR : RepL l r) (hw : wfL l) (hs : szL l ≤ 1000000000) : F_tlv_Put r = some (if ckL l = true then (0, encL l) else (1, [])) := by
  unfold F_tlv_Put
  rw [p_check hR hw hs]
  dsimp only
  by_cases c : ckL l = true
  · have hk : okL 1 l = true := by unfold ckL at c; rw [Bool.and_eq_true] at c; exact c.1
    rw [if_pos c, p_putin hR hw hk hs, if_pos c]
  · rw [if_neg c, if_neg c]
theorem p_trput {l : List Itm} {r : List D} (hR : RepL l r) (hw : wfL l) (hs : szL l ≤ 1000000000) : F_tollbarref03_Put r = some (if ckL l = true then (encL l, 0) else ([], 1)) := by
  unfold F_tollbarref03_Put
  rw [p_rcheck hR hw hs]
  dsimp only
  by_cases c : ckL l = true
  · rw [if_pos c, p_all hR hw hs, if_pos c]
  · rw [if_neg c, if_neg c]

/-! The same. -/
theorem same_body {self : List D → List D → Option Bool} {l : List Itm} {r q : List D} (hR : RepL l r) (hQ : RepL l q) (hs : szL l ≤ 1000000000)
    (h : ∀ i (hi : i < l.length), self (D.toL (D.fld (getD r i) 2)) (D.toL (D.fld (getD q i) 2)) = some true) : B_tollbarref03_Same self r q = some true := by
  have hl := hR.len
  have hl2 := hQ.len
  have hsz := sz_len l
  have key : ∀ (m i : Nat), i + m = l.length → iter (F_tollbarref03_Same_L1 self r q) (i : Int) = some true := by
    intro m
    induction m with
    | zero =>
      intro i hi
      apply iter_inr
      unfold F_tollbarref03_Same_L1
      dsimp only
      rw [if_neg (by rw [pilt]; simp only [ofN, xlen]; omega)]
    | succ m ih =>
      intro i hi
      have hi' : i < l.length := by omega
      have hX := hR.at i hi'
      have hY := hQ.at i hi'
      have hrng : 0 ≤ (i : Int) ∧ (i : Int) < ofN (xlen r) := by simp only [ofN, xlen]; omega
      have hrng2 : 0 ≤ (i : Int) ∧ (i : Int) < ofN (xlen q) := by simp only [ofN, xlen]; omega
      rw [← ih (i + 1) (by omega)]
      apply iter_inl
      unfold F_tollbarref03_Same_L1
      dsimp only
      rw [if_pos (by rw [pilt]; exact hrng.2), if_pos hrng, if_pos hrng2, ptoN, h i hi']
      dsimp only
      rw [if_pos hrng, if_pos hrng2, hX.t, hY.t, if_pos (by rw [pieq]), if_pos hrng, if_pos hrng2, hX.b, hY.b, if_pos (by rw [pseq]), if_pos rfl, pnext (by omega)]
  unfold B_tollbarref03_Same
  rw [if_pos (by rw [pieq]; simp only [ofN, xlen]; omega)]
  exact key l.length 0 (by omega)
theorem same_ok (g : Nat) : ∀ (l : List Itm) (r q : List D), RepL l r → RepL l q → dpL l < g → szL l ≤ 1000000000 → G_tollbarref03_Same g r q = some true := by
  induction g with
  | zero => intro l r q _ _ h; omega
  | succ g ih =>
    intro l r q hR hQ hd hs
    exact same_body hR hQ hs fun i hi => ih _ _ _ (hR.at i hi).k (hQ.at i hi).k (by have := dp_at hi; omega) (by have := sz_at hi; have := szk l[i]; omega)
theorem p_same {l : List Itm} {r q : List D} (hR : RepL l r) (hQ : RepL l q) (hs : szL l ≤ 1000000000) : F_tollbarref03_Same r q = some true :=
  fix_tollbarref03_Same r q (same_ok (dpL l + 1) l r q hR hQ (by omega) hs)
end Go.Proofs.Ytknaheioedkaeaa
end
