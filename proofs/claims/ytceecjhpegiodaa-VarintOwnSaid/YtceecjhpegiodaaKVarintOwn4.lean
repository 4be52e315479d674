/-
  Texts that the row of this claim stands on, one behind the other.
-/
import Derived.Below
import Derived.Deep.Slices
import Derived.ChangeArms
import Derived.Test.YtceecjhpegiodaaKVarintOwn1
import Derived.Test.YtceecjhpegiodaaKVarintOwn2
import Derived.Test.YtceecjhpegiodaaKVarintOwn3
section
/-
  The walk of (*tollbar/octet.Window).Num (printed by a program of ours).
-/
set_option linter.unusedVariables false
set_option linter.unusedSimpArgs false
namespace Go.Proofs.Ytceecjhpegiodaa
open Go.RowKit

noncomputable def tab_octet_Window_Num : Nat → Option Con := look [(23, con_octet_Window_fail), (18, con_octet_Window_Bytes), (26, con_octet_Value)]
set_option maxHeartbeats 4000000 in
set_option maxRecDepth 100000 in
theorem vc_octet_Window_Num (P : Program) (T : Tab P tab_octet_Window_Num) (hm : P.follows .mixedOrders = true) : FnVC P tab_octet_Window_Num ic_25 [.t 4] 25 con_octet_Window_Num := by
  intro cargs ccks ce hce hob C hk
  apply Hidden.out
  replace hce : con_octet_Window_Num_1 cargs ccks = some ce := hce
  · unfold con_octet_Window_Num_1 at hce
    split at hce
    rotate_left
    · cases hce
    obtain rfl := Option.some.inj hce
    rename_i x1 n1 n2 x2 s1
    have hb1 := hob _ (List.mem_singleton.2 rfl)
    have hb2 := obl.1 hb1
    clear hb1 hob hce
    refine hb2.elim fun r hF => ?_
    clear hb2
    simp only [List.length_cons, List.length_nil, Nat.zero_add, Nat.reduceAdd] at hk
    have hr : F_octet_Window_Num_2 x1 n1 n2 x2 s1 = some r := by rw [lock_eq] at hF; exact hF
    unfold F_octet_Window_Num_2 at hr
    constructor
    (try cbv)
    refine sel_intro (fun h => ?_) (fun h => ?_)
    · have h1 : (ilt x1 (1 : Int)) = true := by first | exact h | (have h2 := h; simp only [choice_lk, lock_eq] at h2; exact h2) | (simp only [choice_lk, lock_eq] at h; exact h)
      rw [if_pos h1] at hr
      (try cbv)
      have hqe : ∃ qq, F_octet_Window_fail_2 (1 : Int) n1 n2 x2 s1 = some qq := by
        cases hq : F_octet_Window_fail_2 (1 : Int) n1 n2 x2 s1 with
        | none => rw [hq] at hr; cases hr
        | some qq => exact ⟨qq, rfl⟩
      refine ⟨obl.2 (by simp only [choice_lk, lock_eq]; exact hqe), (by rintro (_) _ <;> cbv), ?_⟩
      clear hqe
      intro y1 hx1
      simp only [choice_lk, lock_eq] at hx1
      all_goals (rw [hx1] at hr; dsimp only at hr; constructor; (try cbv))
      apply Hidden.out
      have e := Option.some.inj hr
      obtain ⟨u0, u1, u2, u3⟩ := r
      simp only [Prod.mk.injEq] at e
      obtain ⟨e0, e1, e2, e3⟩ := e
      constructor
      refine ⟨_, hF, ?_⟩
      (try cbv); (try simp only [choice_lk, lock_eq, and_self, and_true, true_and]); (try first | exact e | exact e.symm | (and_intros <;> first | assumption | rfl | exact Eq.symm (by assumption)))
    · have h1 : (ilt x1 (1 : Int)) = false := by first | exact h | (have h2 := h; simp only [choice_lk, lock_eq] at h2; exact h2) | (simp only [choice_lk, lock_eq] at h; exact h)
      rw [if_neg (by rw [h1]; exact Bool.false_ne_true)] at hr
      (try cbv)
      refine sel_intro (fun h => ?_) (fun h => ?_)
      · have h1 : (ilt (8 : Int) x1) = true := by first | exact h | (have h2 := h; simp only [choice_lk, lock_eq] at h2; exact h2) | (simp only [choice_lk, lock_eq] at h; exact h)
        rw [if_pos h1] at hr
        (try cbv)
        have hqe : ∃ qq, F_octet_Window_fail_2 (1 : Int) n1 n2 x2 s1 = some qq := by
          cases hq : F_octet_Window_fail_2 (1 : Int) n1 n2 x2 s1 with
          | none => rw [hq] at hr; cases hr
          | some qq => exact ⟨qq, rfl⟩
        refine ⟨obl.2 (by simp only [choice_lk, lock_eq]; exact hqe), (by rintro (_) _ <;> cbv), ?_⟩
        clear hqe
        intro y2 hx2
        simp only [choice_lk, lock_eq] at hx2
        all_goals (rw [hx2] at hr; dsimp only at hr; constructor; (try cbv))
        apply Hidden.out
        have e := Option.some.inj hr
        obtain ⟨u0, u1, u2, u3⟩ := r
        simp only [Prod.mk.injEq] at e
        obtain ⟨e0, e1, e2, e3⟩ := e
        constructor
        refine ⟨_, hF, ?_⟩
        (try cbv); (try simp only [choice_lk, lock_eq, and_self, and_true, true_and]); (try first | exact e | exact e.symm | (and_intros <;> first | assumption | rfl | exact Eq.symm (by assumption)))
      · have h1 : (ilt (8 : Int) x1) = false := by first | exact h | (have h2 := h; simp only [choice_lk, lock_eq] at h2; exact h2) | (simp only [choice_lk, lock_eq] at h; exact h)
        rw [if_neg (by rw [h1]; exact Bool.false_ne_true)] at hr
        (try cbv)
        have hqe : ∃ qq, F_octet_Window_Bytes_2 x1 n1 n2 x2 s1 = some qq := by
          cases hq : F_octet_Window_Bytes_2 x1 n1 n2 x2 s1 with
          | none => rw [hq] at hr; cases hr
          | some qq => exact ⟨qq, rfl⟩
        refine ⟨obl.2 (by simp only [choice_lk, lock_eq]; exact hqe), (by rintro (⟨_, _, _, _⟩) _ <;> cbv), ?_⟩
        clear hqe
        intro qq hx3
        simp only [choice_lk, lock_eq] at hx3
        rcases qq with ⟨k1, k2, y3, t1⟩
        all_goals (rw [hx3] at hr; dsimp only at hr; constructor; (try cbv))
        have hqe : ∃ qq, F_octet_Value t1 = some qq := by
          cases hq : F_octet_Value t1 with
          | none => rw [hq] at hr; cases hr
          | some qq => exact ⟨qq, rfl⟩
        refine ⟨obl.2 (by simp only [choice_lk, lock_eq]; exact hqe), (by rintro (⟨_, _⟩) _ <;> cbv), ?_⟩
        clear hqe
        intro qq hx4
        simp only [choice_lk, lock_eq] at hx4
        rcases qq with ⟨y4, c1⟩
        all_goals (rw [hx4] at hr; dsimp only at hr; constructor; (try cbv))
        apply Hidden.out
        have e := Option.some.inj hr
        obtain ⟨u0, u1, u2, u3⟩ := r
        simp only [Prod.mk.injEq] at e
        obtain ⟨e0, e1, e2, e3⟩ := e
        constructor
        refine ⟨_, hF, ?_⟩
        (try cbv); (try simp only [choice_lk, lock_eq, and_self, and_true, true_and]); (try first | exact e | exact e.symm | (and_intros <;> first | assumption | rfl | exact Eq.symm (by assumption)))
end Go.Proofs.Ytceecjhpegiodaa
end
section
/-
  The walk of (*tollbar/octet.Window).Byte (printed by a program of ours).
-/
set_option linter.unusedVariables false
set_option linter.unusedSimpArgs false
namespace Go.Proofs.Ytceecjhpegiodaa
open Go.RowKit

noncomputable def tab_octet_Window_Byte : Nat → Option Con := look [(25, con_octet_Window_Num)]
set_option maxHeartbeats 4000000 in
set_option maxRecDepth 100000 in
theorem vc_octet_Window_Byte (P : Program) (T : Tab P tab_octet_Window_Byte) (hm : P.follows .mixedOrders = true) : FnVC P tab_octet_Window_Byte ic_22 [.t 2] 6 con_octet_Window_Byte := by
  intro cargs ccks ce hce hob C hk
  apply Hidden.out
  replace hce : con_octet_Window_Byte_1 cargs ccks = some ce := hce
  · unfold con_octet_Window_Byte_1 at hce
    split at hce
    rotate_left
    · cases hce
    obtain rfl := Option.some.inj hce
    rename_i n1 n2 x1 s1
    have hb1 := hob _ (List.mem_singleton.2 rfl)
    have hb2 := obl.1 hb1
    clear hb1 hob hce
    refine hb2.elim fun r hF => ?_
    clear hb2
    simp only [List.length_cons, List.length_nil, Nat.zero_add, Nat.reduceAdd] at hk
    have hr : F_octet_Window_Byte_2 n1 n2 x1 s1 = some r := by rw [lock_eq] at hF; exact hF
    unfold F_octet_Window_Byte_2 at hr
    constructor
    (try cbv)
    have hqe : ∃ qq, F_octet_Window_Num_2 (1 : Int) n1 n2 x1 s1 = some qq := by
      cases hq : F_octet_Window_Num_2 (1 : Int) n1 n2 x1 s1 with
      | none => rw [hq] at hr; cases hr
      | some qq => exact ⟨qq, rfl⟩
    refine ⟨obl.2 (by simp only [choice_lk, lock_eq]; exact hqe), (by rintro (⟨_, _, _, _⟩) _ <;> cbv), ?_⟩
    clear hqe
    intro qq hx1
    simp only [choice_lk, lock_eq] at hx1
    rcases qq with ⟨y1, k1, k2, y2⟩
    all_goals (rw [hx1] at hr; dsimp only at hr; constructor; (try cbv))
    apply Hidden.out
    have e := Option.some.inj hr
    obtain ⟨u0, u1, u2, u3⟩ := r
    simp only [Prod.mk.injEq] at e
    obtain ⟨e0, e1, e2, e3⟩ := e
    constructor
    refine ⟨_, hF, ?_⟩
    (try cbv); (try simp only [choice_lk, lock_eq, and_self, and_true, true_and]); (try first | exact e | exact e.symm | (and_intros <;> first | assumption | rfl | exact Eq.symm (by assumption)))
end Go.Proofs.Ytceecjhpegiodaa
end
section
/-
  The walk of tollbar/varint.Take (printed by a program of ours).
-/
set_option linter.unusedVariables false
set_option linter.unusedSimpArgs false
namespace Go.Proofs.Ytceecjhpegiodaa
open Go.RowKit

noncomputable def tab_varint_Take : Nat → Option Con := look [(17, con_octet_Window_Err), (16, con_octet_Window_Left), (22, con_octet_Window_Byte), (8, con_varint_Get), (18, con_octet_Window_Bytes)]
set_option maxHeartbeats 4000000 in
set_option maxRecDepth 100000 in
theorem vc_varint_Take (P : Program) (T : Tab P tab_varint_Take) (hm : P.follows .mixedOrders = true) : FnVC P tab_varint_Take ic_14 [.t 2, .t 3] 40 con_varint_Take := by
  intro cargs ccks ce hce hob C hk
  apply Hidden.out
  replace hce : altC (con_varint_Take_1 cargs ccks) (altC (con_varint_Take_2 cargs ccks) (con_varint_Take_3 cargs ccks)) = some ce := hce
  replace hce := altC_inv hce
  rcases hce with hce | hce
  · unfold con_varint_Take_1 at hce
    split at hce
    rotate_left
    · cases hce
    obtain rfl := Option.some.inj hce
    rename_i x1 s1
    have hb1 := hob _ (List.mem_singleton.2 rfl)
    have hb2 := obl.1 hb1
    clear hb1 hob hce
    refine hb2.elim fun r hF => ?_
    clear hb2
    simp only [List.length_cons, List.length_nil, Nat.zero_add, Nat.reduceAdd] at hk
    have hr : F_varint_Take x1 s1 = some r := by rw [lock_eq] at hF; exact hF
    unfold F_varint_Take at hr
    constructor
    (try cbv)
    have hqe : ∃ qq, F_octet_Window_Err x1 s1 = some qq := by
      cases hq : F_octet_Window_Err x1 s1 with
      | none => rw [hq] at hr; cases hr
      | some qq => exact ⟨qq, rfl⟩
    refine ⟨obl.2 (by simp only [choice_lk, lock_eq]; exact hqe), (by rintro (_) _ <;> cbv), ?_⟩
    clear hqe
    intro qq hx1
    simp only [choice_lk, lock_eq] at hx1
    rcases qq with _
    all_goals (rw [hx1] at hr; dsimp only at hr; constructor; (try cbv))
    refine sel_intro (fun h => ?_) (fun h => ?_)
    · have h1 : (ieq x1 (0 : Int)) = false := by first | exact (bnot_t.1 h) | (have h2 := (bnot_t.1 h); simp only [choice_lk, lock_eq] at h2; exact h2) | (simp only [choice_lk, lock_eq] at h; exact (bnot_t.1 h))
      rw [if_neg (by rw [h1]; exact Bool.false_ne_true)] at hr
      (try cbv)
      apply Hidden.out
      have e := Option.some.inj hr
      obtain ⟨u0, u1, u2, u3, u4⟩ := r
      simp only [Prod.mk.injEq] at e
      obtain ⟨e0, e1, e2, e3, e4⟩ := e
      constructor
      refine ⟨_, hF, ?_⟩
      (try cbv); (try simp only [choice_lk, lock_eq, and_self, and_true, true_and]); (try first | exact e | exact e.symm | (and_intros <;> first | assumption | rfl | exact Eq.symm (by assumption)))
    · have h1 : (ieq x1 (0 : Int)) = true := by first | exact (bnot_f.1 h) | (have h2 := (bnot_f.1 h); simp only [choice_lk, lock_eq] at h2; exact h2) | (simp only [choice_lk, lock_eq] at h; exact (bnot_f.1 h))
      rw [if_pos h1] at hr
      (try cbv)
      refine LoopOK.iter T (drawOK T hm) (B := (F_varint_Take_L1 s1 x1)) hr (fun | (n1, n2, i1, s2) => ⟨mkFr [(0, (.ptr 0 0)), (5, (.ptr 2 0)), (6, (.wsl 3))] 40 0, [(0, .blk 54 [(.wsl 1), (.v (.int .i64 x1))]), (1, .row (.bs 5 s1)), (2, .blk 54 [(.sl 1 n1 n2), (.v (.int .i64 i1))]), (3, .row (.bs 5 s2))], 4⟩) ?_ ?_
      · rintro ⟨u0, u1, u2, u3⟩ e
        simp only [Prod.mk.injEq] at e
        obtain ⟨e0, e1, e2, e3⟩ := e
        refine le_auto hk ?_
        (try cbv); (try simp only [choice_lk, lock_eq, and_self, and_true, true_and]); (try first | exact e | exact e.symm | (and_intros <;> first | assumption | rfl | exact Eq.symm (by assumption)))
      · clear hr
        intro x bb1 hr ht1
        obtain ⟨n1, n2, i1, s2⟩ := x
        constructor
        unfold F_varint_Take_L1 at hr
        (try dsimp only at hr)
        (try cbv)
        have hqe : ∃ qq, F_octet_Window_Left_2 n1 n2 i1 s1 = some qq := by
          cases hq : F_octet_Window_Left_2 n1 n2 i1 s1 with
          | none => rw [hq] at hr; cases hr
          | some qq => exact ⟨qq, rfl⟩
        refine ⟨obl.2 (by simp only [choice_lk, lock_eq]; exact hqe), (by rintro (_) _ <;> cbv), ?_⟩
        clear hqe
        intro y10 hx8
        simp only [choice_lk, lock_eq] at hx8
        all_goals (rw [hx8] at hr; dsimp only at hr; constructor; (try cbv))
        refine sel_intro (fun h => ?_) (fun h => ?_)
        · have h1 : (ilt (0 : Int) y10) = true := by first | exact h | (have h2 := h; simp only [choice_lk, lock_eq] at h2; exact h2) | (simp only [choice_lk, lock_eq] at h; exact h)
          rw [if_pos h1] at hr
          (try cbv)
          refine sel_intro (fun h => ?_) (fun h => ?_)
          · have h1 : (ilt (ofN (xlen s2)) (10 : Int)) = true := by first | exact h | (have h2 := h; simp only [choice_lk, lock_eq] at h2; exact h2) | (simp only [choice_lk, lock_eq] at h; exact h)
            rw [if_pos h1] at hr
            (try cbv)
            have hqe : ∃ qq, F_octet_Window_Byte_2 n1 n2 i1 s1 = some qq := by
              cases hq : F_octet_Window_Byte_2 n1 n2 i1 s1 with
              | none => rw [hq] at hr; cases hr
              | some qq => exact ⟨qq, rfl⟩
            refine ⟨obl.2 (by simp only [choice_lk, lock_eq]; exact hqe), (by rintro (⟨_, _, _, _⟩) _ <;> cbv), ?_⟩
            clear hqe
            intro qq hx9
            simp only [choice_lk, lock_eq] at hx9
            rcases qq with ⟨y11, k7, k8, y12⟩
            all_goals (rw [hx9] at hr; dsimp only at hr; constructor; (try cbv))
            have gg := guard_inv hr
            have g := gg.1
            replace hr := gg.2
            clear gg
            refine ⟨obl.2 (by first | (simp only [choice_lk, lock_eq, R.len, R.sub]; exact g) | exact g), ?_⟩
            have gg := guard_inv hr
            have g := gg.1
            replace hr := gg.2
            clear gg
            refine ⟨obl.2 (by first | (simp only [choice_lk, lock_eq, R.len, R.sub]; exact g) | exact g), ?_⟩
            apply Hidden.out
            obtain rfl := Option.some.inj hr
            constructor
            refine ⟨⟨_, rfl⟩, ?_⟩
            rintro ⟨u0, u1, u2, u3⟩ e
            replace e := Sum.inl.inj e
            simp only [Prod.mk.injEq] at e
            obtain ⟨e0, e1, e2, e3⟩ := e
            refine le_auto hk ?_
            (try cbv); (try simp only [choice_lk, lock_eq, and_self, and_true, true_and]); (try first | exact e | exact e.symm | (and_intros <;> first | assumption | rfl | exact Eq.symm (by assumption)))
          · have h1 : (ilt (ofN (xlen s2)) (10 : Int)) = false := by first | exact h | (have h2 := h; simp only [choice_lk, lock_eq] at h2; exact h2) | (simp only [choice_lk, lock_eq] at h; exact h)
            rw [if_neg (by rw [h1]; exact Bool.false_ne_true)] at hr
            (try cbv)
            have hqe : ∃ qq, F_varint_Get s2 = some qq := by
              cases hq : F_varint_Get s2 with
              | none => rw [hq] at hr; cases hr
              | some qq => exact ⟨qq, rfl⟩
            refine ⟨obl.2 (by simp only [choice_lk, lock_eq]; exact hqe), (by rintro (⟨_, _, _⟩) _ <;> cbv), ?_⟩
            clear hqe
            intro qq hx10
            simp only [choice_lk, lock_eq] at hx10
            rcases qq with ⟨y13, y14, y15⟩
            all_goals (rw [hx10] at hr; dsimp only at hr; constructor; (try cbv))
            have hqe : ∃ qq, F_octet_Window_Bytes y14 x1 s1 = some qq := by
              cases hq : F_octet_Window_Bytes y14 x1 s1 with
              | none => rw [hq] at hr; cases hr
              | some qq => exact ⟨qq, rfl⟩
            refine ⟨obl.2 (by simp only [choice_lk, lock_eq]; exact hqe), (by rintro (⟨_, _, _, _⟩) _ <;> cbv), ?_⟩
            clear hqe
            intro qq hx11
            simp only [choice_lk, lock_eq] at hx11
            rcases qq with ⟨k9, k10, y16, t1⟩
            all_goals (rw [hx11] at hr; dsimp only at hr; constructor; (try cbv))
            apply Hidden.out
            obtain rfl := Option.some.inj hr
            have e := ht1 _ rfl
            obtain ⟨u0, u1, u2, u3, u4⟩ := r
            simp only [Prod.mk.injEq] at e
            obtain ⟨e0, e1, e2, e3, e4⟩ := e
            constructor
            refine ⟨_, hF, ?_⟩
            (try cbv); (try simp only [choice_lk, lock_eq, and_self, and_true, true_and]); (try first | exact e | exact e.symm | (and_intros <;> first | assumption | rfl | exact Eq.symm (by assumption)))
        · have h1 : (ilt (0 : Int) y10) = false := by first | exact h | (have h2 := h; simp only [choice_lk, lock_eq] at h2; exact h2) | (simp only [choice_lk, lock_eq] at h; exact h)
          rw [if_neg (by rw [h1]; exact Bool.false_ne_true)] at hr
          (try cbv)
          have hqe : ∃ qq, F_varint_Get s2 = some qq := by
            cases hq : F_varint_Get s2 with
            | none => rw [hq] at hr; cases hr
            | some qq => exact ⟨qq, rfl⟩
          refine ⟨obl.2 (by simp only [choice_lk, lock_eq]; exact hqe), (by rintro (⟨_, _, _⟩) _ <;> cbv), ?_⟩
          clear hqe
          intro qq hx12
          simp only [choice_lk, lock_eq] at hx12
          rcases qq with ⟨y17, y18, y19⟩
          all_goals (rw [hx12] at hr; dsimp only at hr; constructor; (try cbv))
          have hqe : ∃ qq, F_octet_Window_Bytes y18 x1 s1 = some qq := by
            cases hq : F_octet_Window_Bytes y18 x1 s1 with
            | none => rw [hq] at hr; cases hr
            | some qq => exact ⟨qq, rfl⟩
          refine ⟨obl.2 (by simp only [choice_lk, lock_eq]; exact hqe), (by rintro (⟨_, _, _, _⟩) _ <;> cbv), ?_⟩
          clear hqe
          intro qq hx13
          simp only [choice_lk, lock_eq] at hx13
          rcases qq with ⟨k11, k12, y20, t2⟩
          all_goals (rw [hx13] at hr; dsimp only at hr; constructor; (try cbv))
          apply Hidden.out
          obtain rfl := Option.some.inj hr
          have e := ht1 _ rfl
          obtain ⟨u0, u1, u2, u3, u4⟩ := r
          simp only [Prod.mk.injEq] at e
          obtain ⟨e0, e1, e2, e3, e4⟩ := e
          constructor
          refine ⟨_, hF, ?_⟩
          (try cbv); (try simp only [choice_lk, lock_eq, and_self, and_true, true_and]); (try first | exact e | exact e.symm | (and_intros <;> first | assumption | rfl | exact Eq.symm (by assumption)))
  replace hce := altC_inv hce
  rcases hce with hce | hce
  · unfold con_varint_Take_2 at hce
    split at hce
    rotate_left
    · cases hce
    obtain rfl := Option.some.inj hce
    rename_i n1 n2 x1 s1
    have hb1 := hob _ (List.mem_singleton.2 rfl)
    have hb2 := obl.1 hb1
    clear hb1 hob hce
    refine hb2.elim fun r hF => ?_
    clear hb2
    simp only [List.length_cons, List.length_nil, Nat.zero_add, Nat.reduceAdd] at hk
    have hr : F_varint_Take_2 n1 n2 x1 s1 = some r := by rw [lock_eq] at hF; exact hF
    unfold F_varint_Take_2 at hr
    constructor
    (try cbv)
    have hqe : ∃ qq, F_octet_Window_Err_2 n1 n2 x1 s1 = some qq := by
      cases hq : F_octet_Window_Err_2 n1 n2 x1 s1 with
      | none => rw [hq] at hr; cases hr
      | some qq => exact ⟨qq, rfl⟩
    refine ⟨obl.2 (by simp only [choice_lk, lock_eq]; exact hqe), (by rintro (_) _ <;> cbv), ?_⟩
    clear hqe
    intro qq hx1
    simp only [choice_lk, lock_eq] at hx1
    rcases qq with _
    all_goals (rw [hx1] at hr; dsimp only at hr; constructor; (try cbv))
    refine sel_intro (fun h => ?_) (fun h => ?_)
    · have h1 : (ieq x1 (0 : Int)) = false := by first | exact (bnot_t.1 h) | (have h2 := (bnot_t.1 h); simp only [choice_lk, lock_eq] at h2; exact h2) | (simp only [choice_lk, lock_eq] at h; exact (bnot_t.1 h))
      rw [if_neg (by rw [h1]; exact Bool.false_ne_true)] at hr
      (try cbv)
      apply Hidden.out
      have e := Option.some.inj hr
      obtain ⟨u0, u1, u2, u3, u4⟩ := r
      simp only [Prod.mk.injEq] at e
      obtain ⟨e0, e1, e2, e3, e4⟩ := e
      constructor
      refine ⟨_, hF, ?_⟩
      (try cbv); (try simp only [choice_lk, lock_eq, and_self, and_true, true_and]); (try first | exact e | exact e.symm | (and_intros <;> first | assumption | rfl | exact Eq.symm (by assumption)))
    · have h1 : (ieq x1 (0 : Int)) = true := by first | exact (bnot_f.1 h) | (have h2 := (bnot_f.1 h); simp only [choice_lk, lock_eq] at h2; exact h2) | (simp only [choice_lk, lock_eq] at h; exact (bnot_f.1 h))
      rw [if_pos h1] at hr
      (try cbv)
      refine LoopOK.iter T (drawOK T hm) (B := (F_varint_Take_2_L1 s1 n1 n2 x1)) hr (fun | (n3, n4, i1, s2) => ⟨mkFr [(0, (.ptr 0 0)), (5, (.ptr 2 0)), (6, (.wsl 3))] 40 0, [(0, .blk 54 [(.sl 1 n1 n2), (.v (.int .i64 x1))]), (1, .row (.bs 5 s1)), (2, .blk 54 [(.sl 1 n3 n4), (.v (.int .i64 i1))]), (3, .row (.bs 5 s2))], 4⟩) ?_ ?_
      · rintro ⟨u0, u1, u2, u3⟩ e
        simp only [Prod.mk.injEq] at e
        obtain ⟨e0, e1, e2, e3⟩ := e
        refine le_auto hk ?_
        (try cbv); (try simp only [choice_lk, lock_eq, and_self, and_true, true_and]); (try first | exact e | exact e.symm | (and_intros <;> first | assumption | rfl | exact Eq.symm (by assumption)))
      · clear hr
        intro x bb1 hr ht1
        obtain ⟨n3, n4, i1, s2⟩ := x
        constructor
        unfold F_varint_Take_2_L1 at hr
        (try dsimp only at hr)
        (try cbv)
        have hqe : ∃ qq, F_octet_Window_Left_2 n3 n4 i1 s1 = some qq := by
          cases hq : F_octet_Window_Left_2 n3 n4 i1 s1 with
          | none => rw [hq] at hr; cases hr
          | some qq => exact ⟨qq, rfl⟩
        refine ⟨obl.2 (by simp only [choice_lk, lock_eq]; exact hqe), (by rintro (_) _ <;> cbv), ?_⟩
        clear hqe
        intro y10 hx8
        simp only [choice_lk, lock_eq] at hx8
        all_goals (rw [hx8] at hr; dsimp only at hr; constructor; (try cbv))
        refine sel_intro (fun h => ?_) (fun h => ?_)
        · have h1 : (ilt (0 : Int) y10) = true := by first | exact h | (have h2 := h; simp only [choice_lk, lock_eq] at h2; exact h2) | (simp only [choice_lk, lock_eq] at h; exact h)
          rw [if_pos h1] at hr
          (try cbv)
          refine sel_intro (fun h => ?_) (fun h => ?_)
          · have h1 : (ilt (ofN (xlen s2)) (10 : Int)) = true := by first | exact h | (have h2 := h; simp only [choice_lk, lock_eq] at h2; exact h2) | (simp only [choice_lk, lock_eq] at h; exact h)
            rw [if_pos h1] at hr
            (try cbv)
            have hqe : ∃ qq, F_octet_Window_Byte_2 n3 n4 i1 s1 = some qq := by
              cases hq : F_octet_Window_Byte_2 n3 n4 i1 s1 with
              | none => rw [hq] at hr; cases hr
              | some qq => exact ⟨qq, rfl⟩
            refine ⟨obl.2 (by simp only [choice_lk, lock_eq]; exact hqe), (by rintro (⟨_, _, _, _⟩) _ <;> cbv), ?_⟩
            clear hqe
            intro qq hx9
            simp only [choice_lk, lock_eq] at hx9
            rcases qq with ⟨y11, k7, k8, y12⟩
            all_goals (rw [hx9] at hr; dsimp only at hr; constructor; (try cbv))
            have gg := guard_inv hr
            have g := gg.1
            replace hr := gg.2
            clear gg
            refine ⟨obl.2 (by first | (simp only [choice_lk, lock_eq, R.len, R.sub]; exact g) | exact g), ?_⟩
            have gg := guard_inv hr
            have g := gg.1
            replace hr := gg.2
            clear gg
            refine ⟨obl.2 (by first | (simp only [choice_lk, lock_eq, R.len, R.sub]; exact g) | exact g), ?_⟩
            apply Hidden.out
            obtain rfl := Option.some.inj hr
            constructor
            refine ⟨⟨_, rfl⟩, ?_⟩
            rintro ⟨u0, u1, u2, u3⟩ e
            replace e := Sum.inl.inj e
            simp only [Prod.mk.injEq] at e
            obtain ⟨e0, e1, e2, e3⟩ := e
            refine le_auto hk ?_
            (try cbv); (try simp only [choice_lk, lock_eq, and_self, and_true, true_and]); (try first | exact e | exact e.symm | (and_intros <;> first | assumption | rfl | exact Eq.symm (by assumption)))
          · have h1 : (ilt (ofN (xlen s2)) (10 : Int)) = false := by first | exact h | (have h2 := h; simp only [choice_lk, lock_eq] at h2; exact h2) | (simp only [choice_lk, lock_eq] at h; exact h)
            rw [if_neg (by rw [h1]; exact Bool.false_ne_true)] at hr
            (try cbv)
            have hqe : ∃ qq, F_varint_Get s2 = some qq := by
              cases hq : F_varint_Get s2 with
              | none => rw [hq] at hr; cases hr
              | some qq => exact ⟨qq, rfl⟩
            refine ⟨obl.2 (by simp only [choice_lk, lock_eq]; exact hqe), (by rintro (⟨_, _, _⟩) _ <;> cbv), ?_⟩
            clear hqe
            intro qq hx10
            simp only [choice_lk, lock_eq] at hx10
            rcases qq with ⟨y13, y14, y15⟩
            all_goals (rw [hx10] at hr; dsimp only at hr; constructor; (try cbv))
            have hqe : ∃ qq, F_octet_Window_Bytes_2 y14 n1 n2 x1 s1 = some qq := by
              cases hq : F_octet_Window_Bytes_2 y14 n1 n2 x1 s1 with
              | none => rw [hq] at hr; cases hr
              | some qq => exact ⟨qq, rfl⟩
            refine ⟨obl.2 (by simp only [choice_lk, lock_eq]; exact hqe), (by rintro (⟨_, _, _, _⟩) _ <;> cbv), ?_⟩
            clear hqe
            intro qq hx11
            simp only [choice_lk, lock_eq] at hx11
            rcases qq with ⟨k9, k10, y16, t1⟩
            all_goals (rw [hx11] at hr; dsimp only at hr; constructor; (try cbv))
            apply Hidden.out
            obtain rfl := Option.some.inj hr
            have e := ht1 _ rfl
            obtain ⟨u0, u1, u2, u3, u4⟩ := r
            simp only [Prod.mk.injEq] at e
            obtain ⟨e0, e1, e2, e3, e4⟩ := e
            constructor
            refine ⟨_, hF, ?_⟩
            (try cbv); (try simp only [choice_lk, lock_eq, and_self, and_true, true_and]); (try first | exact e | exact e.symm | (and_intros <;> first | assumption | rfl | exact Eq.symm (by assumption)))
        · have h1 : (ilt (0 : Int) y10) = false := by first | exact h | (have h2 := h; simp only [choice_lk, lock_eq] at h2; exact h2) | (simp only [choice_lk, lock_eq] at h; exact h)
          rw [if_neg (by rw [h1]; exact Bool.false_ne_true)] at hr
          (try cbv)
          have hqe : ∃ qq, F_varint_Get s2 = some qq := by
            cases hq : F_varint_Get s2 with
            | none => rw [hq] at hr; cases hr
            | some qq => exact ⟨qq, rfl⟩
          refine ⟨obl.2 (by simp only [choice_lk, lock_eq]; exact hqe), (by rintro (⟨_, _, _⟩) _ <;> cbv), ?_⟩
          clear hqe
          intro qq hx12
          simp only [choice_lk, lock_eq] at hx12
          rcases qq with ⟨y17, y18, y19⟩
          all_goals (rw [hx12] at hr; dsimp only at hr; constructor; (try cbv))
          have hqe : ∃ qq, F_octet_Window_Bytes_2 y18 n1 n2 x1 s1 = some qq := by
            cases hq : F_octet_Window_Bytes_2 y18 n1 n2 x1 s1 with
            | none => rw [hq] at hr; cases hr
            | some qq => exact ⟨qq, rfl⟩
          refine ⟨obl.2 (by simp only [choice_lk, lock_eq]; exact hqe), (by rintro (⟨_, _, _, _⟩) _ <;> cbv), ?_⟩
          clear hqe
          intro qq hx13
          simp only [choice_lk, lock_eq] at hx13
          rcases qq with ⟨k11, k12, y20, t2⟩
          all_goals (rw [hx13] at hr; dsimp only at hr; constructor; (try cbv))
          apply Hidden.out
          obtain rfl := Option.some.inj hr
          have e := ht1 _ rfl
          obtain ⟨u0, u1, u2, u3, u4⟩ := r
          simp only [Prod.mk.injEq] at e
          obtain ⟨e0, e1, e2, e3, e4⟩ := e
          constructor
          refine ⟨_, hF, ?_⟩
          (try cbv); (try simp only [choice_lk, lock_eq, and_self, and_true, true_and]); (try first | exact e | exact e.symm | (and_intros <;> first | assumption | rfl | exact Eq.symm (by assumption)))
  · unfold con_varint_Take_3 at hce
    split at hce
    rotate_left
    · cases hce
    obtain rfl := Option.some.inj hce
    have hb1 := hob _ (List.mem_singleton.2 rfl)
    have hb2 := obl.1 hb1
    clear hb1 hob hce
    refine hb2.elim fun r hF => ?_
    clear hb2
    simp only [List.length_cons, List.length_nil, Nat.zero_add, Nat.reduceAdd] at hk
    have hr : F_varint_Take_3 = some r := by rw [lock_eq] at hF; exact hF
    unfold F_varint_Take_3 at hr
    constructor
    (try cbv)
    have hqe : ∃ qq, F_octet_Window_Err_3 = some qq := by
      cases hq : F_octet_Window_Err_3 with
      | none => rw [hq] at hr; cases hr
      | some qq => exact ⟨qq, rfl⟩
    refine ⟨obl.2 (by simp only [choice_lk, lock_eq]; exact hqe), (by rintro (_) _ <;> cbv), ?_⟩
    clear hqe
    intro qq hx1
    simp only [choice_lk, lock_eq] at hx1
    rcases qq with _
    all_goals (rw [hx1] at hr; dsimp only at hr; constructor; (try cbv))
    refine sel_intro (fun h => ?_) (fun h => ?_)
    · have h1 : (ieq (1 : Int) (0 : Int)) = false := by first | exact (bnot_t.1 h) | (have h2 := (bnot_t.1 h); simp only [choice_lk, lock_eq] at h2; exact h2) | (simp only [choice_lk, lock_eq] at h; exact (bnot_t.1 h))
      rw [if_neg (by rw [h1]; exact Bool.false_ne_true)] at hr
      (try cbv)
      apply Hidden.out
      have e := Option.some.inj hr
      constructor
      refine ⟨_, hF, ?_⟩
      (try cbv); (try simp only [choice_lk, lock_eq, and_self, and_true, true_and]); (try first | exact e | exact e.symm | (and_intros <;> first | assumption | rfl | exact Eq.symm (by assumption)))
    · have h1 : (ieq (1 : Int) (0 : Int)) = true := by first | exact (bnot_f.1 h) | (have h2 := (bnot_f.1 h); simp only [choice_lk, lock_eq] at h2; exact h2) | (simp only [choice_lk, lock_eq] at h; exact (bnot_f.1 h))
      rw [if_pos h1] at hr
      (try cbv)
      cases hr
end Go.Proofs.Ytceecjhpegiodaa
end
section
/-
  The walk of tollbar/varint.groups (printed by a program of ours).
-/
set_option linter.unusedVariables false
set_option linter.unusedSimpArgs false
namespace Go.Proofs.Ytceecjhpegiodaa
open Go.RowKit

noncomputable def tab_varint_groups : Nat → Option Con := look []
set_option maxHeartbeats 4000000 in
set_option maxRecDepth 100000 in
theorem vc_varint_groups (P : Program) (T : Tab P tab_varint_groups) (hm : P.follows .mixedOrders = true) : FnVC P tab_varint_groups ic_20 [.t 2] 4 con_varint_groups := by
  intro cargs ccks ce hce hob C hk
  apply Hidden.out
  replace hce : con_varint_groups_1 cargs ccks = some ce := hce
  · unfold con_varint_groups_1 at hce
    split at hce
    rotate_left
    · cases hce
    obtain rfl := Option.some.inj hce
    rename_i x1
    have hb1 := hob _ (List.mem_singleton.2 rfl)
    have hb2 := obl.1 hb1
    clear hb1 hob hce
    refine hb2.elim fun r hF => ?_
    clear hb2
    simp only [List.length_cons, List.length_nil, Nat.zero_add, Nat.reduceAdd] at hk
    have hr : F_varint_groups x1 = some r := by rw [lock_eq] at hF; exact hF
    unfold F_varint_groups at hr
    constructor
    (try cbv)
    apply Hidden.out
    have e := Option.some.inj hr
    constructor
    refine ⟨_, hF, ?_⟩
    (try cbv); (try simp only [choice_lk, lock_eq, and_self, and_true, true_and]); (try first | exact e | exact e.symm | (and_intros <;> first | assumption | rfl | exact Eq.symm (by assumption)))
end Go.Proofs.Ytceecjhpegiodaa
end
section
/-
  The walk of tollbar/varint.Put (printed by a program of ours).
-/
set_option linter.unusedVariables false
set_option linter.unusedSimpArgs false
namespace Go.Proofs.Ytceecjhpegiodaa
open Go.RowKit

noncomputable def tab_varint_Put : Nat → Option Con := look [(20, con_varint_groups)]
set_option maxHeartbeats 4000000 in
set_option maxRecDepth 100000 in
theorem vc_varint_Put (P : Program) (T : Tab P tab_varint_Put) (hm : P.follows .mixedOrders = true) (hI24 : ItOK P 24 ic_24 18) : FnVC P tab_varint_Put ic_10 [.t 2] 18 con_varint_Put := by
  intro cargs ccks ce hce hob C hk
  apply Hidden.out
  replace hce : con_varint_Put_1 cargs ccks = some ce := hce
  · unfold con_varint_Put_1 at hce
    split at hce
    rotate_left
    · cases hce
    obtain rfl := Option.some.inj hce
    rename_i x1
    have hb1 := hob _ (List.mem_singleton.2 rfl)
    have hb2 := obl.1 hb1
    clear hb1 hob hce
    refine hb2.elim fun r hF => ?_
    clear hb2
    simp only [List.length_cons, List.length_nil, Nat.zero_add, Nat.reduceAdd] at hk
    have hr : F_varint_Put x1 = some r := by rw [lock_eq] at hF; exact hF
    unfold F_varint_Put at hr
    constructor
    (try cbv)
    have hqe : ∃ qq, F_varint_groups x1 = some qq := by
      cases hq : F_varint_groups x1 with
      | none => rw [hq] at hr; cases hr
      | some qq => exact ⟨qq, rfl⟩
    refine ⟨obl.2 (by simp only [choice_lk, lock_eq]; exact hqe), (by rintro (_) _ <;> cbv), ?_⟩
    clear hqe
    intro qq hx1
    simp only [choice_lk, lock_eq] at hx1
    rcases qq with _
    all_goals (rw [hx1] at hr; dsimp only at hr; constructor; (try cbv))
    refine LoopOK.rfn T hI24 (s0 := ⟨mkFr [(3, (.ptr 0 0)), (7, (.fn 24 [(.ptr 1 0)]))] 18 0, [(0, .blk 23 [.nsl]), (1, .blk 22 [(.v (.int .u64 x1))])], 2⟩) (caps := [(.ptr 1 0)]) ?_ rfl ?_
    · refine le_auto hk ?_
      (try cbv); (try simp only [choice_lk, lock_eq, and_self, and_true, true_and]); (try first | exact e | exact e.symm | (and_intros <;> first | assumption | rfl | exact Eq.symm (by assumption)))
    · intro C1 yl hk1
      replace hk1 : C1.k = 2 := hk1
      constructor
      (try cbv)
      refine LoopI.iter (B := F_varint_Put_L1) hr (fun | (i1, s1) => ⟨mkFr [(0, (.v (.func (.yield yl) #[] #[]))), (1, (.ptr 1 0))] 18 0, [(0, .blk 23 [(.wsl 2)]), (1, .blk 22 [(.v (.int .u64 i1))]), (2, .row (.bs 5 s1))], 3⟩) ?_ ?_
      · rintro ⟨u0, u1⟩ e
        simp only [Prod.mk.injEq] at e
        obtain ⟨e0, e1⟩ := e
        refine le_auto hk1 ?_
        (try cbv); (try simp only [choice_lk, lock_eq, and_self, and_true, true_and]); (try first | exact e | exact e.symm | (and_intros <;> first | assumption | rfl | exact Eq.symm (by assumption)))
      · clear hr
        intro x bb1 hr ht1
        obtain ⟨i1, s1⟩ := x
        constructor
        unfold F_varint_Put_L1 at hr
        (try dsimp only at hr)
        (try cbv)
        have gg := guard_inv hr
        have g := gg.1
        replace hr := gg.2
        clear gg
        refine ⟨obl.2 (by first | (simp only [choice_lk, lock_eq, R.len, R.sub]; exact g) | exact g), ?_⟩
        refine sel_intro (fun h => ?_) (fun h => ?_)
        · have h1 : (ilt (0 : Int) (ishr .u64 i1 (7 : Int))) = true := by first | exact h | (have h2 := h; simp only [choice_lk, lock_eq] at h2; exact h2) | (simp only [choice_lk, lock_eq] at h; exact h)
          rw [if_pos h1] at hr
          (try cbv)
          have gg := guard_inv hr
          have g := gg.1
          replace hr := gg.2
          clear gg
          refine ⟨obl.2 (by first | (simp only [choice_lk, lock_eq, R.len, R.sub]; exact g) | exact g), ?_⟩
          have gg := guard_inv hr
          have g := gg.1
          replace hr := gg.2
          clear gg
          refine ⟨obl.2 (by first | (simp only [choice_lk, lock_eq, R.len, R.sub]; exact g) | exact g), ?_⟩
          have gg := guard_inv hr
          have g := gg.1
          replace hr := gg.2
          clear gg
          refine ⟨obl.2 (by first | (simp only [choice_lk, lock_eq, R.len, R.sub]; exact g) | exact g), ?_⟩
          refine sel_intro (fun h => ?_) (fun h => ?_)
          · have h1 : (ilt (0 : Int) (ishr .u64 i1 (7 : Int))) = true := by first | exact h | (have h2 := h; simp only [choice_lk, lock_eq] at h2; exact h2) | (simp only [choice_lk, lock_eq] at h; exact h)
            rw [if_pos h1] at hr
            (try cbv)
            have gg := guard_inv hr
            have g := gg.1
            replace hr := gg.2
            clear gg
            refine ⟨obl.2 (by first | (simp only [choice_lk, lock_eq, R.len, R.sub]; exact g) | exact g), ?_⟩
            apply Hidden.out
            obtain rfl := Option.some.inj hr
            constructor
            refine ⟨⟨_, rfl⟩, ?_⟩
            rintro ⟨u0, u1⟩ e
            replace e := Sum.inl.inj e
            simp only [Prod.mk.injEq] at e
            obtain ⟨e0, e1⟩ := e
            refine le_auto hk1 ?_
            (try cbv); (try simp only [choice_lk, lock_eq, and_self, and_true, true_and]); (try first | exact e | exact e.symm | (and_intros <;> first | assumption | rfl | exact Eq.symm (by assumption)))
          · have h1 : (ilt (0 : Int) (ishr .u64 i1 (7 : Int))) = false := by first | exact h | (have h2 := h; simp only [choice_lk, lock_eq] at h2; exact h2) | (simp only [choice_lk, lock_eq] at h; exact h)
            rw [if_neg (by rw [h1]; exact Bool.false_ne_true)] at hr
            (try cbv)
            apply Hidden.out
            obtain rfl := Option.some.inj hr
            have e := ht1 _ rfl
            constructor
            refine ⟨_, hF, ?_⟩
            (try cbv); (try simp only [choice_lk, lock_eq, and_self, and_true, true_and]); (try first | exact e | exact e.symm | (and_intros <;> first | assumption | rfl | exact Eq.symm (by assumption)))
        · have h1 : (ilt (0 : Int) (ishr .u64 i1 (7 : Int))) = false := by first | exact h | (have h2 := h; simp only [choice_lk, lock_eq] at h2; exact h2) | (simp only [choice_lk, lock_eq] at h; exact h)
          rw [if_neg (by rw [h1]; exact Bool.false_ne_true)] at hr
          (try cbv)
          have gg := guard_inv hr
          have g := gg.1
          replace hr := gg.2
          clear gg
          refine ⟨obl.2 (by first | (simp only [choice_lk, lock_eq, R.len, R.sub]; exact g) | exact g), ?_⟩
          have gg := guard_inv hr
          have g := gg.1
          replace hr := gg.2
          clear gg
          refine ⟨obl.2 (by first | (simp only [choice_lk, lock_eq, R.len, R.sub]; exact g) | exact g), ?_⟩
          have gg := guard_inv hr
          have g := gg.1
          replace hr := gg.2
          clear gg
          refine ⟨obl.2 (by first | (simp only [choice_lk, lock_eq, R.len, R.sub]; exact g) | exact g), ?_⟩
          refine sel_intro (fun h => ?_) (fun h => ?_)
          · have h1 : (ilt (0 : Int) (ishr .u64 i1 (7 : Int))) = true := by first | exact h | (have h2 := h; simp only [choice_lk, lock_eq] at h2; exact h2) | (simp only [choice_lk, lock_eq] at h; exact h)
            rw [if_pos h1] at hr
            (try cbv)
            have gg := guard_inv hr
            have g := gg.1
            replace hr := gg.2
            clear gg
            refine ⟨obl.2 (by first | (simp only [choice_lk, lock_eq, R.len, R.sub]; exact g) | exact g), ?_⟩
            apply Hidden.out
            obtain rfl := Option.some.inj hr
            constructor
            refine ⟨⟨_, rfl⟩, ?_⟩
            rintro ⟨u0, u1⟩ e
            replace e := Sum.inl.inj e
            simp only [Prod.mk.injEq] at e
            obtain ⟨e0, e1⟩ := e
            refine le_auto hk1 ?_
            (try cbv); (try simp only [choice_lk, lock_eq, and_self, and_true, true_and]); (try first | exact e | exact e.symm | (and_intros <;> first | assumption | rfl | exact Eq.symm (by assumption)))
          · have h1 : (ilt (0 : Int) (ishr .u64 i1 (7 : Int))) = false := by first | exact h | (have h2 := h; simp only [choice_lk, lock_eq] at h2; exact h2) | (simp only [choice_lk, lock_eq] at h; exact h)
            rw [if_neg (by rw [h1]; exact Bool.false_ne_true)] at hr
            (try cbv)
            apply Hidden.out
            obtain rfl := Option.some.inj hr
            have e := ht1 _ rfl
            constructor
            refine ⟨_, hF, ?_⟩
            (try cbv); (try simp only [choice_lk, lock_eq, and_self, and_true, true_and]); (try first | exact e | exact e.symm | (and_intros <;> first | assumption | rfl | exact Eq.symm (by assumption)))
end Go.Proofs.Ytceecjhpegiodaa
end
section
/-
  The walk of tollbar/varint.Len (printed by a program of ours).
-/
set_option linter.unusedVariables false
set_option linter.unusedSimpArgs false
namespace Go.Proofs.Ytceecjhpegiodaa
open Go.RowKit

noncomputable def tab_varint_Len : Nat → Option Con := look [(20, con_varint_groups)]
set_option maxHeartbeats 4000000 in
set_option maxRecDepth 100000 in
theorem vc_varint_Len (P : Program) (T : Tab P tab_varint_Len) (hm : P.follows .mixedOrders = true) (hI24 : ItOK P 24 ic_24 18) : FnVC P tab_varint_Len ic_12 [.t 2] 11 con_varint_Len := by
  intro cargs ccks ce hce hob C hk
  apply Hidden.out
  replace hce : con_varint_Len_1 cargs ccks = some ce := hce
  · unfold con_varint_Len_1 at hce
    split at hce
    rotate_left
    · cases hce
    obtain rfl := Option.some.inj hce
    rename_i x1
    have hb1 := hob _ (List.mem_singleton.2 rfl)
    have hb2 := obl.1 hb1
    clear hb1 hob hce
    refine hb2.elim fun r hF => ?_
    clear hb2
    simp only [List.length_cons, List.length_nil, Nat.zero_add, Nat.reduceAdd] at hk
    have hr : F_varint_Len x1 = some r := by rw [lock_eq] at hF; exact hF
    unfold F_varint_Len at hr
    constructor
    (try cbv)
    have hqe : ∃ qq, F_varint_groups x1 = some qq := by
      cases hq : F_varint_groups x1 with
      | none => rw [hq] at hr; cases hr
      | some qq => exact ⟨qq, rfl⟩
    refine ⟨obl.2 (by simp only [choice_lk, lock_eq]; exact hqe), (by rintro (_) _ <;> cbv), ?_⟩
    clear hqe
    intro qq hx1
    simp only [choice_lk, lock_eq] at hx1
    rcases qq with _
    all_goals (rw [hx1] at hr; dsimp only at hr; constructor; (try cbv))
    refine LoopOK.rfn T hI24 (s0 := ⟨mkFr [(3, (.ptr 0 0)), (5, (.fn 24 [(.ptr 1 0)]))] 11 0, [(0, .blk 3 [(.v (.int .i64 (0 : Int)))]), (1, .blk 22 [(.v (.int .u64 x1))])], 2⟩) (caps := [(.ptr 1 0)]) ?_ rfl ?_
    · refine le_auto hk ?_
      (try cbv); (try simp only [choice_lk, lock_eq, and_self, and_true, true_and]); (try first | exact e | exact e.symm | (and_intros <;> first | assumption | rfl | exact Eq.symm (by assumption)))
    · intro C1 yl hk1
      replace hk1 : C1.k = 2 := hk1
      constructor
      (try cbv)
      refine LoopI.iter (B := F_varint_Len_L1) hr (fun | (i1, i2) => ⟨mkFr [(0, (.v (.func (.yield yl) #[] #[]))), (1, (.ptr 1 0))] 18 0, [(0, .blk 3 [(.v (.int .i64 i1))]), (1, .blk 22 [(.v (.int .u64 i2))])], 2⟩) ?_ ?_
      · rintro ⟨u0, u1⟩ e
        simp only [Prod.mk.injEq] at e
        obtain ⟨e0, e1⟩ := e
        refine le_auto hk1 ?_
        (try cbv); (try simp only [choice_lk, lock_eq, and_self, and_true, true_and]); (try first | exact e | exact e.symm | (and_intros <;> first | assumption | rfl | exact Eq.symm (by assumption)))
      · clear hr
        intro x bb1 hr ht1
        obtain ⟨i1, i2⟩ := x
        constructor
        unfold F_varint_Len_L1 at hr
        (try dsimp only at hr)
        (try cbv)
        have gg := guard_inv hr
        have g := gg.1
        replace hr := gg.2
        clear gg
        refine ⟨obl.2 (by first | (simp only [choice_lk, lock_eq, R.len, R.sub]; exact g) | exact g), ?_⟩
        have gg := guard_inv hr
        have g := gg.1
        replace hr := gg.2
        clear gg
        refine ⟨obl.2 (by first | (simp only [choice_lk, lock_eq, R.len, R.sub]; exact g) | exact g), ?_⟩
        refine sel_intro (fun h => ?_) (fun h => ?_)
        · have h1 : (ilt (0 : Int) (ishr .u64 i2 (7 : Int))) = true := by first | exact h | (have h2 := h; simp only [choice_lk, lock_eq] at h2; exact h2) | (simp only [choice_lk, lock_eq] at h; exact h)
          rw [if_pos h1] at hr
          (try cbv)
          have gg := guard_inv hr
          have g := gg.1
          replace hr := gg.2
          clear gg
          refine ⟨obl.2 (by first | (simp only [choice_lk, lock_eq, R.len, R.sub]; exact g) | exact g), ?_⟩
          apply Hidden.out
          obtain rfl := Option.some.inj hr
          constructor
          refine ⟨⟨_, rfl⟩, ?_⟩
          rintro ⟨u0, u1⟩ e
          replace e := Sum.inl.inj e
          simp only [Prod.mk.injEq] at e
          obtain ⟨e0, e1⟩ := e
          refine le_auto hk1 ?_
          (try cbv); (try simp only [choice_lk, lock_eq, and_self, and_true, true_and]); (try first | exact e | exact e.symm | (and_intros <;> first | assumption | rfl | exact Eq.symm (by assumption)))
        · have h1 : (ilt (0 : Int) (ishr .u64 i2 (7 : Int))) = false := by first | exact h | (have h2 := h; simp only [choice_lk, lock_eq] at h2; exact h2) | (simp only [choice_lk, lock_eq] at h; exact h)
          rw [if_neg (by rw [h1]; exact Bool.false_ne_true)] at hr
          (try cbv)
          apply Hidden.out
          obtain rfl := Option.some.inj hr
          have e := ht1 _ rfl
          constructor
          refine ⟨_, hF, ?_⟩
          (try cbv); (try simp only [choice_lk, lock_eq, and_self, and_true, true_and]); (try first | exact e | exact e.symm | (and_intros <;> first | assumption | rfl | exact Eq.symm (by assumption)))
end Go.Proofs.Ytceecjhpegiodaa
end
section
/-
  The walk of tollbar/tollbarlaw02.awake (printed by a program of ours).
-/
set_option linter.unusedVariables false
set_option linter.unusedSimpArgs false
namespace Go.Proofs.Ytceecjhpegiodaa
open Go.RowKit

noncomputable def tab_tollbarlaw02_awake : Nat → Option Con := look [(8, con_varint_Get), (13, con_octet_Open), (14, con_varint_Take), (10, con_varint_Put), (12, con_varint_Len)]
set_option maxHeartbeats 4000000 in
set_option maxRecDepth 100000 in
theorem vc_tollbarlaw02_awake (P : Program) (T : Tab P tab_tollbarlaw02_awake) (hm : P.follows .mixedOrders = true) : FnVC P tab_tollbarlaw02_awake ic_7 [.t 0] 75 con_tollbarlaw02_awake := by
  intro cargs ccks ce hce hob C hk
  apply Hidden.out
  replace hce : con_tollbarlaw02_awake_1 cargs ccks = some ce := hce
  · unfold con_tollbarlaw02_awake_1 at hce
    split at hce
    rotate_left
    · cases hce
    obtain rfl := Option.some.inj hce
    have hb1 := hob _ (List.mem_singleton.2 rfl)
    have hb2 := obl.1 hb1
    clear hb1 hob hce
    refine hb2.elim fun r hF => ?_
    clear hb2
    simp only [List.length_cons, List.length_nil, Nat.zero_add, Nat.reduceAdd] at hk
    have hr : F_tollbarlaw02_awake = some r := by rw [lock_eq] at hF; exact hF
    unfold F_tollbarlaw02_awake at hr
    constructor
    (try cbv)
    have gg := guard_inv hr
    have g := gg.1
    replace hr := gg.2
    clear gg
    refine ⟨obl.2 (by first | (simp only [choice_lk, lock_eq, R.len, R.sub]; exact g) | exact g), ?_⟩
    have gg := guard_inv hr
    have g := gg.1
    replace hr := gg.2
    clear gg
    refine ⟨obl.2 (by first | (simp only [choice_lk, lock_eq, R.len, R.sub]; exact g) | exact g), ?_⟩
    have gg := guard_inv hr
    have g := gg.1
    replace hr := gg.2
    clear gg
    refine ⟨obl.2 (by first | (simp only [choice_lk, lock_eq, R.len, R.sub]; exact g) | exact g), ?_⟩
    have hqe : ∃ qq, F_varint_Get (byteOf (172 : Int) :: (byteOf (2 : Int) :: (byteOf (9 : Int) :: ([] : List UInt8)))) = some qq := by
      cases hq : F_varint_Get (byteOf (172 : Int) :: (byteOf (2 : Int) :: (byteOf (9 : Int) :: ([] : List UInt8)))) with
      | none => rw [hq] at hr; cases hr
      | some qq => exact ⟨qq, rfl⟩
    refine ⟨obl.2 (by simp only [choice_lk, lock_eq]; exact hqe), (by rintro (⟨_, _, _⟩) _ <;> cbv), ?_⟩
    clear hqe
    intro qq hx1
    simp only [choice_lk, lock_eq] at hx1
    rcases qq with ⟨y1, y2, y3⟩
    all_goals (rw [hx1] at hr; dsimp only at hr; constructor; (try cbv))
    have gg := guard_inv hr
    have g := gg.1
    replace hr := gg.2
    clear gg
    refine ⟨obl.2 (by first | (simp only [choice_lk, lock_eq, R.len, R.sub]; exact g) | exact g), ?_⟩
    have gg := guard_inv hr
    have g := gg.1
    replace hr := gg.2
    clear gg
    refine ⟨obl.2 (by first | (simp only [choice_lk, lock_eq, R.len, R.sub]; exact g) | exact g), ?_⟩
    have hqe : ∃ qq, F_varint_Get (byteOf (128 : Int) :: (byteOf (0 : Int) :: ([] : List UInt8))) = some qq := by
      cases hq : F_varint_Get (byteOf (128 : Int) :: (byteOf (0 : Int) :: ([] : List UInt8))) with
      | none => rw [hq] at hr; cases hr
      | some qq => exact ⟨qq, rfl⟩
    refine ⟨obl.2 (by simp only [choice_lk, lock_eq]; exact hqe), (by rintro (⟨_, _, _⟩) _ <;> cbv), ?_⟩
    clear hqe
    intro qq hx2
    simp only [choice_lk, lock_eq] at hx2
    rcases qq with ⟨y4, y5, y6⟩
    all_goals (rw [hx2] at hr; dsimp only at hr; constructor; (try cbv))
    have gg := guard_inv hr
    have g := gg.1
    replace hr := gg.2
    clear gg
    refine ⟨obl.2 (by first | (simp only [choice_lk, lock_eq, R.len, R.sub]; exact g) | exact g), ?_⟩
    have hqe : ∃ qq, F_varint_Get (byteOf (128 : Int) :: ([] : List UInt8)) = some qq := by
      cases hq : F_varint_Get (byteOf (128 : Int) :: ([] : List UInt8)) with
      | none => rw [hq] at hr; cases hr
      | some qq => exact ⟨qq, rfl⟩
    refine ⟨obl.2 (by simp only [choice_lk, lock_eq]; exact hqe), (by rintro (⟨_, _, _⟩) _ <;> cbv), ?_⟩
    clear hqe
    intro qq hx3
    simp only [choice_lk, lock_eq] at hx3
    rcases qq with ⟨y7, y8, y9⟩
    all_goals (rw [hx3] at hr; dsimp only at hr; constructor; (try cbv))
    have gg := guard_inv hr
    have g := gg.1
    replace hr := gg.2
    clear gg
    refine ⟨obl.2 (by first | (simp only [choice_lk, lock_eq, R.len, R.sub]; exact g) | exact g), ?_⟩
    have hqe : ∃ qq, F_octet_Open (byteOf (5 : Int) :: ([] : List UInt8)) = some qq := by
      cases hq : F_octet_Open (byteOf (5 : Int) :: ([] : List UInt8)) with
      | none => rw [hq] at hr; cases hr
      | some qq => exact ⟨qq, rfl⟩
    refine ⟨obl.2 (by simp only [choice_lk, lock_eq]; exact hqe), (by rintro (_) _ <;> cbv), ?_⟩
    clear hqe
    intro t1 hx4
    simp only [choice_lk, lock_eq] at hx4
    all_goals (rw [hx4] at hr; dsimp only at hr; constructor; (try cbv))
    have hqe : ∃ qq, F_varint_Take (0 : Int) t1 = some qq := by
      cases hq : F_varint_Take (0 : Int) t1 with
      | none => rw [hq] at hr; cases hr
      | some qq => exact ⟨qq, rfl⟩
    refine ⟨obl.2 (by simp only [choice_lk, lock_eq]; exact hqe), (by rintro (⟨_, _, _, _, _⟩) _ <;> cbv), ?_⟩
    clear hqe
    intro qq hx5
    simp only [choice_lk, lock_eq] at hx5
    rcases qq with ⟨y10, y11, k1, k2, y12⟩
    all_goals (rw [hx5] at hr; dsimp only at hr; constructor; (try cbv))
    have hqe : ∃ qq, F_varint_Put (300 : Int) = some qq := by
      cases hq : F_varint_Put (300 : Int) with
      | none => rw [hq] at hr; cases hr
      | some qq => exact ⟨qq, rfl⟩
    refine ⟨obl.2 (by simp only [choice_lk, lock_eq]; exact hqe), (by rintro (_) _ <;> cbv), ?_⟩
    clear hqe
    intro t2 hx6
    simp only [choice_lk, lock_eq] at hx6
    all_goals (rw [hx6] at hr; dsimp only at hr; constructor; (try cbv))
    refine sel_intro (fun h => ?_) (fun h => ?_)
    · have h1 : (seq t2 ([172, 2] : List UInt8)) = true := by first | exact h | (have h2 := h; simp only [choice_lk, lock_eq] at h2; exact h2) | (simp only [choice_lk, lock_eq] at h; exact h)
      rw [if_pos h1] at hr
      (try cbv)
      have hqe : ∃ qq, F_varint_Len (300 : Int) = some qq := by
        cases hq : F_varint_Len (300 : Int) with
        | none => rw [hq] at hr; cases hr
        | some qq => exact ⟨qq, rfl⟩
      refine ⟨obl.2 (by simp only [choice_lk, lock_eq]; exact hqe), (by rintro (_) _ <;> cbv), ?_⟩
      clear hqe
      intro y13 hx7
      simp only [choice_lk, lock_eq] at hx7
      all_goals (rw [hx7] at hr; dsimp only at hr; constructor; (try cbv))
      refine sel_intro (fun h => ?_) (fun h => ?_)
      · have h1 : (ieq y13 (2 : Int)) = true := by first | exact h | (have h2 := h; simp only [choice_lk, lock_eq] at h2; exact h2) | (simp only [choice_lk, lock_eq] at h; exact h)
        rw [if_pos h1] at hr
        (try cbv)
        have hqe : ∃ qq, F_varint_Len (0 : Int) = some qq := by
          cases hq : F_varint_Len (0 : Int) with
          | none => rw [hq] at hr; cases hr
          | some qq => exact ⟨qq, rfl⟩
        refine ⟨obl.2 (by simp only [choice_lk, lock_eq]; exact hqe), (by rintro (_) _ <;> cbv), ?_⟩
        clear hqe
        intro y14 hx8
        simp only [choice_lk, lock_eq] at hx8
        all_goals (rw [hx8] at hr; dsimp only at hr; constructor; (try cbv))
        refine sel_intro (fun h => ?_) (fun h => ?_)
        · have h1 : (ieq y14 (1 : Int)) = true := by first | exact h | (have h2 := h; simp only [choice_lk, lock_eq] at h2; exact h2) | (simp only [choice_lk, lock_eq] at h; exact h)
          rw [if_pos h1] at hr
          (try cbv)
          refine sel_intro (fun h => ?_) (fun h => ?_)
          · have h1 : (ieq y1 (300 : Int)) = true := by first | exact h | (have h2 := h; simp only [choice_lk, lock_eq] at h2; exact h2) | (simp only [choice_lk, lock_eq] at h; exact h)
            rw [if_pos h1] at hr
            (try cbv)
            refine sel_intro (fun h => ?_) (fun h => ?_)
            · have h1 : (ieq y2 (2 : Int)) = true := by first | exact h | (have h2 := h; simp only [choice_lk, lock_eq] at h2; exact h2) | (simp only [choice_lk, lock_eq] at h; exact h)
              rw [if_pos h1] at hr
              (try cbv)
              refine sel_intro (fun h => ?_) (fun h => ?_)
              · have h1 : (ieq y3 (0 : Int)) = true := by first | exact h | (have h2 := h; simp only [choice_lk, lock_eq] at h2; exact h2) | (simp only [choice_lk, lock_eq] at h; exact h)
                rw [if_pos h1] at hr
                (try cbv)
                refine sel_intro (fun h => ?_) (fun h => ?_)
                · have h1 : (ieq y6 (11 : Int)) = true := by first | exact h | (have h2 := h; simp only [choice_lk, lock_eq] at h2; exact h2) | (simp only [choice_lk, lock_eq] at h; exact h)
                  rw [if_pos h1] at hr
                  (try cbv)
                  refine sel_intro (fun h => ?_) (fun h => ?_)
                  · have h1 : (ieq y9 (10 : Int)) = true := by first | exact h | (have h2 := h; simp only [choice_lk, lock_eq] at h2; exact h2) | (simp only [choice_lk, lock_eq] at h; exact h)
                    rw [if_pos h1] at hr
                    (try cbv)
                    refine sel_intro (fun h => ?_) (fun h => ?_)
                    · have h1 : (ieq y10 (5 : Int)) = true := by first | exact h | (have h2 := h; simp only [choice_lk, lock_eq] at h2; exact h2) | (simp only [choice_lk, lock_eq] at h; exact h)
                      rw [if_pos h1] at hr
                      (try cbv)
                      apply Hidden.out
                      have e := Option.some.inj hr
                      constructor
                      refine ⟨_, hF, ?_⟩
                      (try cbv); (try simp only [choice_lk, lock_eq, and_self, and_true, true_and]); (try first | exact e | exact e.symm | (and_intros <;> first | assumption | rfl | exact Eq.symm (by assumption)))
                    · have h1 : (ieq y10 (5 : Int)) = false := by first | exact h | (have h2 := h; simp only [choice_lk, lock_eq] at h2; exact h2) | (simp only [choice_lk, lock_eq] at h; exact h)
                      rw [if_neg (by rw [h1]; exact Bool.false_ne_true)] at hr
                      (try cbv)
                      apply Hidden.out
                      have e := Option.some.inj hr
                      constructor
                      refine ⟨_, hF, ?_⟩
                      (try cbv); (try simp only [choice_lk, lock_eq, and_self, and_true, true_and]); (try first | exact e | exact e.symm | (and_intros <;> first | assumption | rfl | exact Eq.symm (by assumption)))
                  · have h1 : (ieq y9 (10 : Int)) = false := by first | exact h | (have h2 := h; simp only [choice_lk, lock_eq] at h2; exact h2) | (simp only [choice_lk, lock_eq] at h; exact h)
                    rw [if_neg (by rw [h1]; exact Bool.false_ne_true)] at hr
                    (try cbv)
                    apply Hidden.out
                    have e := Option.some.inj hr
                    constructor
                    refine ⟨_, hF, ?_⟩
                    (try cbv); (try simp only [choice_lk, lock_eq, and_self, and_true, true_and]); (try first | exact e | exact e.symm | (and_intros <;> first | assumption | rfl | exact Eq.symm (by assumption)))
                · have h1 : (ieq y6 (11 : Int)) = false := by first | exact h | (have h2 := h; simp only [choice_lk, lock_eq] at h2; exact h2) | (simp only [choice_lk, lock_eq] at h; exact h)
                  rw [if_neg (by rw [h1]; exact Bool.false_ne_true)] at hr
                  (try cbv)
                  apply Hidden.out
                  have e := Option.some.inj hr
                  constructor
                  refine ⟨_, hF, ?_⟩
                  (try cbv); (try simp only [choice_lk, lock_eq, and_self, and_true, true_and]); (try first | exact e | exact e.symm | (and_intros <;> first | assumption | rfl | exact Eq.symm (by assumption)))
              · have h1 : (ieq y3 (0 : Int)) = false := by first | exact h | (have h2 := h; simp only [choice_lk, lock_eq] at h2; exact h2) | (simp only [choice_lk, lock_eq] at h; exact h)
                rw [if_neg (by rw [h1]; exact Bool.false_ne_true)] at hr
                (try cbv)
                apply Hidden.out
                have e := Option.some.inj hr
                constructor
                refine ⟨_, hF, ?_⟩
                (try cbv); (try simp only [choice_lk, lock_eq, and_self, and_true, true_and]); (try first | exact e | exact e.symm | (and_intros <;> first | assumption | rfl | exact Eq.symm (by assumption)))
            · have h1 : (ieq y2 (2 : Int)) = false := by first | exact h | (have h2 := h; simp only [choice_lk, lock_eq] at h2; exact h2) | (simp only [choice_lk, lock_eq] at h; exact h)
              rw [if_neg (by rw [h1]; exact Bool.false_ne_true)] at hr
              (try cbv)
              apply Hidden.out
              have e := Option.some.inj hr
              constructor
              refine ⟨_, hF, ?_⟩
              (try cbv); (try simp only [choice_lk, lock_eq, and_self, and_true, true_and]); (try first | exact e | exact e.symm | (and_intros <;> first | assumption | rfl | exact Eq.symm (by assumption)))
          · have h1 : (ieq y1 (300 : Int)) = false := by first | exact h | (have h2 := h; simp only [choice_lk, lock_eq] at h2; exact h2) | (simp only [choice_lk, lock_eq] at h; exact h)
            rw [if_neg (by rw [h1]; exact Bool.false_ne_true)] at hr
            (try cbv)
            apply Hidden.out
            have e := Option.some.inj hr
            constructor
            refine ⟨_, hF, ?_⟩
            (try cbv); (try simp only [choice_lk, lock_eq, and_self, and_true, true_and]); (try first | exact e | exact e.symm | (and_intros <;> first | assumption | rfl | exact Eq.symm (by assumption)))
        · have h1 : (ieq y14 (1 : Int)) = false := by first | exact h | (have h2 := h; simp only [choice_lk, lock_eq] at h2; exact h2) | (simp only [choice_lk, lock_eq] at h; exact h)
          rw [if_neg (by rw [h1]; exact Bool.false_ne_true)] at hr
          (try cbv)
          apply Hidden.out
          have e := Option.some.inj hr
          constructor
          refine ⟨_, hF, ?_⟩
          (try cbv); (try simp only [choice_lk, lock_eq, and_self, and_true, true_and]); (try first | exact e | exact e.symm | (and_intros <;> first | assumption | rfl | exact Eq.symm (by assumption)))
      · have h1 : (ieq y13 (2 : Int)) = false := by first | exact h | (have h2 := h; simp only [choice_lk, lock_eq] at h2; exact h2) | (simp only [choice_lk, lock_eq] at h; exact h)
        rw [if_neg (by rw [h1]; exact Bool.false_ne_true)] at hr
        (try cbv)
        apply Hidden.out
        have e := Option.some.inj hr
        constructor
        refine ⟨_, hF, ?_⟩
        (try cbv); (try simp only [choice_lk, lock_eq, and_self, and_true, true_and]); (try first | exact e | exact e.symm | (and_intros <;> first | assumption | rfl | exact Eq.symm (by assumption)))
    · have h1 : (seq t2 ([172, 2] : List UInt8)) = false := by first | exact h | (have h2 := h; simp only [choice_lk, lock_eq] at h2; exact h2) | (simp only [choice_lk, lock_eq] at h; exact h)
      rw [if_neg (by rw [h1]; exact Bool.false_ne_true)] at hr
      (try cbv)
      apply Hidden.out
      have e := Option.some.inj hr
      constructor
      refine ⟨_, hF, ?_⟩
      (try cbv); (try simp only [choice_lk, lock_eq, and_self, and_true, true_and]); (try first | exact e | exact e.symm | (and_intros <;> first | assumption | rfl | exact Eq.symm (by assumption)))
end Go.Proofs.Ytceecjhpegiodaa
end
section
/-
  The walk of tollbar/tollbarlaw02.VarintOwn (printed by a program of ours).
-/
set_option linter.unusedVariables false
set_option linter.unusedSimpArgs false
namespace Go.Proofs.Ytceecjhpegiodaa
open Go.RowKit

noncomputable def tab_tollbarlaw02_VarintOwn : Nat → Option Con := look [(7, con_tollbarlaw02_awake), (8, con_varint_Get), (10, con_varint_Put)]
set_option maxHeartbeats 4000000 in
set_option maxRecDepth 100000 in
theorem vc_tollbarlaw02_VarintOwn (P : Program) (T : Tab P tab_tollbarlaw02_VarintOwn) (hm : P.follows .mixedOrders = true) : FnVC P tab_tollbarlaw02_VarintOwn ic_6 [.t 6] 102 con_tollbarlaw02_VarintOwn := by
  intro cargs ccks ce hce hob C hk
  apply Hidden.out
  replace hce : con_tollbarlaw02_VarintOwn_1 cargs ccks = some ce := hce
  · unfold con_tollbarlaw02_VarintOwn_1 at hce
    split at hce
    rotate_left
    · cases hce
    obtain rfl := Option.some.inj hce
    rename_i s1 x1 x2
    have hb1 := hob _ (List.mem_singleton.2 rfl)
    have hb2 := obl.1 hb1
    clear hb1 hob hce
    refine hb2.elim fun r hF => ?_
    clear hb2
    simp only [List.length_cons, List.length_nil, Nat.zero_add, Nat.reduceAdd] at hk
    have hr : F_tollbarlaw02_VarintOwn s1 x1 x2 = some r := by rw [lock_eq] at hF; exact hF
    unfold F_tollbarlaw02_VarintOwn at hr
    constructor
    (try cbv)
    have hqe : ∃ qq, F_tollbarlaw02_awake = some qq := by
      cases hq : F_tollbarlaw02_awake with
      | none => rw [hq] at hr; cases hr
      | some qq => exact ⟨qq, rfl⟩
    refine ⟨obl.2 (by simp only [choice_lk, lock_eq]; exact hqe), (by rintro (_) _ <;> cbv), ?_⟩
    clear hqe
    intro c1 hx1
    simp only [choice_lk, lock_eq] at hx1
    all_goals (rw [hx1] at hr; dsimp only at hr; constructor; (try cbv))
    refine sel_intro (fun h => ?_) (fun h => ?_)
    · have h1 : c1 = false := by first | exact (bnot_t.1 h) | (have h2 := (bnot_t.1 h); simp only [choice_lk, lock_eq] at h2; exact h2) | (simp only [choice_lk, lock_eq] at h; exact (bnot_t.1 h))
      rw [if_neg (by rw [h1]; exact Bool.false_ne_true)] at hr
      (try cbv)
      apply Hidden.out
      have e := Option.some.inj hr
      constructor
      refine ⟨_, hF, ?_⟩
      (try cbv); (try simp only [choice_lk, lock_eq, and_self, and_true, true_and]); (try first | exact e | exact e.symm | (and_intros <;> first | assumption | rfl | exact Eq.symm (by assumption)))
    · have h1 : c1 = true := by first | exact (bnot_f.1 h) | (have h2 := (bnot_f.1 h); simp only [choice_lk, lock_eq] at h2; exact h2) | (simp only [choice_lk, lock_eq] at h; exact (bnot_f.1 h))
      rw [if_pos h1] at hr
      (try cbv)
      refine sel_intro (fun h => ?_) (fun h => ?_)
      · have h1 : (ilt (100 : Int) (ofN (xlen s1))) = true := by first | exact h | (have h2 := h; simp only [choice_lk, lock_eq] at h2; exact h2) | (simp only [choice_lk, lock_eq] at h; exact h)
        rw [if_pos h1] at hr
        (try cbv)
        apply Hidden.out
        have e := Option.some.inj hr
        constructor
        refine ⟨_, hF, ?_⟩
        (try cbv); (try simp only [choice_lk, lock_eq, and_self, and_true, true_and]); (try first | exact e | exact e.symm | (and_intros <;> first | assumption | rfl | exact Eq.symm (by assumption)))
      · have h1 : (ilt (100 : Int) (ofN (xlen s1))) = false := by first | exact h | (have h2 := h; simp only [choice_lk, lock_eq] at h2; exact h2) | (simp only [choice_lk, lock_eq] at h; exact h)
        rw [if_neg (by rw [h1]; exact Bool.false_ne_true)] at hr
        (try cbv)
        have hqe : ∃ qq, F_varint_Get s1 = some qq := by
          cases hq : F_varint_Get s1 with
          | none => rw [hq] at hr; cases hr
          | some qq => exact ⟨qq, rfl⟩
        refine ⟨obl.2 (by simp only [choice_lk, lock_eq]; exact hqe), (by rintro (⟨_, _, _⟩) _ <;> cbv), ?_⟩
        clear hqe
        intro qq hx2
        simp only [choice_lk, lock_eq] at hx2
        rcases qq with ⟨y1, y2, y3⟩
        all_goals (rw [hx2] at hr; dsimp only at hr; constructor; (try cbv))
        rcases Bool.eq_false_or_eq_true (ieq y3 (0 : Int)) with h1 | h1
        · rw [if_pos h1] at hr
          have h2 : (lock ieq y3 (0 : Int)) = true := by simp only [lock_eq]; exact h1
          simp only [relock, h2]
          (try cbv)
          rcases Bool.eq_false_or_eq_true (ilt y2 (1 : Int)) with h1 | h1
          · rw [if_pos h1] at hr
            have h2 : (lock ilt y2 (1 : Int)) = true := by simp only [lock_eq]; exact h1
            simp only [relock, h2]
            (try cbv)
            apply Hidden.out
            have e := Option.some.inj hr
            constructor
            refine ⟨_, hF, ?_⟩
            (try cbv); (try simp only [choice_lk, lock_eq, and_self, and_true, true_and]); (try first | exact e | exact e.symm | (and_intros <;> first | assumption | rfl | exact Eq.symm (by assumption)))
          · rw [if_neg (by rw [h1]; exact Bool.false_ne_true)] at hr
            have h2 : (lock ilt y2 (1 : Int)) = false := by simp only [lock_eq]; exact h1
            simp only [relock, h2]
            (try cbv)
            rcases Bool.eq_false_or_eq_true (ilt (ofN (xlen s1)) y2) with h1 | h1
            · rw [if_pos h1] at hr
              have h2 : (lock ilt (lock ofN (lock (@xlen UInt8) s1)) y2) = true := by simp only [lock_eq]; exact h1
              simp only [relock, h2]
              (try cbv)
              apply Hidden.out
              have e := Option.some.inj hr
              constructor
              refine ⟨_, hF, ?_⟩
              (try cbv); (try simp only [choice_lk, lock_eq, and_self, and_true, true_and]); (try first | exact e | exact e.symm | (and_intros <;> first | assumption | rfl | exact Eq.symm (by assumption)))
            · rw [if_neg (by rw [h1]; exact Bool.false_ne_true)] at hr
              have h2 : (lock ilt (lock ofN (lock (@xlen UInt8) s1)) y2) = false := by simp only [lock_eq]; exact h1
              simp only [relock, h2]
              (try cbv)
              have hqe : ∃ qq, F_varint_Put y1 = some qq := by
                cases hq : F_varint_Put y1 with
                | none => rw [hq] at hr; cases hr
                | some qq => exact ⟨qq, rfl⟩
              refine ⟨(by simp only [choice_lk, lock_eq]; exact hqe), obl.2 (by simp only [choice_lk, lock_eq]; exact hqe), (by rintro (_) _ <;> cbv), ?_⟩
              clear hqe
              intro t1 hx3
              simp only [choice_lk, lock_eq] at hx3
              all_goals (rw [hx3] at hr; dsimp only at hr; constructor; (try cbv))
              have gg := guard_inv hr
              have g := gg.1
              replace hr := gg.2
              clear gg
              refine ⟨obl.2 (by first | (simp only [choice_lk, lock_eq, R.len, R.sub]; exact g) | exact g), ?_⟩
              rcases Bool.eq_false_or_eq_true (seq t1 (lsub s1 0 (toN y2))) with h1 | h1
              · rw [if_pos h1] at hr
                have h2 : (lock seq t1 (lock (@lsub UInt8) s1 0 (lock toN y2))) = true := by simp only [lock_eq]; exact h1
                simp only [relock, h2]
                (try cbv)
                rcases Bool.eq_false_or_eq_true (ieq y3 (0 : Int)) with h1 | h1
                · rw [if_pos h1] at hr
                  have h2 : (lock ieq y3 (0 : Int)) = true := by simp only [lock_eq]; exact h1
                  simp only [relock, h2]
                  (try cbv)
                  have hqe : ∃ qq, F_varint_Put x1 = some qq := by
                    cases hq : F_varint_Put x1 with
                    | none => rw [hq] at hr; cases hr
                    | some qq => exact ⟨qq, rfl⟩
                  refine ⟨obl.2 (by simp only [choice_lk, lock_eq]; exact hqe), (by rintro (_) _ <;> cbv), ?_⟩
                  clear hqe
                  intro t2 hx4
                  simp only [choice_lk, lock_eq] at hx4
                  all_goals (rw [hx4] at hr; dsimp only at hr; constructor; (try cbv))
                  have hqe : ∃ qq, F_varint_Put x2 = some qq := by
                    cases hq : F_varint_Put x2 with
                    | none => rw [hq] at hr; cases hr
                    | some qq => exact ⟨qq, rfl⟩
                  refine ⟨obl.2 (by simp only [choice_lk, lock_eq]; exact hqe), (by rintro (_) _ <;> cbv), ?_⟩
                  clear hqe
                  intro t3 hx5
                  simp only [choice_lk, lock_eq] at hx5
                  all_goals (rw [hx5] at hr; dsimp only at hr; constructor; (try cbv))
                  refine sel_intro (fun h => ?_) (fun h => ?_)
                  · have h1 : (beq2 (seq t2 t3) (ieq x1 x2)) = false := by first | exact (bnot_t.1 h) | (have h2 := (bnot_t.1 h); simp only [choice_lk, lock_eq] at h2; exact h2) | (simp only [choice_lk, lock_eq] at h; exact (bnot_t.1 h))
                    rw [if_neg (by rw [h1]; exact Bool.false_ne_true)] at hr
                    (try cbv)
                    apply Hidden.out
                    have e := Option.some.inj hr
                    constructor
                    refine ⟨_, hF, ?_⟩
                    (try cbv); (try simp only [choice_lk, lock_eq, and_self, and_true, true_and]); (try first | exact e | exact e.symm | (and_intros <;> first | assumption | rfl | exact Eq.symm (by assumption)))
                  · have h1 : (beq2 (seq t2 t3) (ieq x1 x2)) = true := by first | exact (bnot_f.1 h) | (have h2 := (bnot_f.1 h); simp only [choice_lk, lock_eq] at h2; exact h2) | (simp only [choice_lk, lock_eq] at h; exact (bnot_f.1 h))
                    rw [if_pos h1] at hr
                    (try cbv)
                    refine sel_intro (fun h => ?_) (fun h => ?_)
                    · have h1 : (ilt x1 x2) = true := by first | exact h | (have h2 := h; simp only [choice_lk, lock_eq] at h2; exact h2) | (simp only [choice_lk, lock_eq] at h; exact h)
                      rw [if_pos h1] at hr
                      (try cbv)
                      refine sel_intro (fun h => ?_) (fun h => ?_)
                      · have h1 : (ilt (ofN (xlen t3)) (ofN (xlen t2))) = true := by first | exact h | (have h2 := h; simp only [choice_lk, lock_eq] at h2; exact h2) | (simp only [choice_lk, lock_eq] at h; exact h)
                        rw [if_pos h1] at hr
                        (try cbv)
                        apply Hidden.out
                        have e := Option.some.inj hr
                        constructor
                        refine ⟨_, hF, ?_⟩
                        (try cbv); (try simp only [choice_lk, lock_eq, and_self, and_true, true_and]); (try first | exact e | exact e.symm | (and_intros <;> first | assumption | rfl | exact Eq.symm (by assumption)))
                      · have h1 : (ilt (ofN (xlen t3)) (ofN (xlen t2))) = false := by first | exact h | (have h2 := h; simp only [choice_lk, lock_eq] at h2; exact h2) | (simp only [choice_lk, lock_eq] at h; exact h)
                        rw [if_neg (by rw [h1]; exact Bool.false_ne_true)] at hr
                        (try cbv)
                        refine sel_intro (fun h => ?_) (fun h => ?_)
                        · have h1 : (ieq x1 x2) = true := by first | exact h | (have h2 := h; simp only [choice_lk, lock_eq] at h2; exact h2) | (simp only [choice_lk, lock_eq] at h; exact h)
                          rw [if_pos h1] at hr
                          (try cbv)
                          apply Hidden.out
                          have e := Option.some.inj hr
                          constructor
                          refine ⟨_, hF, ?_⟩
                          (try cbv); (try simp only [choice_lk, lock_eq, and_self, and_true, true_and]); (try first | exact e | exact e.symm | (and_intros <;> first | assumption | rfl | exact Eq.symm (by assumption)))
                        · have h1 : (ieq x1 x2) = false := by first | exact h | (have h2 := h; simp only [choice_lk, lock_eq] at h2; exact h2) | (simp only [choice_lk, lock_eq] at h; exact h)
                          rw [if_neg (by rw [h1]; exact Bool.false_ne_true)] at hr
                          (try cbv)
                          refine sel_intro (fun h => ?_) (fun h => ?_)
                          · have h1 : (ilt (ofN (xlen t3)) (ofN (xlen t2))) = true := by first | exact h | (have h2 := h; simp only [choice_lk, lock_eq] at h2; exact h2) | (simp only [choice_lk, lock_eq] at h; exact h)
                            rw [if_pos h1] at hr
                            (try cbv)
                            apply Hidden.out
                            have e := Option.some.inj hr
                            constructor
                            refine ⟨_, hF, ?_⟩
                            (try cbv); (try simp only [choice_lk, lock_eq, and_self, and_true, true_and]); (try first | exact e | exact e.symm | (and_intros <;> first | assumption | rfl | exact Eq.symm (by assumption)))
                          · have h1 : (ilt (ofN (xlen t3)) (ofN (xlen t2))) = false := by first | exact h | (have h2 := h; simp only [choice_lk, lock_eq] at h2; exact h2) | (simp only [choice_lk, lock_eq] at h; exact h)
                            rw [if_neg (by rw [h1]; exact Bool.false_ne_true)] at hr
                            (try cbv)
                            have gg := guard_inv hr
                            have g := gg.1
                            replace hr := gg.2
                            clear gg
                            refine ⟨obl.2 (by first | (simp only [choice_lk, lock_eq, R.len, R.sub]; exact g) | exact g), ?_⟩
                            apply Hidden.out
                            have e := Option.some.inj hr
                            constructor
                            refine ⟨_, hF, ?_⟩
                            (try cbv); (try simp only [choice_lk, lock_eq, and_self, and_true, true_and]); (try first | exact e | exact e.symm | (and_intros <;> first | assumption | rfl | exact Eq.symm (by assumption)))
                    · have h1 : (ilt x1 x2) = false := by first | exact h | (have h2 := h; simp only [choice_lk, lock_eq] at h2; exact h2) | (simp only [choice_lk, lock_eq] at h; exact h)
                      rw [if_neg (by rw [h1]; exact Bool.false_ne_true)] at hr
                      (try cbv)
                      refine sel_intro (fun h => ?_) (fun h => ?_)
                      · have h1 : (ieq x1 x2) = true := by first | exact h | (have h2 := h; simp only [choice_lk, lock_eq] at h2; exact h2) | (simp only [choice_lk, lock_eq] at h; exact h)
                        rw [if_pos h1] at hr
                        (try cbv)
                        apply Hidden.out
                        have e := Option.some.inj hr
                        constructor
                        refine ⟨_, hF, ?_⟩
                        (try cbv); (try simp only [choice_lk, lock_eq, and_self, and_true, true_and]); (try first | exact e | exact e.symm | (and_intros <;> first | assumption | rfl | exact Eq.symm (by assumption)))
                      · have h1 : (ieq x1 x2) = false := by first | exact h | (have h2 := h; simp only [choice_lk, lock_eq] at h2; exact h2) | (simp only [choice_lk, lock_eq] at h; exact h)
                        rw [if_neg (by rw [h1]; exact Bool.false_ne_true)] at hr
                        (try cbv)
                        refine sel_intro (fun h => ?_) (fun h => ?_)
                        · have h1 : (ilt (ofN (xlen t3)) (ofN (xlen t2))) = true := by first | exact h | (have h2 := h; simp only [choice_lk, lock_eq] at h2; exact h2) | (simp only [choice_lk, lock_eq] at h; exact h)
                          rw [if_pos h1] at hr
                          (try cbv)
                          apply Hidden.out
                          have e := Option.some.inj hr
                          constructor
                          refine ⟨_, hF, ?_⟩
                          (try cbv); (try simp only [choice_lk, lock_eq, and_self, and_true, true_and]); (try first | exact e | exact e.symm | (and_intros <;> first | assumption | rfl | exact Eq.symm (by assumption)))
                        · have h1 : (ilt (ofN (xlen t3)) (ofN (xlen t2))) = false := by first | exact h | (have h2 := h; simp only [choice_lk, lock_eq] at h2; exact h2) | (simp only [choice_lk, lock_eq] at h; exact h)
                          rw [if_neg (by rw [h1]; exact Bool.false_ne_true)] at hr
                          (try cbv)
                          have gg := guard_inv hr
                          have g := gg.1
                          replace hr := gg.2
                          clear gg
                          refine ⟨obl.2 (by first | (simp only [choice_lk, lock_eq, R.len, R.sub]; exact g) | exact g), ?_⟩
                          apply Hidden.out
                          have e := Option.some.inj hr
                          constructor
                          refine ⟨_, hF, ?_⟩
                          (try cbv); (try simp only [choice_lk, lock_eq, and_self, and_true, true_and]); (try first | exact e | exact e.symm | (and_intros <;> first | assumption | rfl | exact Eq.symm (by assumption)))
                · rw [if_neg (by rw [h1]; exact Bool.false_ne_true)] at hr
                  have h2 : (lock ieq y3 (0 : Int)) = false := by simp only [lock_eq]; exact h1
                  simp only [relock, h2]
                  (try cbv)
                  rcases Bool.eq_false_or_eq_true (ieq y1 (0 : Int)) with h1 | h1
                  · rw [if_pos h1] at hr
                    have h2 : (lock ieq y1 (0 : Int)) = true := by simp only [lock_eq]; exact h1
                    simp only [relock, h2]
                    (try cbv)
                    refine sel_intro (fun h => ?_) (fun h => ?_)
                    · have h1 : (ieq y2 (0 : Int)) = false := by first | exact (bnot_t.1 h) | (have h2 := (bnot_t.1 h); simp only [choice_lk, lock_eq] at h2; exact h2) | (simp only [choice_lk, lock_eq] at h; exact (bnot_t.1 h))
                      rw [if_neg (by rw [h1]; exact Bool.false_ne_true)] at hr
                      (try cbv)
                      apply Hidden.out
                      have e := Option.some.inj hr
                      constructor
                      refine ⟨_, hF, ?_⟩
                      (try cbv); (try simp only [choice_lk, lock_eq, and_self, and_true, true_and]); (try first | exact e | exact e.symm | (and_intros <;> first | assumption | rfl | exact Eq.symm (by assumption)))
                    · have h1 : (ieq y2 (0 : Int)) = true := by first | exact (bnot_f.1 h) | (have h2 := (bnot_f.1 h); simp only [choice_lk, lock_eq] at h2; exact h2) | (simp only [choice_lk, lock_eq] at h; exact (bnot_f.1 h))
                      rw [if_pos h1] at hr
                      (try cbv)
                      have hqe : ∃ qq, F_varint_Put x1 = some qq := by
                        cases hq : F_varint_Put x1 with
                        | none => rw [hq] at hr; cases hr
                        | some qq => exact ⟨qq, rfl⟩
                      refine ⟨obl.2 (by simp only [choice_lk, lock_eq]; exact hqe), (by rintro (_) _ <;> cbv), ?_⟩
                      clear hqe
                      intro t4 hx6
                      simp only [choice_lk, lock_eq] at hx6
                      all_goals (rw [hx6] at hr; dsimp only at hr; constructor; (try cbv))
                      have hqe : ∃ qq, F_varint_Put x2 = some qq := by
                        cases hq : F_varint_Put x2 with
                        | none => rw [hq] at hr; cases hr
                        | some qq => exact ⟨qq, rfl⟩
                      refine ⟨obl.2 (by simp only [choice_lk, lock_eq]; exact hqe), (by rintro (_) _ <;> cbv), ?_⟩
                      clear hqe
                      intro t5 hx7
                      simp only [choice_lk, lock_eq] at hx7
                      all_goals (rw [hx7] at hr; dsimp only at hr; constructor; (try cbv))
                      refine sel_intro (fun h => ?_) (fun h => ?_)
                      · have h1 : (beq2 (seq t4 t5) (ieq x1 x2)) = false := by first | exact (bnot_t.1 h) | (have h2 := (bnot_t.1 h); simp only [choice_lk, lock_eq] at h2; exact h2) | (simp only [choice_lk, lock_eq] at h; exact (bnot_t.1 h))
                        rw [if_neg (by rw [h1]; exact Bool.false_ne_true)] at hr
                        (try cbv)
                        apply Hidden.out
                        have e := Option.some.inj hr
                        constructor
                        refine ⟨_, hF, ?_⟩
                        (try cbv); (try simp only [choice_lk, lock_eq, and_self, and_true, true_and]); (try first | exact e | exact e.symm | (and_intros <;> first | assumption | rfl | exact Eq.symm (by assumption)))
                      · have h1 : (beq2 (seq t4 t5) (ieq x1 x2)) = true := by first | exact (bnot_f.1 h) | (have h2 := (bnot_f.1 h); simp only [choice_lk, lock_eq] at h2; exact h2) | (simp only [choice_lk, lock_eq] at h; exact (bnot_f.1 h))
                        rw [if_pos h1] at hr
                        (try cbv)
                        refine sel_intro (fun h => ?_) (fun h => ?_)
                        · have h1 : (ilt x1 x2) = true := by first | exact h | (have h2 := h; simp only [choice_lk, lock_eq] at h2; exact h2) | (simp only [choice_lk, lock_eq] at h; exact h)
                          rw [if_pos h1] at hr
                          (try cbv)
                          refine sel_intro (fun h => ?_) (fun h => ?_)
                          · have h1 : (ilt (ofN (xlen t5)) (ofN (xlen t4))) = true := by first | exact h | (have h2 := h; simp only [choice_lk, lock_eq] at h2; exact h2) | (simp only [choice_lk, lock_eq] at h; exact h)
                            rw [if_pos h1] at hr
                            (try cbv)
                            apply Hidden.out
                            have e := Option.some.inj hr
                            constructor
                            refine ⟨_, hF, ?_⟩
                            (try cbv); (try simp only [choice_lk, lock_eq, and_self, and_true, true_and]); (try first | exact e | exact e.symm | (and_intros <;> first | assumption | rfl | exact Eq.symm (by assumption)))
                          · have h1 : (ilt (ofN (xlen t5)) (ofN (xlen t4))) = false := by first | exact h | (have h2 := h; simp only [choice_lk, lock_eq] at h2; exact h2) | (simp only [choice_lk, lock_eq] at h; exact h)
                            rw [if_neg (by rw [h1]; exact Bool.false_ne_true)] at hr
                            (try cbv)
                            refine sel_intro (fun h => ?_) (fun h => ?_)
                            · have h1 : (ieq x1 x2) = true := by first | exact h | (have h2 := h; simp only [choice_lk, lock_eq] at h2; exact h2) | (simp only [choice_lk, lock_eq] at h; exact h)
                              rw [if_pos h1] at hr
                              (try cbv)
                              apply Hidden.out
                              have e := Option.some.inj hr
                              constructor
                              refine ⟨_, hF, ?_⟩
                              (try cbv); (try simp only [choice_lk, lock_eq, and_self, and_true, true_and]); (try first | exact e | exact e.symm | (and_intros <;> first | assumption | rfl | exact Eq.symm (by assumption)))
                            · have h1 : (ieq x1 x2) = false := by first | exact h | (have h2 := h; simp only [choice_lk, lock_eq] at h2; exact h2) | (simp only [choice_lk, lock_eq] at h; exact h)
                              rw [if_neg (by rw [h1]; exact Bool.false_ne_true)] at hr
                              (try cbv)
                              refine sel_intro (fun h => ?_) (fun h => ?_)
                              · have h1 : (ilt (ofN (xlen t5)) (ofN (xlen t4))) = true := by first | exact h | (have h2 := h; simp only [choice_lk, lock_eq] at h2; exact h2) | (simp only [choice_lk, lock_eq] at h; exact h)
                                rw [if_pos h1] at hr
                                (try cbv)
                                apply Hidden.out
                                have e := Option.some.inj hr
                                constructor
                                refine ⟨_, hF, ?_⟩
                                (try cbv); (try simp only [choice_lk, lock_eq, and_self, and_true, true_and]); (try first | exact e | exact e.symm | (and_intros <;> first | assumption | rfl | exact Eq.symm (by assumption)))
                              · have h1 : (ilt (ofN (xlen t5)) (ofN (xlen t4))) = false := by first | exact h | (have h2 := h; simp only [choice_lk, lock_eq] at h2; exact h2) | (simp only [choice_lk, lock_eq] at h; exact h)
                                rw [if_neg (by rw [h1]; exact Bool.false_ne_true)] at hr
                                (try cbv)
                                have gg := guard_inv hr
                                have g := gg.1
                                replace hr := gg.2
                                clear gg
                                refine ⟨obl.2 (by first | (simp only [choice_lk, lock_eq, R.len, R.sub]; exact g) | exact g), ?_⟩
                                apply Hidden.out
                                have e := Option.some.inj hr
                                constructor
                                refine ⟨_, hF, ?_⟩
                                (try cbv); (try simp only [choice_lk, lock_eq, and_self, and_true, true_and]); (try first | exact e | exact e.symm | (and_intros <;> first | assumption | rfl | exact Eq.symm (by assumption)))
                        · have h1 : (ilt x1 x2) = false := by first | exact h | (have h2 := h; simp only [choice_lk, lock_eq] at h2; exact h2) | (simp only [choice_lk, lock_eq] at h; exact h)
                          rw [if_neg (by rw [h1]; exact Bool.false_ne_true)] at hr
                          (try cbv)
                          refine sel_intro (fun h => ?_) (fun h => ?_)
                          · have h1 : (ieq x1 x2) = true := by first | exact h | (have h2 := h; simp only [choice_lk, lock_eq] at h2; exact h2) | (simp only [choice_lk, lock_eq] at h; exact h)
                            rw [if_pos h1] at hr
                            (try cbv)
                            apply Hidden.out
                            have e := Option.some.inj hr
                            constructor
                            refine ⟨_, hF, ?_⟩
                            (try cbv); (try simp only [choice_lk, lock_eq, and_self, and_true, true_and]); (try first | exact e | exact e.symm | (and_intros <;> first | assumption | rfl | exact Eq.symm (by assumption)))
                          · have h1 : (ieq x1 x2) = false := by first | exact h | (have h2 := h; simp only [choice_lk, lock_eq] at h2; exact h2) | (simp only [choice_lk, lock_eq] at h; exact h)
                            rw [if_neg (by rw [h1]; exact Bool.false_ne_true)] at hr
                            (try cbv)
                            refine sel_intro (fun h => ?_) (fun h => ?_)
                            · have h1 : (ilt (ofN (xlen t5)) (ofN (xlen t4))) = true := by first | exact h | (have h2 := h; simp only [choice_lk, lock_eq] at h2; exact h2) | (simp only [choice_lk, lock_eq] at h; exact h)
                              rw [if_pos h1] at hr
                              (try cbv)
                              apply Hidden.out
                              have e := Option.some.inj hr
                              constructor
                              refine ⟨_, hF, ?_⟩
                              (try cbv); (try simp only [choice_lk, lock_eq, and_self, and_true, true_and]); (try first | exact e | exact e.symm | (and_intros <;> first | assumption | rfl | exact Eq.symm (by assumption)))
                            · have h1 : (ilt (ofN (xlen t5)) (ofN (xlen t4))) = false := by first | exact h | (have h2 := h; simp only [choice_lk, lock_eq] at h2; exact h2) | (simp only [choice_lk, lock_eq] at h; exact h)
                              rw [if_neg (by rw [h1]; exact Bool.false_ne_true)] at hr
                              (try cbv)
                              have gg := guard_inv hr
                              have g := gg.1
                              replace hr := gg.2
                              clear gg
                              refine ⟨obl.2 (by first | (simp only [choice_lk, lock_eq, R.len, R.sub]; exact g) | exact g), ?_⟩
                              apply Hidden.out
                              have e := Option.some.inj hr
                              constructor
                              refine ⟨_, hF, ?_⟩
                              (try cbv); (try simp only [choice_lk, lock_eq, and_self, and_true, true_and]); (try first | exact e | exact e.symm | (and_intros <;> first | assumption | rfl | exact Eq.symm (by assumption)))
                  · rw [if_neg (by rw [h1]; exact Bool.false_ne_true)] at hr
                    have h2 : (lock ieq y1 (0 : Int)) = false := by simp only [lock_eq]; exact h1
                    simp only [relock, h2]
                    (try cbv)
                    apply Hidden.out
                    have e := Option.some.inj hr
                    constructor
                    refine ⟨_, hF, ?_⟩
                    (try cbv); (try simp only [choice_lk, lock_eq, and_self, and_true, true_and]); (try first | exact e | exact e.symm | (and_intros <;> first | assumption | rfl | exact Eq.symm (by assumption)))
              · rw [if_neg (by rw [h1]; exact Bool.false_ne_true)] at hr
                have h2 : (lock seq t1 (lock (@lsub UInt8) s1 0 (lock toN y2))) = false := by simp only [lock_eq]; exact h1
                simp only [relock, h2]
                (try cbv)
                apply Hidden.out
                have e := Option.some.inj hr
                constructor
                refine ⟨_, hF, ?_⟩
                (try cbv); (try simp only [choice_lk, lock_eq, and_self, and_true, true_and]); (try first | exact e | exact e.symm | (and_intros <;> first | assumption | rfl | exact Eq.symm (by assumption)))
        · rw [if_neg (by rw [h1]; exact Bool.false_ne_true)] at hr
          have h2 : (lock ieq y3 (0 : Int)) = false := by simp only [lock_eq]; exact h1
          simp only [relock, h2]
          (try cbv)
          rcases Bool.eq_false_or_eq_true (ieq y3 (0 : Int)) with h1 | h1
          · rw [if_pos h1] at hr
            have h2 : (lock ieq y3 (0 : Int)) = true := by simp only [lock_eq]; exact h1
            simp only [relock, h2]
            (try cbv)
            have hqe : ∃ qq, F_varint_Put x1 = some qq := by
              cases hq : F_varint_Put x1 with
              | none => rw [hq] at hr; cases hr
              | some qq => exact ⟨qq, rfl⟩
            refine ⟨obl.2 (by simp only [choice_lk, lock_eq]; exact hqe), (by rintro (_) _ <;> cbv), ?_⟩
            clear hqe
            intro t6 hx8
            simp only [choice_lk, lock_eq] at hx8
            all_goals (rw [hx8] at hr; dsimp only at hr; constructor; (try cbv))
            have hqe : ∃ qq, F_varint_Put x2 = some qq := by
              cases hq : F_varint_Put x2 with
              | none => rw [hq] at hr; cases hr
              | some qq => exact ⟨qq, rfl⟩
            refine ⟨obl.2 (by simp only [choice_lk, lock_eq]; exact hqe), (by rintro (_) _ <;> cbv), ?_⟩
            clear hqe
            intro t7 hx9
            simp only [choice_lk, lock_eq] at hx9
            all_goals (rw [hx9] at hr; dsimp only at hr; constructor; (try cbv))
            refine sel_intro (fun h => ?_) (fun h => ?_)
            · have h1 : (beq2 (seq t6 t7) (ieq x1 x2)) = false := by first | exact (bnot_t.1 h) | (have h2 := (bnot_t.1 h); simp only [choice_lk, lock_eq] at h2; exact h2) | (simp only [choice_lk, lock_eq] at h; exact (bnot_t.1 h))
              rw [if_neg (by rw [h1]; exact Bool.false_ne_true)] at hr
              (try cbv)
              apply Hidden.out
              have e := Option.some.inj hr
              constructor
              refine ⟨_, hF, ?_⟩
              (try cbv); (try simp only [choice_lk, lock_eq, and_self, and_true, true_and]); (try first | exact e | exact e.symm | (and_intros <;> first | assumption | rfl | exact Eq.symm (by assumption)))
            · have h1 : (beq2 (seq t6 t7) (ieq x1 x2)) = true := by first | exact (bnot_f.1 h) | (have h2 := (bnot_f.1 h); simp only [choice_lk, lock_eq] at h2; exact h2) | (simp only [choice_lk, lock_eq] at h; exact (bnot_f.1 h))
              rw [if_pos h1] at hr
              (try cbv)
              refine sel_intro (fun h => ?_) (fun h => ?_)
              · have h1 : (ilt x1 x2) = true := by first | exact h | (have h2 := h; simp only [choice_lk, lock_eq] at h2; exact h2) | (simp only [choice_lk, lock_eq] at h; exact h)
                rw [if_pos h1] at hr
                (try cbv)
                refine sel_intro (fun h => ?_) (fun h => ?_)
                · have h1 : (ilt (ofN (xlen t7)) (ofN (xlen t6))) = true := by first | exact h | (have h2 := h; simp only [choice_lk, lock_eq] at h2; exact h2) | (simp only [choice_lk, lock_eq] at h; exact h)
                  rw [if_pos h1] at hr
                  (try cbv)
                  apply Hidden.out
                  have e := Option.some.inj hr
                  constructor
                  refine ⟨_, hF, ?_⟩
                  (try cbv); (try simp only [choice_lk, lock_eq, and_self, and_true, true_and]); (try first | exact e | exact e.symm | (and_intros <;> first | assumption | rfl | exact Eq.symm (by assumption)))
                · have h1 : (ilt (ofN (xlen t7)) (ofN (xlen t6))) = false := by first | exact h | (have h2 := h; simp only [choice_lk, lock_eq] at h2; exact h2) | (simp only [choice_lk, lock_eq] at h; exact h)
                  rw [if_neg (by rw [h1]; exact Bool.false_ne_true)] at hr
                  (try cbv)
                  refine sel_intro (fun h => ?_) (fun h => ?_)
                  · have h1 : (ieq x1 x2) = true := by first | exact h | (have h2 := h; simp only [choice_lk, lock_eq] at h2; exact h2) | (simp only [choice_lk, lock_eq] at h; exact h)
                    rw [if_pos h1] at hr
                    (try cbv)
                    apply Hidden.out
                    have e := Option.some.inj hr
                    constructor
                    refine ⟨_, hF, ?_⟩
                    (try cbv); (try simp only [choice_lk, lock_eq, and_self, and_true, true_and]); (try first | exact e | exact e.symm | (and_intros <;> first | assumption | rfl | exact Eq.symm (by assumption)))
                  · have h1 : (ieq x1 x2) = false := by first | exact h | (have h2 := h; simp only [choice_lk, lock_eq] at h2; exact h2) | (simp only [choice_lk, lock_eq] at h; exact h)
                    rw [if_neg (by rw [h1]; exact Bool.false_ne_true)] at hr
                    (try cbv)
                    refine sel_intro (fun h => ?_) (fun h => ?_)
                    · have h1 : (ilt (ofN (xlen t7)) (ofN (xlen t6))) = true := by first | exact h | (have h2 := h; simp only [choice_lk, lock_eq] at h2; exact h2) | (simp only [choice_lk, lock_eq] at h; exact h)
                      rw [if_pos h1] at hr
                      (try cbv)
                      apply Hidden.out
                      have e := Option.some.inj hr
                      constructor
                      refine ⟨_, hF, ?_⟩
                      (try cbv); (try simp only [choice_lk, lock_eq, and_self, and_true, true_and]); (try first | exact e | exact e.symm | (and_intros <;> first | assumption | rfl | exact Eq.symm (by assumption)))
                    · have h1 : (ilt (ofN (xlen t7)) (ofN (xlen t6))) = false := by first | exact h | (have h2 := h; simp only [choice_lk, lock_eq] at h2; exact h2) | (simp only [choice_lk, lock_eq] at h; exact h)
                      rw [if_neg (by rw [h1]; exact Bool.false_ne_true)] at hr
                      (try cbv)
                      have gg := guard_inv hr
                      have g := gg.1
                      replace hr := gg.2
                      clear gg
                      refine ⟨obl.2 (by first | (simp only [choice_lk, lock_eq, R.len, R.sub]; exact g) | exact g), ?_⟩
                      apply Hidden.out
                      have e := Option.some.inj hr
                      constructor
                      refine ⟨_, hF, ?_⟩
                      (try cbv); (try simp only [choice_lk, lock_eq, and_self, and_true, true_and]); (try first | exact e | exact e.symm | (and_intros <;> first | assumption | rfl | exact Eq.symm (by assumption)))
              · have h1 : (ilt x1 x2) = false := by first | exact h | (have h2 := h; simp only [choice_lk, lock_eq] at h2; exact h2) | (simp only [choice_lk, lock_eq] at h; exact h)
                rw [if_neg (by rw [h1]; exact Bool.false_ne_true)] at hr
                (try cbv)
                refine sel_intro (fun h => ?_) (fun h => ?_)
                · have h1 : (ieq x1 x2) = true := by first | exact h | (have h2 := h; simp only [choice_lk, lock_eq] at h2; exact h2) | (simp only [choice_lk, lock_eq] at h; exact h)
                  rw [if_pos h1] at hr
                  (try cbv)
                  apply Hidden.out
                  have e := Option.some.inj hr
                  constructor
                  refine ⟨_, hF, ?_⟩
                  (try cbv); (try simp only [choice_lk, lock_eq, and_self, and_true, true_and]); (try first | exact e | exact e.symm | (and_intros <;> first | assumption | rfl | exact Eq.symm (by assumption)))
                · have h1 : (ieq x1 x2) = false := by first | exact h | (have h2 := h; simp only [choice_lk, lock_eq] at h2; exact h2) | (simp only [choice_lk, lock_eq] at h; exact h)
                  rw [if_neg (by rw [h1]; exact Bool.false_ne_true)] at hr
                  (try cbv)
                  refine sel_intro (fun h => ?_) (fun h => ?_)
                  · have h1 : (ilt (ofN (xlen t7)) (ofN (xlen t6))) = true := by first | exact h | (have h2 := h; simp only [choice_lk, lock_eq] at h2; exact h2) | (simp only [choice_lk, lock_eq] at h; exact h)
                    rw [if_pos h1] at hr
                    (try cbv)
                    apply Hidden.out
                    have e := Option.some.inj hr
                    constructor
                    refine ⟨_, hF, ?_⟩
                    (try cbv); (try simp only [choice_lk, lock_eq, and_self, and_true, true_and]); (try first | exact e | exact e.symm | (and_intros <;> first | assumption | rfl | exact Eq.symm (by assumption)))
                  · have h1 : (ilt (ofN (xlen t7)) (ofN (xlen t6))) = false := by first | exact h | (have h2 := h; simp only [choice_lk, lock_eq] at h2; exact h2) | (simp only [choice_lk, lock_eq] at h; exact h)
                    rw [if_neg (by rw [h1]; exact Bool.false_ne_true)] at hr
                    (try cbv)
                    have gg := guard_inv hr
                    have g := gg.1
                    replace hr := gg.2
                    clear gg
                    refine ⟨obl.2 (by first | (simp only [choice_lk, lock_eq, R.len, R.sub]; exact g) | exact g), ?_⟩
                    apply Hidden.out
                    have e := Option.some.inj hr
                    constructor
                    refine ⟨_, hF, ?_⟩
                    (try cbv); (try simp only [choice_lk, lock_eq, and_self, and_true, true_and]); (try first | exact e | exact e.symm | (and_intros <;> first | assumption | rfl | exact Eq.symm (by assumption)))
          · rw [if_neg (by rw [h1]; exact Bool.false_ne_true)] at hr
            have h2 : (lock ieq y3 (0 : Int)) = false := by simp only [lock_eq]; exact h1
            simp only [relock, h2]
            (try cbv)
            rcases Bool.eq_false_or_eq_true (ieq y1 (0 : Int)) with h1 | h1
            · rw [if_pos h1] at hr
              have h2 : (lock ieq y1 (0 : Int)) = true := by simp only [lock_eq]; exact h1
              simp only [relock, h2]
              (try cbv)
              refine sel_intro (fun h => ?_) (fun h => ?_)
              · have h1 : (ieq y2 (0 : Int)) = false := by first | exact (bnot_t.1 h) | (have h2 := (bnot_t.1 h); simp only [choice_lk, lock_eq] at h2; exact h2) | (simp only [choice_lk, lock_eq] at h; exact (bnot_t.1 h))
                rw [if_neg (by rw [h1]; exact Bool.false_ne_true)] at hr
                (try cbv)
                apply Hidden.out
                have e := Option.some.inj hr
                constructor
                refine ⟨_, hF, ?_⟩
                (try cbv); (try simp only [choice_lk, lock_eq, and_self, and_true, true_and]); (try first | exact e | exact e.symm | (and_intros <;> first | assumption | rfl | exact Eq.symm (by assumption)))
              · have h1 : (ieq y2 (0 : Int)) = true := by first | exact (bnot_f.1 h) | (have h2 := (bnot_f.1 h); simp only [choice_lk, lock_eq] at h2; exact h2) | (simp only [choice_lk, lock_eq] at h; exact (bnot_f.1 h))
                rw [if_pos h1] at hr
                (try cbv)
                have hqe : ∃ qq, F_varint_Put x1 = some qq := by
                  cases hq : F_varint_Put x1 with
                  | none => rw [hq] at hr; cases hr
                  | some qq => exact ⟨qq, rfl⟩
                refine ⟨obl.2 (by simp only [choice_lk, lock_eq]; exact hqe), (by rintro (_) _ <;> cbv), ?_⟩
                clear hqe
                intro t8 hx10
                simp only [choice_lk, lock_eq] at hx10
                all_goals (rw [hx10] at hr; dsimp only at hr; constructor; (try cbv))
                have hqe : ∃ qq, F_varint_Put x2 = some qq := by
                  cases hq : F_varint_Put x2 with
                  | none => rw [hq] at hr; cases hr
                  | some qq => exact ⟨qq, rfl⟩
                refine ⟨obl.2 (by simp only [choice_lk, lock_eq]; exact hqe), (by rintro (_) _ <;> cbv), ?_⟩
                clear hqe
                intro t9 hx11
                simp only [choice_lk, lock_eq] at hx11
                all_goals (rw [hx11] at hr; dsimp only at hr; constructor; (try cbv))
                refine sel_intro (fun h => ?_) (fun h => ?_)
                · have h1 : (beq2 (seq t8 t9) (ieq x1 x2)) = false := by first | exact (bnot_t.1 h) | (have h2 := (bnot_t.1 h); simp only [choice_lk, lock_eq] at h2; exact h2) | (simp only [choice_lk, lock_eq] at h; exact (bnot_t.1 h))
                  rw [if_neg (by rw [h1]; exact Bool.false_ne_true)] at hr
                  (try cbv)
                  apply Hidden.out
                  have e := Option.some.inj hr
                  constructor
                  refine ⟨_, hF, ?_⟩
                  (try cbv); (try simp only [choice_lk, lock_eq, and_self, and_true, true_and]); (try first | exact e | exact e.symm | (and_intros <;> first | assumption | rfl | exact Eq.symm (by assumption)))
                · have h1 : (beq2 (seq t8 t9) (ieq x1 x2)) = true := by first | exact (bnot_f.1 h) | (have h2 := (bnot_f.1 h); simp only [choice_lk, lock_eq] at h2; exact h2) | (simp only [choice_lk, lock_eq] at h; exact (bnot_f.1 h))
                  rw [if_pos h1] at hr
                  (try cbv)
                  refine sel_intro (fun h => ?_) (fun h => ?_)
                  · have h1 : (ilt x1 x2) = true := by first | exact h | (have h2 := h; simp only [choice_lk, lock_eq] at h2; exact h2) | (simp only [choice_lk, lock_eq] at h; exact h)
                    rw [if_pos h1] at hr
                    (try cbv)
                    refine sel_intro (fun h => ?_) (fun h => ?_)
                    · have h1 : (ilt (ofN (xlen t9)) (ofN (xlen t8))) = true := by first | exact h | (have h2 := h; simp only [choice_lk, lock_eq] at h2; exact h2) | (simp only [choice_lk, lock_eq] at h; exact h)
                      rw [if_pos h1] at hr
                      (try cbv)
                      apply Hidden.out
                      have e := Option.some.inj hr
                      constructor
                      refine ⟨_, hF, ?_⟩
                      (try cbv); (try simp only [choice_lk, lock_eq, and_self, and_true, true_and]); (try first | exact e | exact e.symm | (and_intros <;> first | assumption | rfl | exact Eq.symm (by assumption)))
                    · have h1 : (ilt (ofN (xlen t9)) (ofN (xlen t8))) = false := by first | exact h | (have h2 := h; simp only [choice_lk, lock_eq] at h2; exact h2) | (simp only [choice_lk, lock_eq] at h; exact h)
                      rw [if_neg (by rw [h1]; exact Bool.false_ne_true)] at hr
                      (try cbv)
                      refine sel_intro (fun h => ?_) (fun h => ?_)
                      · have h1 : (ieq x1 x2) = true := by first | exact h | (have h2 := h; simp only [choice_lk, lock_eq] at h2; exact h2) | (simp only [choice_lk, lock_eq] at h; exact h)
                        rw [if_pos h1] at hr
                        (try cbv)
                        apply Hidden.out
                        have e := Option.some.inj hr
                        constructor
                        refine ⟨_, hF, ?_⟩
                        (try cbv); (try simp only [choice_lk, lock_eq, and_self, and_true, true_and]); (try first | exact e | exact e.symm | (and_intros <;> first | assumption | rfl | exact Eq.symm (by assumption)))
                      · have h1 : (ieq x1 x2) = false := by first | exact h | (have h2 := h; simp only [choice_lk, lock_eq] at h2; exact h2) | (simp only [choice_lk, lock_eq] at h; exact h)
                        rw [if_neg (by rw [h1]; exact Bool.false_ne_true)] at hr
                        (try cbv)
                        refine sel_intro (fun h => ?_) (fun h => ?_)
                        · have h1 : (ilt (ofN (xlen t9)) (ofN (xlen t8))) = true := by first | exact h | (have h2 := h; simp only [choice_lk, lock_eq] at h2; exact h2) | (simp only [choice_lk, lock_eq] at h; exact h)
                          rw [if_pos h1] at hr
                          (try cbv)
                          apply Hidden.out
                          have e := Option.some.inj hr
                          constructor
                          refine ⟨_, hF, ?_⟩
                          (try cbv); (try simp only [choice_lk, lock_eq, and_self, and_true, true_and]); (try first | exact e | exact e.symm | (and_intros <;> first | assumption | rfl | exact Eq.symm (by assumption)))
                        · have h1 : (ilt (ofN (xlen t9)) (ofN (xlen t8))) = false := by first | exact h | (have h2 := h; simp only [choice_lk, lock_eq] at h2; exact h2) | (simp only [choice_lk, lock_eq] at h; exact h)
                          rw [if_neg (by rw [h1]; exact Bool.false_ne_true)] at hr
                          (try cbv)
                          have gg := guard_inv hr
                          have g := gg.1
                          replace hr := gg.2
                          clear gg
                          refine ⟨obl.2 (by first | (simp only [choice_lk, lock_eq, R.len, R.sub]; exact g) | exact g), ?_⟩
                          apply Hidden.out
                          have e := Option.some.inj hr
                          constructor
                          refine ⟨_, hF, ?_⟩
                          (try cbv); (try simp only [choice_lk, lock_eq, and_self, and_true, true_and]); (try first | exact e | exact e.symm | (and_intros <;> first | assumption | rfl | exact Eq.symm (by assumption)))
                  · have h1 : (ilt x1 x2) = false := by first | exact h | (have h2 := h; simp only [choice_lk, lock_eq] at h2; exact h2) | (simp only [choice_lk, lock_eq] at h; exact h)
                    rw [if_neg (by rw [h1]; exact Bool.false_ne_true)] at hr
                    (try cbv)
                    refine sel_intro (fun h => ?_) (fun h => ?_)
                    · have h1 : (ieq x1 x2) = true := by first | exact h | (have h2 := h; simp only [choice_lk, lock_eq] at h2; exact h2) | (simp only [choice_lk, lock_eq] at h; exact h)
                      rw [if_pos h1] at hr
                      (try cbv)
                      apply Hidden.out
                      have e := Option.some.inj hr
                      constructor
                      refine ⟨_, hF, ?_⟩
                      (try cbv); (try simp only [choice_lk, lock_eq, and_self, and_true, true_and]); (try first | exact e | exact e.symm | (and_intros <;> first | assumption | rfl | exact Eq.symm (by assumption)))
                    · have h1 : (ieq x1 x2) = false := by first | exact h | (have h2 := h; simp only [choice_lk, lock_eq] at h2; exact h2) | (simp only [choice_lk, lock_eq] at h; exact h)
                      rw [if_neg (by rw [h1]; exact Bool.false_ne_true)] at hr
                      (try cbv)
                      refine sel_intro (fun h => ?_) (fun h => ?_)
                      · have h1 : (ilt (ofN (xlen t9)) (ofN (xlen t8))) = true := by first | exact h | (have h2 := h; simp only [choice_lk, lock_eq] at h2; exact h2) | (simp only [choice_lk, lock_eq] at h; exact h)
                        rw [if_pos h1] at hr
                        (try cbv)
                        apply Hidden.out
                        have e := Option.some.inj hr
                        constructor
                        refine ⟨_, hF, ?_⟩
                        (try cbv); (try simp only [choice_lk, lock_eq, and_self, and_true, true_and]); (try first | exact e | exact e.symm | (and_intros <;> first | assumption | rfl | exact Eq.symm (by assumption)))
                      · have h1 : (ilt (ofN (xlen t9)) (ofN (xlen t8))) = false := by first | exact h | (have h2 := h; simp only [choice_lk, lock_eq] at h2; exact h2) | (simp only [choice_lk, lock_eq] at h; exact h)
                        rw [if_neg (by rw [h1]; exact Bool.false_ne_true)] at hr
                        (try cbv)
                        have gg := guard_inv hr
                        have g := gg.1
                        replace hr := gg.2
                        clear gg
                        refine ⟨obl.2 (by first | (simp only [choice_lk, lock_eq, R.len, R.sub]; exact g) | exact g), ?_⟩
                        apply Hidden.out
                        have e := Option.some.inj hr
                        constructor
                        refine ⟨_, hF, ?_⟩
                        (try cbv); (try simp only [choice_lk, lock_eq, and_self, and_true, true_and]); (try first | exact e | exact e.symm | (and_intros <;> first | assumption | rfl | exact Eq.symm (by assumption)))
            · rw [if_neg (by rw [h1]; exact Bool.false_ne_true)] at hr
              have h2 : (lock ieq y1 (0 : Int)) = false := by simp only [lock_eq]; exact h1
              simp only [relock, h2]
              (try cbv)
              apply Hidden.out
              have e := Option.some.inj hr
              constructor
              refine ⟨_, hF, ?_⟩
              (try cbv); (try simp only [choice_lk, lock_eq, and_self, and_true, true_and]); (try first | exact e | exact e.symm | (and_intros <;> first | assumption | rfl | exact Eq.symm (by assumption)))
end Go.Proofs.Ytceecjhpegiodaa
end
section
/-
  A walk that reckons: from a contract to what a row asks for.
-/
set_option linter.unusedVariables false
set_option linter.unusedSimpArgs false
namespace Go.Proofs.Ytceecjhpegiodaa
open Go.RowKit

/-- A function that but reads what it is given, and answers true. -/
theorem law_calls {P : Program} {f : FuncId} {con : Con} (h : FnOK P f con) {cargs : List SV} {obs : List Prop} {sm : List Bool} (hc : con.f cargs [] = some ⟨obs, .one (.v (.bool true)) [], sm⟩) (hob : ∀ p ∈ obs, p) {W : World} {args : List Value} (hd : DensA (fun _ => none) W (fun _ => False) cargs args) :
    Calls P f args.toArray W fun e W' => e = .returned (.bool true) ∧ Below W.heap.size W W' := by
  have hO : ∀ b, ¬ Own (fun _ => none) (canon 0 ([] : List Ck)) b := by
    rintro b ⟨id, c, p, h1, h2, h3⟩
    cases h2
  have hS : HSat (ctxOf W (fun _ => False) (fun _ => none) []) (fun _ => none) (canon 0 []) (fun i => ([] : List Ck).length ≤ i) W := by
    refine ⟨fun id c hc => by simp [canon, hget] at hc, fun i j c d p q b h1 => by simp [canon, hget] at h1, fun b hb => absurd hb (hO b), rfl, rfl, rfl, Nat.le_refl _, fun _ _ _ => rfl, fun b hb => hb.elim, fun _ _ => rfl, fun id hid => rfl⟩
  have hA : Avo (ctxOf W (fun _ => False) (fun _ => none) []) (fun _ => none) (canon 0 []) = fun _ => False := by
    funext b
    simp only [Avo, ctxOf, false_or, eq_iff_iff, iff_false]
    exact hO b
  have key := h cargs [] _ hc hob (fun _ => False) (fun _ => none) W args hS (by rw [hA]; exact hd)
  refine key.mono ?_
  rintro e W' ⟨u, PL', rfl, H, D⟩
  cases D
  refine ⟨rfl, ?_⟩
  exact ⟨H.os, H.tape, H.output, H.size, fun k hk => H.old k hk (hO k)⟩

/-- The same, by a contract that leaves open what it yields. -/
theorem law_many {P : Program} {f : FuncId} {con : Con} (h : FnOK P f con) {cargs : List SV} {obs : List Prop} {X : Type} {Pr : X → Prop} {v : X → SV} {post : X → List PostC} {sm : List Bool} (hc : con.f cargs [] = some ⟨obs, .many X Pr v post, sm⟩) (hob : ∀ p ∈ obs, p) (hv : ∀ x, Pr x → v x = .v (.bool true) ∧ post x = []) {W : World} {args : List Value} (hd : DensA (fun _ => none) W (fun _ => False) cargs args) :
    Calls P f args.toArray W fun e W' => e = .returned (.bool true) ∧ Below W.heap.size W W' := by
  have hO : ∀ b, ¬ Own (fun _ => none) (canon 0 ([] : List Ck)) b := by
    rintro b ⟨id, c, p, h1, h2, h3⟩
    cases h2
  have hS : HSat (ctxOf W (fun _ => False) (fun _ => none) []) (fun _ => none) (canon 0 []) (fun i => ([] : List Ck).length ≤ i) W := by
    refine ⟨fun id c hc => by simp [canon, hget] at hc, fun i j c d p q b h1 => by simp [canon, hget] at h1, fun b hb => absurd hb (hO b), rfl, rfl, rfl, Nat.le_refl _, fun _ _ _ => rfl, fun b hb => hb.elim, fun _ _ => rfl, fun id hid => rfl⟩
  have hA : Avo (ctxOf W (fun _ => False) (fun _ => none) []) (fun _ => none) (canon 0 []) = fun _ => False := by
    funext b
    simp only [Avo, ctxOf, false_or, eq_iff_iff, iff_false]
    exact hO b
  have key := h cargs [] _ hc hob (fun _ => False) (fun _ => none) W args hS (by rw [hA]; exact hd)
  refine key.mono ?_
  rintro e W' ⟨u, PL', rfl, x, hx, H, D⟩
  obtain ⟨e1, e2⟩ := hv x hx
  rw [e1] at D
  cases D
  refine ⟨rfl, ?_⟩
  exact ⟨H.os, H.tape, H.output, H.size, fun k hk => H.old k hk (hO k)⟩
theorem densA_nil {PL : Nat → Option Pl} {w : World} {Av : Nat → Prop} : DensA PL w Av [] [] := ⟨rfl, fun j h1 _ => absurd h1 (by simp)⟩
theorem densA_cons {PL : Nat → Option Pl} {w : World} {Av : Nat → Prop} {x : SV} {l : List SV} {c : Value} {cs : List Value} (h : Den PL w Av x c) (k : DensA PL w Av l cs) : DensA PL w Av (x :: l) (c :: cs) :=
  ⟨by simp [k.1], fun j h1 h2 => by
    cases j with
    | zero => exact h
    | succ j => exact k.2 j (by simpa using h1) (by simpa using h2)⟩
theorem den_str {PL : Nat → Option Pl} {w : World} {Av : Nat → Prop} (b : ByteArray) : Den PL w Av (.str b.data.toList) (.string b) := by
  have := Den.str (PL := PL) (w := w) (Av := Av) b.data.toList
  simpa using this
end Go.Proofs.Ytceecjhpegiodaa
end
section
/-
  The walks of the functions that tollbar/tollbarlaw02.VarintOwn reaches, tied to the program (printed by a program of ours).
-/
set_option linter.unusedVariables false
set_option linter.unusedSimpArgs false
namespace Go.Proofs.Ytceecjhpegiodaa
open Go.RowKit

theorem mixed : Try.prog.follows .mixedOrders = true := by kernel_rfl
theorem tabok_varint_Get : Tab Try.prog tab_varint_Get := Tab.nil _
theorem ok_varint_Get : FnOK Try.prog 8 con_varint_Get := FnOK.of tabok_varint_Get mixed Try.func8 comp_8 (vc_varint_Get _ tabok_varint_Get mixed)
theorem tabok_slices_Clone : Tab Try.prog tab_slices_Clone := Tab.nil _
theorem ok_slices_Clone : FnOK Try.prog 21 con_slices_Clone := FnOK.of tabok_slices_Clone mixed Try.func21 comp_21 (vc_slices_Clone _ tabok_slices_Clone mixed)
theorem tabok_octet_Open : Tab Try.prog tab_octet_Open := Tab.cons (Tab.nil _) ok_slices_Clone Try.func21 rfl rfl
theorem ok_octet_Open : FnOK Try.prog 13 con_octet_Open := FnOK.of tabok_octet_Open mixed Try.func13 comp_13 (vc_octet_Open _ tabok_octet_Open mixed)
theorem tabok_octet_Window_Err : Tab Try.prog tab_octet_Window_Err := Tab.nil _
theorem ok_octet_Window_Err : FnOK Try.prog 17 con_octet_Window_Err := FnOK.of tabok_octet_Window_Err mixed Try.func17 comp_17 (vc_octet_Window_Err _ tabok_octet_Window_Err mixed)
theorem tabok_octet_Window_Left : Tab Try.prog tab_octet_Window_Left := Tab.nil _
theorem ok_octet_Window_Left : FnOK Try.prog 16 con_octet_Window_Left := FnOK.of tabok_octet_Window_Left mixed Try.func16 comp_16 (vc_octet_Window_Left _ tabok_octet_Window_Left mixed)
theorem tabok_octet_Window_fail : Tab Try.prog tab_octet_Window_fail := Tab.nil _
theorem ok_octet_Window_fail : FnOK Try.prog 23 con_octet_Window_fail := FnOK.of tabok_octet_Window_fail mixed Try.func23 comp_23 (vc_octet_Window_fail _ tabok_octet_Window_fail mixed)
theorem tabok_octet_Window_Bytes : Tab Try.prog tab_octet_Window_Bytes := Tab.cons (Tab.nil _) ok_octet_Window_fail Try.func23 rfl rfl
theorem ok_octet_Window_Bytes : FnOK Try.prog 18 con_octet_Window_Bytes := FnOK.of tabok_octet_Window_Bytes mixed Try.func18 comp_18 (vc_octet_Window_Bytes _ tabok_octet_Window_Bytes mixed)
theorem tabok_octet_Value : Tab Try.prog tab_octet_Value := Tab.nil _
theorem ok_octet_Value : FnOK Try.prog 26 con_octet_Value := FnOK.of tabok_octet_Value mixed Try.func26 comp_26 (vc_octet_Value _ tabok_octet_Value mixed)
theorem tabok_octet_Window_Num : Tab Try.prog tab_octet_Window_Num := Tab.cons (Tab.cons (Tab.cons (Tab.nil _) ok_octet_Value Try.func26 rfl rfl) ok_octet_Window_Bytes Try.func18 rfl rfl) ok_octet_Window_fail Try.func23 rfl rfl
theorem ok_octet_Window_Num : FnOK Try.prog 25 con_octet_Window_Num := FnOK.of tabok_octet_Window_Num mixed Try.func25 comp_25 (vc_octet_Window_Num _ tabok_octet_Window_Num mixed)
theorem tabok_octet_Window_Byte : Tab Try.prog tab_octet_Window_Byte := Tab.cons (Tab.nil _) ok_octet_Window_Num Try.func25 rfl rfl
theorem ok_octet_Window_Byte : FnOK Try.prog 22 con_octet_Window_Byte := FnOK.of tabok_octet_Window_Byte mixed Try.func22 comp_22 (vc_octet_Window_Byte _ tabok_octet_Window_Byte mixed)
theorem tabok_varint_Take : Tab Try.prog tab_varint_Take := Tab.cons (Tab.cons (Tab.cons (Tab.cons (Tab.cons (Tab.nil _) ok_octet_Window_Bytes Try.func18 rfl rfl) ok_varint_Get Try.func8 rfl rfl) ok_octet_Window_Byte Try.func22 rfl rfl) ok_octet_Window_Left Try.func16 rfl rfl) ok_octet_Window_Err Try.func17 rfl rfl
theorem ok_varint_Take : FnOK Try.prog 14 con_varint_Take := FnOK.of tabok_varint_Take mixed Try.func14 comp_14 (vc_varint_Take _ tabok_varint_Take mixed)
theorem tabok_varint_groups : Tab Try.prog tab_varint_groups := Tab.nil _
theorem ok_varint_groups : FnOK Try.prog 20 con_varint_groups := FnOK.of tabok_varint_groups mixed Try.func20 comp_20 (vc_varint_groups _ tabok_varint_groups mixed)
theorem tabok_varint_Put : Tab Try.prog tab_varint_Put := Tab.cons (Tab.nil _) ok_varint_groups Try.func20 rfl rfl
theorem ok_varint_Put : FnOK Try.prog 10 con_varint_Put := FnOK.of tabok_varint_Put mixed Try.func10 comp_10 (vc_varint_Put _ tabok_varint_Put mixed (ItOK.of Try.func24 comp_24 rfl rfl))
theorem tabok_varint_Len : Tab Try.prog tab_varint_Len := Tab.cons (Tab.nil _) ok_varint_groups Try.func20 rfl rfl
theorem ok_varint_Len : FnOK Try.prog 12 con_varint_Len := FnOK.of tabok_varint_Len mixed Try.func12 comp_12 (vc_varint_Len _ tabok_varint_Len mixed (ItOK.of Try.func24 comp_24 rfl rfl))
theorem tabok_tollbarlaw02_awake : Tab Try.prog tab_tollbarlaw02_awake := Tab.cons (Tab.cons (Tab.cons (Tab.cons (Tab.cons (Tab.nil _) ok_varint_Len Try.func12 rfl rfl) ok_varint_Put Try.func10 rfl rfl) ok_varint_Take Try.func14 rfl rfl) ok_octet_Open Try.func13 rfl rfl) ok_varint_Get Try.func8 rfl rfl
theorem ok_tollbarlaw02_awake : FnOK Try.prog 7 con_tollbarlaw02_awake := FnOK.of tabok_tollbarlaw02_awake mixed Try.func7 comp_7 (vc_tollbarlaw02_awake _ tabok_tollbarlaw02_awake mixed)
theorem tabok_tollbarlaw02_VarintOwn : Tab Try.prog tab_tollbarlaw02_VarintOwn := Tab.cons (Tab.cons (Tab.cons (Tab.nil _) ok_varint_Put Try.func10 rfl rfl) ok_varint_Get Try.func8 rfl rfl) ok_tollbarlaw02_awake Try.func7 rfl rfl
theorem ok_tollbarlaw02_VarintOwn : FnOK Try.prog 6 con_tollbarlaw02_VarintOwn := FnOK.of tabok_tollbarlaw02_VarintOwn mixed Try.func6 comp_6 (vc_tollbarlaw02_VarintOwn _ tabok_tollbarlaw02_VarintOwn mixed)

end Go.Proofs.Ytceecjhpegiodaa
end
section
/-
  A walk that reckons: arguments of any shape, opened.
-/
set_option linter.unusedVariables false
set_option linter.unusedSimpArgs false
namespace Go.Proofs.Ytceecjhpegiodaa
open Go.RowKit Go.ChangeShapes Go.WideShapes Go.Deep

mutual
/-- What is known of data that came in: its numbers fit. -/
def Ty.rng : Ty → D → Prop
  | .int k, d => (Lit.int k d.toI).wf = true
  | .bool, _ => True
  | .str, d => d.toS.length ≤ maxLen
  | .bytes _, d => d.toS.length ≤ maxLen
  | .ints _ k, d => d.toIs.length ≤ maxLen ∧ ∀ x ∈ d.toIs, (Lit.int k x).wf = true
  | .row _ e, d => d.toL.length ≤ maxLen ∧ ∀ x ∈ d.toL, e.rng x
  | .st fs, d => Ty.rngL fs d 0
def Ty.rngL : List Ty → D → Nat → Prop
  | [], _, _ => True
  | t :: ts, d, j => t.rng (d.fld j) ∧ Ty.rngL ts d (j + 1)
end

mutual
/-- Is a type of the program of this kind? -/
def tyChk (P : Program) : Ty → TypeId → Bool
  | .int k, t => match P.underlying t with | some (.int j) => j == k | _ => false
  | .bool, t => match P.underlying t with | some .bool => true | _ => false
  | .str, t => match P.underlying t with | some .string => true | _ => false
  | .bytes T, t => match P.underlying t, P.underlying T with | some (.slice e), some (.int .u8) => Nat.beq e T && Nat.beq (P.cellsOf T) 1 | _, _ => false
  | .ints T k, t => match P.underlying t, P.underlying T with | some (.slice e), some (.int j) => Nat.beq e T && Nat.beq (P.cellsOf T) 1 && j == k | _, _ => false
  | .row T e, t => match P.underlying t with | some (.slice e') => Nat.beq e' T && Nat.beq (P.cellsOf T) e.size && Nat.ble 1 e.size && tyChk P e T | _ => false
  | .st es, t => match P.underlying t with | some (.struct fl) => Nat.beq (P.cellsOf t) (Ty.sizes es) && tysChk P es fl.toList 0 | _ => false
def tysChk (P : Program) : List Ty → List Field → Nat → Bool
  | [], [], _ => true
  | e :: es, f :: fl, o => Nat.beq f.offset o && Nat.beq (P.cellsOf f.type) e.size && tyChk P e f.type && tysChk P es fl (o + e.size)
  | _, _, _ => false
end

section
variable {H : Type} {enc : TypeId × Value → H} {P : Program} {w : World} {base : Nat} {spare : Nat → Bool} {held : Bool}
def PN : Nat → Option Pl := fun _ => none
def AN : Nat → Prop := fun _ => False
/-- A row whose elements are opened. -/
theorem open_row {r : R} {a : Addr} {len cap : Nat} (hr : rlen r = len) (hl : len ≤ cap) (hsz : 0 < r.sz) (hrow : ∀ i, i < len → ∃ cs, cs.length = r.sz ∧ (∀ j, j < r.sz → w.cell? (a.add (i * r.sz + j)) = cs[j]?) ∧ Dens PN w AN (r.elem i) cs) :
    Den PN w AN (.rsl r) (.slice (some a) len cap) := by
  subst hr
  have : ∀ i, ∃ cs : List Value, i < rlen r → cs.length = r.sz ∧ (∀ j, j < r.sz → w.cell? (a.add (i * r.sz + j)) = cs[j]?) ∧ Dens PN w AN (r.elem i) cs := fun i => by
    by_cases h : i < rlen r
    · obtain ⟨cs, h⟩ := hrow i h; exact ⟨cs, fun _ => h⟩
    · exact ⟨[], fun h' => absurd h' h⟩
  obtain ⟨f, hf⟩ := Classical.axiomOfChoice this
  refine .rsl r (some a) cap (fun i j => ((f i)[j]?).getD undef) hl ?_ ?_ ?_
  · intro h0
    obtain ⟨h1, h2, h3⟩ := hf 0 h0
    have hc := h2 0 hsz
    rw [Nat.zero_mul, Nat.zero_add, List.getElem?_eq_getElem (by omega)] at hc
    refine ⟨a, rfl, ?_, fun h => h⟩
    have := World.block_lt_of_cell? w _ hc
    rwa [add_block] at this
  · intro i j ad e hi hj
    injection e with e; subst e
    obtain ⟨h1, h2, h3⟩ := hf i hi
    have hjl : j < (f i).length := by omega
    rw [add_add, h2 j hj, List.getElem?_eq_getElem hjl]
    have hle : (r.elem i).length = (f i).length := h3.1.symm
    exact ⟨rfl, by simpa using (h3.2 j (by omega) hjl).2⟩
  · intro i j hi hj
    obtain ⟨h1, h2, h3⟩ := hf i hi
    have hjl : j < (f i).length := by rw [h3.1]; exact hj
    have := (h3.2 j hj hjl).1
    simpa [List.getElem?_eq_getElem hjl] using this

theorem den1 {v : SV} {c : Value} (h : Den PN w AN v c) (h1 : c.oneCell' = true) : Dens PN w AN [v] [c] := Dens.cons h h1 Dens.nil
/-- Bytes that came in. -/
theorem open_bytes {t T : TypeId} (hu : P.underlying t = some (.slice T)) (he : P.underlying T = some (.int .u8)) (hc : P.cellsOf T = 1) {fuel : Nat} {cs : List Value} {x : DataW H × List MemPlace} (h : DataW.trod enc P w base spare held fuel t cs = some x) :
    ∃ l : List UInt8, l.length ≤ maxLen ∧ Dens PN w AN [.rsl (.bs T l)] cs := by
  rcases open_slice1 hu hc h with ⟨rfl, _⟩ | ⟨a, len, cap, m, n, V, D, Pl, rfl, hb, hl, hm, hmm, _, hi⟩
  · exact ⟨[], by simp, den1 (nil_den rfl .nsl) rfl⟩
  · have hle : len ≤ m := by rw [hmm]; split <;> omega
    have each : ∀ i, ∃ b : UInt8, i < len → w.cell? (a.add i) = some (.int .u8 b.toNat) := fun i => by
      by_cases h : i < len
      · obtain ⟨h1, h2⟩ := hi i (by omega)
        obtain ⟨y, e1, _, e2⟩ := DataW.trod_int he h2
        injection e1 with e1 _
        have hy : 0 ≤ y ∧ y ≤ 255 := by simpa [Lit.wf, IntKind.min, IntKind.max, IntKind.signed, IntKind.bits, Int.lt_add_one_iff, Int.le_sub_one_iff] using e2
        refine ⟨UInt8.ofNat y.toNat, fun _ => ?_⟩
        rw [h1, e1]
        have : ((UInt8.ofNat y.toNat).toNat : Int) = y := by simp; omega
        rw [this]
      · exact ⟨0, fun h' => absurd h' h⟩
    obtain ⟨f, hf⟩ := Classical.axiomOfChoice each
    refine ⟨(List.range len).map f, by simp; omega, den1 (open_row (by simp [rlen]) hl (by show 0 < 1; omega) fun i hi => ⟨[.int .u8 (f i).toNat], rfl, ?_, ?_⟩) rfl⟩
    · intro j hj
      have : j = 0 := by simp [R.sz] at hj; exact hj
      subst this
      simp only [R.sz, Nat.mul_one, Nat.add_zero]
      rw [hf i hi]
      rfl
    · have : getB ((List.range len).map f) i = ((f i).toNat : Int) := by simp [getB, hi]
      simp only [R.elem, lock_eq, this]
      exact den1 (.v _) rfl
/-- Whole numbers that came in. -/
theorem open_intsD {t T : TypeId} {k : IntKind} (hu : P.underlying t = some (.slice T)) (he : P.underlying T = some (.int k)) (hc : P.cellsOf T = 1) {fuel : Nat} {cs : List Value} {x : DataW H × List MemPlace} (h : DataW.trod enc P w base spare held fuel t cs = some x) :
    ∃ l : List Int, l.length ≤ maxLen ∧ (∀ y ∈ l, (Lit.int k y).wf = true) ∧ Dens PN w AN [.rsl (.ints T k l)] cs := by
  rcases open_slice1 hu hc h with ⟨rfl, _⟩ | ⟨a, len, cap, m, n, V, D, Pl, rfl, hb, hl, hm, hmm, _, hi⟩
  · exact ⟨[], by simp, by simp, den1 (nil_den rfl .nsl) rfl⟩
  · have hle : len ≤ m := by rw [hmm]; split <;> omega
    have each : ∀ i, ∃ b : Int, i < len → w.cell? (a.add i) = some (.int k b) ∧ (Lit.int k b).wf = true := fun i => by
      by_cases h : i < len
      · obtain ⟨h1, h2⟩ := hi i (by omega)
        obtain ⟨y, e1, _, e2⟩ := DataW.trod_int he h2
        injection e1 with e1 _
        exact ⟨y, fun _ => ⟨by rw [h1, e1], e2⟩⟩
      · exact ⟨0, fun h' => absurd h' h⟩
    obtain ⟨f, hf⟩ := Classical.axiomOfChoice each
    refine ⟨(List.range len).map f, by simp; omega, ?_, den1 (open_row (by simp [rlen]) hl (by show 0 < 1; omega) fun i hi => ⟨[.int k (f i)], rfl, ?_, ?_⟩) rfl⟩
    · intro y hy
      obtain ⟨i, h1, rfl⟩ := List.mem_map.1 hy
      exact (hf i (List.mem_range.1 h1)).2
    · intro j hj
      have : j = 0 := by simp [R.sz] at hj; exact hj
      subst this
      simp only [R.sz, Nat.mul_one, Nat.add_zero]
      rw [(hf i hi).1]
      rfl
    · have : getI ((List.range len).map f) i = f i := by simp [getI, hi]
      simp only [R.elem, lock_eq, this]
      exact den1 (.v _) rfl
theorem dens_app {a b : List SV} {c d : List Value} (h : Dens PN w AN a c) (k : Dens PN w AN b d) : Dens PN w AN (a ++ b) (c ++ d) := by
  refine ⟨by simp [h.1, k.1], fun j h1 h2 => ?_⟩
  by_cases hj : j < a.length
  · have hc : j < c.length := by rw [h.1]; exact hj
    rw [List.getElem_append_left hj, List.getElem_append_left hc]
    exact h.2 j hj hc
  · have hc : ¬ j < c.length := by rw [h.1]; exact hj
    rw [List.getElem_append_right (by omega), List.getElem_append_right (by omega)]
    have e := h.1
    have := k.2 (j - a.length) (by simp at h1; omega) (by simp at h2; omega)
    simpa [e] using this
theorem D.fld_l (l : List D) (j : Nat) : (D.l l).fld j = l.getD j (.i 0) := rfl
theorem open_ty : ∀ (e : Ty) (t : TypeId) (fuel : Nat) (cs : List Value) (x : DataW H × List MemPlace), tyChk P e t = true → DataW.trod enc P w base spare held fuel t cs = some x → ∃ d : D, Dens PN w AN (e.leaves d) cs ∧ e.rng d := by
  intro e
  apply Ty.rec (motive_1 := fun e => ∀ (t : TypeId) (fuel : Nat) (cs : List Value) (x : DataW H × List MemPlace), tyChk P e t = true → DataW.trod enc P w base spare held fuel t cs = some x → ∃ d : D, Dens PN w AN (e.leaves d) cs ∧ e.rng d)
    (motive_2 := fun es => ∀ (fl : List Field) (o : Nat) (cs : List Value), tysChk P es fl o = true → (∀ f ∈ fl, ∃ fuel x, DataW.trod enc P w base spare held fuel f.type ((cs.drop f.offset).take (P.cellsOf f.type)) = some x) → cs.length = o + Ty.sizes es →
      ∃ ds : List D, ds.length = es.length ∧ ∀ d j, (∀ i, i < es.length → d.fld (j + i) = ds.getD i (.i 0)) → Dens PN w AN (Ty.leavesL es d j) (cs.drop o) ∧ Ty.rngL es d j)
  · intro k t fuel cs x hc h
    simp only [tyChk] at hc
    split at hc
    · rename_i j hu
      have := LawfulBEq.eq_of_beq hc
      subst this
      obtain ⟨y, rfl, _, e2⟩ := DataW.trod_int hu h
      refine ⟨.i y, ?_, e2⟩
      simp only [Ty.leaves, lock_eq]
      exact den1 (.v _) rfl
    · cases hc
  · intro t fuel cs x hc h
    simp only [tyChk] at hc
    split at hc
    · rename_i hu
      obtain ⟨b, rfl, _⟩ := DataW.trod_bool hu h
      refine ⟨.b b, ?_, trivial⟩
      simp only [Ty.leaves, lock_eq]
      exact den1 (.v _) rfl
    · cases hc
  · intro t fuel cs x hc h
    simp only [tyChk] at hc
    split at hc
    · rename_i hu
      obtain ⟨b, rfl, _, e2⟩ := DataW.trod_string hu h
      refine ⟨.s b.data.toList, ?_, by
        show b.data.toList.length ≤ maxLen
        have : b.data.toList.length = b.size := by rw [Array.length_toList]; rfl
        rw [this]; exact e2⟩
      simp only [Ty.leaves, lock_eq, D.toS]
      have := Den.str (PL := PN) (w := w) (Av := AN) b.data.toList
      simp at this
      exact den1 this rfl
    · cases hc
  · intro T t fuel cs x hc h
    simp only [tyChk] at hc
    split at hc
    · rename_i e0 hu he
      simp only [Bool.and_eq_true] at hc
      have e1 := (nbeq _ _).1 hc.1
      have e2 := (nbeq _ _).1 hc.2
      subst e1
      obtain ⟨l, h1, h2⟩ := open_bytes hu he e2 h
      exact ⟨.s l, by simp only [Ty.leaves, lock_eq]; exact h2, h1⟩
    · cases hc
  · intro T k t fuel cs x hc h
    simp only [tyChk] at hc
    split at hc
    · rename_i e0 j hu he
      simp only [Bool.and_eq_true] at hc
      have e1 := (nbeq _ _).1 hc.1.1
      have e2 := (nbeq _ _).1 hc.1.2
      have e3 := LawfulBEq.eq_of_beq hc.2
      subst e1; subst e3
      obtain ⟨l, h1, h2, h3⟩ := open_intsD hu he e2 h
      exact ⟨.is l, by simp only [Ty.leaves, lock_eq]; exact h3, h1, h2⟩
    · cases hc
  · intro T e ih t fuel cs x hc h
    simp only [tyChk] at hc
    split at hc
    · rename_i e0 hu
      simp only [Bool.and_eq_true] at hc
      obtain ⟨⟨⟨c1, c2⟩, c3⟩, c4⟩ := hc
      have e1 := (nbeq _ _).1 c1
      have e2 := (nbeq _ _).1 c2
      have e3 := Nat.le_of_ble_eq_true c3
      subst e1
      rcases open_slice hu h with ⟨rfl, _⟩ | ⟨a, len, cap, m, n, D0, Pl, rfl, hb, hl, hm, hmm, _, hi⟩
      · refine ⟨.l [], ?_, by simp [Ty.rng, D.toL]⟩
        simp only [Ty.leaves, lock_eq, D.toL]
        exact den1 (nil_den rfl .nsl) rfl
      · have hle : len ≤ m := by rw [hmm]; split <;> omega
        have each : ∀ i, ∃ q : D × List Value, i < len → q.2.length = e.size ∧ (∀ j, j < e.size → w.cell? (a.add (i * e.size + j)) = q.2[j]?) ∧ Dens PN w AN (e.leaves q.1) q.2 ∧ e.rng q.1 := fun i => by
          by_cases hil : i < len
          · obtain ⟨cs', g1, g2⟩ := hi i (by omega)
            obtain ⟨_, g3, g4⟩ := World.cells?_some g1
            obtain ⟨d, g5, g6⟩ := ih _ n cs' _ c4 g2
            refine ⟨(d, cs'), fun _ => ⟨by rw [g3, e2], fun j hj => ?_, g5, g6⟩⟩
            have := g4 j (by omega)
            rw [add_add, e2] at this
            exact this
          · exact ⟨(.i 0, []), fun h' => absurd h' hil⟩
        obtain ⟨f, hf⟩ := Classical.axiomOfChoice each
        refine ⟨.l ((List.range len).map fun i => (f i).1), ?_, ?_, ?_⟩
        · simp only [Ty.leaves, lock_eq, D.toL]
          refine den1 (open_row (by simp [rlen]) hl (by show 0 < e.size; omega) fun i hi => ⟨(f i).2, (hf i hi).1, (hf i hi).2.1, ?_⟩) rfl
          have : getD ((List.range len).map fun i => (f i).1) i = (f i).1 := by simp [getD, hi]
          simp only [R.elem, lock_eq, this]
          exact (hf i hi).2.2.1
        · simp [D.toL]; omega
        · intro y hy
          simp only [D.toL] at hy
          obtain ⟨i, h1, rfl⟩ := List.mem_map.1 hy
          exact (hf i (List.mem_range.1 h1)).2.2.2
    · cases hc
  · intro es ih t fuel cs x hc h
    simp only [tyChk] at hc
    split at hc
    · rename_i fl hu
      simp only [Bool.and_eq_true] at hc
      have e1 := (nbeq _ _).1 hc.1
      obtain ⟨xs, n, _, _, hlen, hxl, hx⟩ := DataW.trod_struct hu h
      obtain ⟨ds, h1, h2⟩ := ih fl.toList 0 cs hc.2 (fun f hf => by
        obtain ⟨i, hi, he⟩ := List.getElem_of_mem hf
        have hi' : i < fl.size := by simpa using hi
        have := hx i f (by rw [Array.getElem?_eq_getElem hi']; simpa using he)
        exact ⟨n, xs[i]'(by omega), by rw [this, List.getElem?_eq_getElem (by omega)]⟩) (by rw [hlen, e1]; omega)
      obtain ⟨g1, g2⟩ := h2 (.l ds) 0 (fun i hi => by rw [D.fld_l, Nat.zero_add])
      exact ⟨.l ds, by simp only [Ty.leaves]; simpa using g1, g2⟩
    · cases hc
  · intro fl o cs hc hf hl
    cases fl with
    | nil => exact ⟨[], rfl, fun d j _ => ⟨by simp only [Ty.leavesL]; rw [List.drop_of_length_le (by simp [Ty.sizes] at hl; omega)]; exact Dens.nil, trivial⟩⟩
    | cons f fl => simp [tysChk] at hc
  · intro e es ih1 ih2 fl o cs hc hf hl
    cases fl with
    | nil => simp [tysChk] at hc
    | cons f fl =>
      simp only [tysChk, Bool.and_eq_true] at hc
      obtain ⟨⟨⟨c1, c2⟩, c3⟩, c4⟩ := hc
      have e1 := (nbeq _ _).1 c1
      have e2 := (nbeq _ _).1 c2
      obtain ⟨fuel, x, hx⟩ := hf f (List.mem_cons_self ..)
      obtain ⟨d1, g1, g2⟩ := ih1 _ _ _ _ c3 hx
      simp only [Ty.sizes] at hl
      obtain ⟨ds, g3, g4⟩ := ih2 fl (o + e.size) cs c4 (fun f hf' => hf f (List.mem_cons_of_mem _ hf')) (by omega)
      refine ⟨d1 :: ds, by simp [g3], fun d j hd => ?_⟩
      have hd0 : d.fld j = d1 := by simpa using hd 0 (by simp)
      obtain ⟨k1, k2⟩ := g4 d (j + 1) (fun i hi => by
        have := hd (i + 1) (by simpa using hi)
        rw [Nat.add_assoc, Nat.add_comm 1 i, this, List.getD_cons_succ])
      rw [e1, e2] at g1
      refine ⟨?_, ?_, k2⟩
      · simp only [Ty.leavesL, lock_eq, hd0]
        have : cs.drop o = (cs.drop o).take e.size ++ cs.drop (o + e.size) := by
          rw [← List.drop_drop, List.take_append_drop]
        rw [this]
        exact dens_app g1 k1
      · rw [hd0]; exact g2
end
end Go.Proofs.Ytceecjhpegiodaa
end
section
/-
  Words, as plain Lean reads them.
-/
set_option linter.unusedVariables false
set_option linter.unusedSimpArgs false
namespace Go.Proofs.Ytceecjhpegiodaa

theorem pieq {a b : Int} : (ieq a b = true) = (a = b) := by simp [ieq]
theorem pilt {a b : Int} : (ilt a b = true) = (a < b) := by simp [ilt]
theorem pile {a b : Int} : (ile a b = true) = (a ≤ b) := by simp [ile]
theorem pseq {a b : List UInt8} : (seq a b = true) = (a = b) := by simp [seq]
theorem pbeq2 {a b : Bool} : (beq2 a b = true) = (a = b) := by simp [beq2]
theorem pband {a b : Bool} : (band a b = true) = (a = true ∧ b = true) := by simp [band]

/-- A number of 64 bits. -/
def U (x : Int) : Prop := 0 ≤ x ∧ x < 18446744073709551616
theorem U.lo {x : Int} (h : U x) : 0 ≤ x := h.1
theorem U.hi {x : Int} (h : U x) : x < 18446744073709551616 := h.2
theorem pwu64 (x : Int) : IntKind.u64.wrap x = x % 18446744073709551616 := by simp [IntKind.wrap, IntKind.signed, IntKind.bits]
theorem pwu32 (x : Int) : IntKind.u32.wrap x = x % 4294967296 := by simp [IntKind.wrap, IntKind.signed, IntKind.bits]
theorem pwu16 (x : Int) : IntKind.u16.wrap x = x % 65536 := by simp [IntKind.wrap, IntKind.signed, IntKind.bits]
theorem pwu8 (x : Int) : IntKind.u8.wrap x = x % 256 := by simp [IntKind.wrap, IntKind.signed, IntKind.bits]
theorem pwi64 {x : Int} (h1 : -9223372036854775808 ≤ x) (h2 : x ≤ 9223372036854775807) : IntKind.i64.wrap x = x := by
  simp only [IntKind.wrap, IntKind.signed, IntKind.bits]
  simp
  omega
theorem pu64 {x : Int} (h1 : 0 ≤ x) (h2 : x < 18446744073709551616) : IntKind.u64.wrap x = x := by rw [pwu64]; omega
theorem pu32 {x : Int} (h1 : 0 ≤ x) (h2 : x < 4294967296) : IntKind.u32.wrap x = x := by rw [pwu32]; omega
theorem pu16 {x : Int} (h1 : 0 ≤ x) (h2 : x < 65536) : IntKind.u16.wrap x = x := by rw [pwu16]; omega
theorem pu8 {x : Int} (h1 : 0 ≤ x) (h2 : x < 256) : IntKind.u8.wrap x = x := by rw [pwu8]; omega
theorem pofN (n : Nat) : ofN n = (n : Int) := rfl
theorem ptoN (n : Nat) : toN (n : Int) = n := rfl
theorem ptoN' (x : Int) : toN x = x.toNat := rfl
theorem pxlen {α : Type} (l : List α) : xlen l = l.length := rfl
/-- The next place. -/
theorem pnext {n : Nat} (h : n < 9223372036854775807) : iadd .i64 (n : Int) 1 = ((n + 1 : Nat) : Int) := by
  simp only [iadd]
  rw [pwi64] <;> omega
theorem pgetI {l : List Int} {n : Nat} (h : n < l.length) : getI l n = l[n] := by simp [getI, h]
theorem pgetD {l : List D} {n : Nat} (h : n < l.length) : getD l n = l[n] := by simp [getD, h]
theorem pgetB {l : List UInt8} {n : Nat} (h : n < l.length) : getB l n = ((l[n].toNat : Nat) : Int) := by simp [getB, h]
theorem pcopy {α : Type} (l : List α) (x : α) : lspl (lrep l.length x) 0 (lsub l 0 (nmin (xlen (lrep l.length x)) (xlen l))) = l := by
  simp [lspl, lrep, lsub, nmin, xlen]
theorem pimax (a b : Int) : imax a b = max a b := by
  unfold imax
  by_cases h : b > a
  · rw [if_pos h]; omega
  · rw [if_neg h]; omega
theorem pimin (a b : Int) : imin a b = min a b := by
  unfold imin
  by_cases h : b < a
  · rw [if_pos h]; omega
  · rw [if_neg h]; omega
end Go.Proofs.Ytceecjhpegiodaa
end
section
/-
  What the functions of package octet tell that package varint calls.
-/
set_option linter.unusedVariables false
set_option linter.unusedSimpArgs false
namespace Go.Proofs.Ytceecjhpegiodaa

theorem pshr {x : Int} {n : Nat} (h : n < 64) : ishr .u64 x (n : Int) = x / 2 ^ n := by
  simp only [ishr, IntKind.bits]
  have : min (n : Int).toNat 64 = n := by simp; omega
  rw [this, Int.fdiv_eq_ediv_of_nonneg _ (Int.le_of_lt (Int.pow_pos (by omega)))]
theorem pshl8 {x : Int} (h0 : 0 ≤ x) (h : x < 72057594037927936) : ishl .u64 x 8 = x * 256 := by
  simp only [ishl, IntKind.bits]
  rw [show min (8 : Int).toNat 64 = 8 from rfl, show (2 : Int) ^ 8 = 256 from rfl, pu64 (by omega) (by omega)]
theorem por8 {x c : Int} (h0 : 0 ≤ x) (h : x < 72057594037927936) (hc : 0 ≤ c) (hc2 : c < 256) : ior .u64 (x * 256) c = x * 256 + c := by
  obtain ⟨a, rfl⟩ := Int.eq_ofNat_of_zero_le h0
  obtain ⟨b, rfl⟩ := Int.eq_ofNat_of_zero_le hc
  show IntKind.u64.wrap (((BitVec.ofInt 64 ((a : Int) * 256) ||| BitVec.ofInt 64 (b : Int)).toNat : Nat) : Int) = _
  have e1 : BitVec.ofInt 64 ((a : Int) * 256) = BitVec.ofNat 64 (a * 256) := by
    rw [show ((a : Int) * 256) = ((a * 256 : Nat) : Int) by omega]; exact BitVec.ofInt_natCast 64 _
  have e2 : BitVec.ofInt 64 (b : Int) = BitVec.ofNat 64 b := BitVec.ofInt_natCast 64 _
  rw [e1, e2, BitVec.toNat_or, BitVec.toNat_ofNat, BitVec.toNat_ofNat, Nat.mod_eq_of_lt (by omega), Nat.mod_eq_of_lt (by omega)]
  have e3 : a * 256 ||| b = a * 256 + b := by
    have := Nat.shiftLeft_add_eq_or_of_lt (i := 8) (b := b) (by omega) a
    rw [Nat.shiftLeft_eq] at this
    exact this.symm
  rw [e3, pu64 (by omega) (by omega)]
  omega

/-- The number of bytes, the greatest first. -/
def valB (s : List UInt8) : Nat := s.foldl (fun x c => x * 256 + c.toNat) 0
theorem valB_snoc (s : List UInt8) (c : UInt8) : valB (s ++ [c]) = valB s * 256 + c.toNat := by simp [valB]
theorem valB_take {s : List UInt8} {i : Nat} (h : i < s.length) : valB (s.take (i + 1)) = valB (s.take i) * 256 + s[i].toNat := by
  rw [List.take_succ_eq_append_getElem h, valB_snoc]
theorem valB_mono {s : List UInt8} : ∀ (n i : Nat), i + n ≤ s.length → valB (s.take i) ≤ valB (s.take (i + n))
  | 0, i, h => Nat.le_refl _
  | n + 1, i, h => by
    have ih := valB_mono (s := s) n i (by omega)
    rw [← Nat.add_assoc, valB_take (by omega)]
    omega
theorem p_value (s : List UInt8) (hl : s.length ≤ 1000000) : F_octet_Value s = some (if valB s < 18446744073709551616 then ((valB s : Int), true) else (0, false)) := by
  unfold F_octet_Value
  have key : ∀ (m i : Nat), i + m = s.length → valB (s.take i) < 18446744073709551616 → iter (F_octet_Value_L1 s) ((valB (s.take i) : Int), (i : Int)) = some (if valB s < 18446744073709551616 then ((valB s : Int), true) else (0, false)) := by
    intro m
    induction m with
    | zero =>
      intro i hi hv
      have : s.take i = s := List.take_of_length_le (by omega)
      rw [this] at hv ⊢
      apply iter_inr
      unfold F_octet_Value_L1
      dsimp only
      rw [if_neg (by simp only [pilt, ofN, xlen]; omega), if_pos hv]
    | succ m ih =>
      intro i hi hv
      have hlt : i < s.length := by omega
      have es : ishr .u64 (valB (s.take i) : Int) 56 = ((valB (s.take i) / 72057594037927936 : Nat) : Int) := by
        have := pshr (x := (valB (s.take i) : Int)) (n := 56) (by omega)
        rw [show ((56 : Nat) : Int) = 56 from rfl] at this
        rw [this]
        omega
      have eg : getB s (toN (i : Int)) = ((s[i].toNat : Nat) : Int) := pgetB (by exact hlt)
      have hc : s[i].toNat < 256 := s[i].toNat_lt
      by_cases hb : 72057594037927936 ≤ valB (s.take i)
      · apply iter_inr
        unfold F_octet_Value_L1
        dsimp only
        rw [if_pos (by simp only [pilt, ofN, xlen]; omega), if_pos (by simp only [ofN, xlen]; omega), if_pos (by omega), es, if_pos (by rw [pilt]; omega)]
        have h1 := valB_take hlt
        have h2 := valB_mono (s := s) (s.length - (i + 1)) (i + 1) (by omega)
        rw [show i + 1 + (s.length - (i + 1)) = s.length by omega, List.take_of_length_le (Nat.le_refl _)] at h2
        rw [if_neg (by omega)]
      · rw [iter_inl (y := ((valB (s.take (i + 1)) : Int), ((i + 1 : Nat) : Int)))]
        · refine ih (i + 1) (by omega) ?_
          rw [valB_take hlt]; omega
        · unfold F_octet_Value_L1
          dsimp only
          have ec : iconv .u64 ((s[i].toNat : Nat) : Int) = ((s[i].toNat : Nat) : Int) := by simp only [iconv]; rw [pu64 (by omega) (by omega)]
          rw [if_pos (by simp only [pilt, ofN, xlen]; omega), if_pos (by simp only [ofN, xlen]; omega), if_pos (by omega), es, if_neg (by rw [pilt]; omega), if_pos (by omega), pshl8 (by omega) (by omega), eg, ec, por8 (by omega) (by omega) (by omega) (by omega), pnext (by omega), valB_take hlt]
          congr 3
  exact key s.length 0 (by omega) (by simp [valB])

theorem valB_lt : ∀ (s : List UInt8), valB s < 256 ^ s.length := by
  intro s
  have key : ∀ (s : List UInt8) (x : Nat), s.foldl (fun x c => x * 256 + c.toNat) x < (x + 1) * 256 ^ s.length := by
    intro s
    induction s with
    | nil => intro x; simp
    | cons c s ih =>
      intro x
      have := ih (x * 256 + c.toNat)
      have hc : c.toNat < 256 := c.toNat_lt
      simp only [List.foldl_cons, List.length_cons, Nat.pow_succ]
      refine Nat.lt_of_lt_of_le this ?_
      rw [Nat.mul_comm (256 ^ s.length) 256, ← Nat.mul_assoc]
      exact Nat.mul_le_mul_right _ (by omega)
  simpa [valB] using key s 0
/-- So many bytes read: these, what is left, and what went wrong first. -/
def wB (n : Int) (w : List UInt8) (e : Int) : List UInt8 × List UInt8 × Int :=
  if e ≠ 0 then ([], w, e) else if n < 0 then ([], w, 1) else if (w.length : Int) < n then ([], w, 10) else (w.take n.toNat, w.drop n.toNat, 0)
/-- A number of so many bytes. -/
def wN (n : Int) (w : List UInt8) (e : Int) : Int × List UInt8 × Int :=
  if e ≠ 0 then (0, w, e) else if n < 1 ∨ 8 < n then (0, w, 1) else ((valB (wB n w e).1 : Int), (wB n w e).2.1, (wB n w e).2.2)
theorem wB_len {n : Int} {w : List UInt8} {e : Int} : (wB n w e).1.length ≤ w.length ∧ (wB n w e).2.1.length ≤ w.length := by
  unfold wB
  split
  · exact ⟨by simp, Nat.le_refl _⟩
  · split
    · exact ⟨by simp, Nat.le_refl _⟩
    · split
      · exact ⟨by simp, Nat.le_refl _⟩
      · exact ⟨by simp [List.length_take]; omega, by simp⟩
theorem wB_len8 {n : Int} {w : List UInt8} {e : Int} (h : n ≤ 8) : (wB n w e).1.length ≤ 8 := by
  unfold wB
  split
  · simp
  · split
    · simp
    · split
      · simp
      · simp [List.length_take]; omega
theorem valB8 {s : List UInt8} (h : s.length ≤ 8) : valB s < 18446744073709551616 := by
  have h1 := valB_lt s
  have h2 : 256 ^ s.length ≤ 256 ^ 8 := Nat.pow_le_pow_right (by omega) h
  have h3 : (256 : Nat) ^ 8 = 18446744073709551616 := by decide
  omega
/-- Where a window stands in its row. -/
structure WS (s : List UInt8) (n1 n2 : Nat) (w : List UInt8) : Prop where
  h : n1 + n2 ≤ s.length
  w : lsub s n1 n2 = w
theorem WS.len {s : List UInt8} {n1 n2 : Nat} {w : List UInt8} (h : WS s n1 n2 w) : w.length = n2 := by
  have := h.h
  rw [← h.w]
  simp [lsub]
  omega
theorem WS.all (s : List UInt8) : WS s 0 s.length s := ⟨by omega, by simp [lsub]⟩
theorem WS.cut {s : List UInt8} {n1 n2 : Nat} {w : List UInt8} (h : WS s n1 n2 w) {k : Nat} (hk : k ≤ n2) : WS s (n1 + k) (n2 - k) (w.drop k) := by
  have := h.h
  refine ⟨by omega, ?_⟩
  rw [← h.w]
  simp only [lsub]
  rw [List.drop_take, List.drop_drop]
theorem p_fail2 {x e : Int} {n1 n2 : Nat} {s : List UInt8} : F_octet_Window_fail_2 x n1 n2 e s = some (if e = 0 then x else e) := by
  unfold F_octet_Window_fail_2
  by_cases h : e = 0
  · rw [if_pos (by rw [pieq]; exact h), if_pos h]
  · rw [if_neg (by rw [pieq]; exact h), if_neg h]
theorem p_fail {x e : Int} {s : List UInt8} : F_octet_Window_fail x e s = some (if e = 0 then x else e) := by
  unfold F_octet_Window_fail
  by_cases h : e = 0
  · rw [if_pos (by rw [pieq]; exact h), if_pos h]
  · rw [if_neg (by rw [pieq]; exact h), if_neg h]
/-- What is copied out of a window. -/
theorem copy_take {w : List UInt8} {n : Nat} (h : n ≤ w.length) : lspl (@lrep UInt8 n 0) 0 (lsub w 0 (nmin (xlen (@lrep UInt8 n 0)) (xlen w))) = w.take n := by
  have : min n w.length = n := by omega
  simp [lspl, lrep, lsub, nmin, xlen, this]
theorem p_bytes2 {n e : Int} {s w : List UInt8} {n1 n2 : Nat} (hW : WS s n1 n2 w) (hs : s.length ≤ 1000000) : ∃ k1 k2, F_octet_Window_Bytes_2 n n1 n2 e s = some (k1, k2, (wB n w e).2.2, (wB n w e).1) ∧ WS s k1 k2 (wB n w e).2.1 := by
  have hl := hW.len
  have hh := hW.h
  unfold F_octet_Window_Bytes_2 wB
  by_cases e0 : e = 0
  · subst e0
    rw [if_neg (show ¬ (0 : Int) ≠ 0 by simp)]
    by_cases h1 : n < 0
    · rw [if_pos h1]
      refine ⟨n1, n2, ?_, hW⟩
      rw [if_pos (by rw [pilt]; exact h1), p_fail2, if_pos rfl]
      dsimp only
      rw [if_neg (by rw [pieq]; omega)]
    · rw [if_neg h1]
      by_cases h2 : (w.length : Int) < n
      · rw [if_pos h2]
        refine ⟨n1, n2, ?_, hW⟩
        rw [if_neg (by rw [pilt]; exact h1), if_pos (by rw [pilt]; simp only [ofN]; omega), p_fail2, if_pos rfl]
        dsimp only
        rw [if_neg (by rw [pieq]; omega)]
      · rw [if_neg h2]
        obtain ⟨k, rfl⟩ : ∃ k : Nat, n = (k : Int) := ⟨n.toNat, by omega⟩
        have hk : k ≤ w.length := by omega
        have em : nmin (xlen (@lrep UInt8 (toN (k : Int)) 0)) (xlen (lsub s n1 n2)) = k := by
          rw [hW.w]; simp [nmin, xlen, lrep, toN]; omega
        refine ⟨n1 + k, n2 - k, ?_, hW.cut (by omega)⟩
        rw [if_neg (by rw [pilt]; exact h1), if_neg (by rw [pilt]; simp only [ofN]; omega), if_pos (by rw [pieq]), if_pos ⟨by omega, by omega, by simp; omega, by omega⟩, em, if_pos (by simp only [ofN]; omega)]
        have ec := copy_take hk
        have em2 : nmin (xlen (@lrep UInt8 k 0)) (xlen w) = k := by simp [nmin, xlen, lrep]; omega
        rw [em2] at ec
        rw [hW.w]
        show some (n1 + k, n2 - k, (0 : Int), lspl (@lrep UInt8 k 0) 0 (lsub w 0 k)) = _
        rw [ec]
        rfl
  · rw [if_pos e0]
    refine ⟨n1, n2, ?_, hW⟩
    by_cases h1 : n < 0
    · rw [if_pos (by rw [pilt]; exact h1), p_fail2, if_neg e0]
      dsimp only
      rw [if_neg (by rw [pieq]; exact e0)]
    · rw [if_neg (by rw [pilt]; exact h1)]
      by_cases h2 : (n2 : Int) < n
      · rw [if_pos (by rw [pilt]; exact h2), p_fail2, if_neg e0]
        dsimp only
        rw [if_neg (by rw [pieq]; exact e0)]
      · rw [if_neg (by rw [pilt]; exact h2), if_neg (by rw [pieq]; exact e0)]
theorem p_bytes1 {n e : Int} {s : List UInt8} (hs : s.length ≤ 1000000) : ∃ k1 k2, F_octet_Window_Bytes n e s = some (k1, k2, (wB n s e).2.2, (wB n s e).1) ∧ WS s k1 k2 (wB n s e).2.1 := by
  have hW := WS.all s
  unfold F_octet_Window_Bytes wB
  have hx : xlen s = s.length := rfl
  by_cases e0 : e = 0
  · subst e0
    rw [if_neg (show ¬ (0 : Int) ≠ 0 by simp)]
    by_cases h1 : n < 0
    · rw [if_pos h1]
      refine ⟨0, s.length, ?_, hW⟩
      rw [if_pos (by rw [pilt]; exact h1), p_fail, if_pos rfl]
      dsimp only
      rw [if_neg (by rw [pieq]; omega), hx]
    · rw [if_neg h1]
      by_cases h2 : (s.length : Int) < n
      · rw [if_pos h2]
        refine ⟨0, s.length, ?_, hW⟩
        rw [if_neg (by rw [pilt]; exact h1), if_pos (by rw [pilt]; simp only [ofN, xlen]; omega), p_fail, if_pos rfl]
        dsimp only
        rw [if_neg (by rw [pieq]; omega), hx]
      · rw [if_neg h2]
        obtain ⟨k, rfl⟩ : ∃ k : Nat, n = (k : Int) := ⟨n.toNat, by omega⟩
        have hk : k ≤ s.length := by omega
        have em : nmin (xlen (@lrep UInt8 (toN (k : Int)) 0)) (xlen s) = k := by simp [nmin, xlen, lrep, toN]; omega
        refine ⟨0 + k, s.length - k, ?_, hW.cut hk⟩
        rw [if_neg (by rw [pilt]; exact h1), if_neg (by rw [pilt]; simp only [ofN, xlen]; omega), if_pos (by rw [pieq]), if_pos ⟨by omega, by omega, by simp; omega, by omega⟩, em, if_pos (by simp only [ofN, xlen]; omega)]
        have ec := copy_take hk
        have em2 : nmin (xlen (@lrep UInt8 k 0)) (xlen s) = k := by simp [nmin, xlen, lrep]; omega
        rw [em2] at ec
        show some (k, s.length - k, (0 : Int), lspl (@lrep UInt8 k 0) 0 (lsub s 0 k)) = _
        rw [ec, Nat.zero_add]
        rfl
  · rw [if_pos e0]
    refine ⟨0, s.length, ?_, hW⟩
    by_cases h1 : n < 0
    · rw [if_pos (by rw [pilt]; exact h1), p_fail, if_neg e0]
      dsimp only
      rw [if_neg (by rw [pieq]; exact e0), hx]
    · rw [if_neg (by rw [pilt]; exact h1)]
      by_cases h2 : (s.length : Int) < n
      · rw [if_pos (by rw [pilt]; exact h2), p_fail, if_neg e0]
        dsimp only
        rw [if_neg (by rw [pieq]; exact e0), hx]
      · rw [if_neg (by rw [pilt]; exact h2), if_neg (by rw [pieq]; exact e0), hx]
theorem p_num2 {n e : Int} {s w : List UInt8} {n1 n2 : Nat} (hW : WS s n1 n2 w) (hs : s.length ≤ 1000000) : ∃ k1 k2, F_octet_Window_Num_2 n n1 n2 e s = some ((wN n w e).1, k1, k2, (wN n w e).2.2) ∧ WS s k1 k2 (wN n w e).2.1 := by
  unfold F_octet_Window_Num_2 wN
  by_cases h1 : n < 1
  · refine ⟨n1, n2, ?_, ?_⟩
    · rw [if_pos (by rw [pilt]; exact h1), p_fail2]
      by_cases e0 : e = 0
      · rw [if_pos e0, if_neg (by simp [e0]), if_pos (.inl h1)]
      · rw [if_neg e0, if_pos e0]
    · by_cases e0 : e = 0
      · rw [if_neg (by simp [e0]), if_pos (.inl h1)]; exact hW
      · rw [if_pos e0]; exact hW
  · by_cases h8 : 8 < n
    · refine ⟨n1, n2, ?_, ?_⟩
      · rw [if_neg (by rw [pilt]; exact h1), if_pos (by rw [pilt]; exact h8), p_fail2]
        by_cases e0 : e = 0
        · rw [if_pos e0, if_neg (by simp [e0]), if_pos (.inr h8)]
        · rw [if_neg e0, if_pos e0]
      · by_cases e0 : e = 0
        · rw [if_neg (by simp [e0]), if_pos (.inr h8)]; exact hW
        · rw [if_pos e0]; exact hW
    · obtain ⟨k1, k2, eb, hk⟩ := p_bytes2 (n := n) (e := e) hW hs
      have hlen := wB_len8 (w := w) (e := e) (n := n) (by omega)
      have hv := valB8 hlen
      rw [if_neg (by rw [pilt]; exact h1), if_neg (by rw [pilt]; exact h8), eb]
      dsimp only
      rw [p_value _ (by omega), if_pos hv]
      dsimp only
      by_cases e0 : e = 0
      · rw [if_neg (show ¬ e ≠ 0 by simp [e0]), if_neg (by omega)]
        exact ⟨k1, k2, rfl, hk⟩
      · rw [if_pos e0]
        have e1 : wB n w e = ([], w, e) := by unfold wB; rw [if_pos e0]
        rw [e1] at hk ⊢
        exact ⟨k1, k2, rfl, hk⟩
theorem p_rbytes {n e : Int} {w : List UInt8} : F_tollbarref01_W_Bytes n w e = some ((wB n w e).1, (wB n w e).2.1, (wB n w e).2.2) := by
  have c1 : (ieq 1 0 = true) = False := by rw [pieq]; simp
  have c10 : (ieq 10 0 = true) = False := by rw [pieq]; simp
  have hx : ofN (xlen w) = (w.length : Int) := rfl
  unfold F_tollbarref01_W_Bytes wB
  by_cases e0 : e = 0
  · subst e0
    rw [if_neg (show ¬ (0 : Int) ≠ 0 by simp), if_pos (by rw [pieq])]
    by_cases h1 : n < 0
    · rw [if_pos h1, if_pos (by rw [pilt]; exact h1), if_neg (by rw [c1]; simp), if_neg (by rw [c1]; simp)]
    · rw [if_neg h1, if_neg (by rw [pilt]; exact h1), if_pos (by rw [pieq])]
      by_cases h2 : (w.length : Int) < n
      · rw [if_pos h2, if_pos (by rw [pilt]; exact h2), if_neg (by rw [c10]; simp)]
      · rw [if_neg h2, if_neg (by rw [pilt]; exact h2), if_pos (by rw [pieq]), if_pos (by rw [hx]; omega), if_pos (by rw [hx]; omega)]
        simp only [lsub, ndec, toN, xlen, List.drop_zero]
        rw [List.take_of_length_le (l := List.drop n.toNat w) (by simp)]
  · have c0 : ¬ ieq e 0 = true := by rw [pieq]; exact e0
    rw [if_pos e0, if_neg c0, if_neg c0, if_neg c0]
theorem p_open {s : List UInt8} (h : s.length ≤ 1000000) : F_octet_Open s = some s := by
  have : cloneB s = some s := by
    unfold cloneB
    rw [if_pos (by simp [xlen]; omega)]
  unfold F_octet_Open
  rw [this]
theorem wN1 {w : List UInt8} {e : Int} : 0 ≤ (wN 1 w e).1 ∧ (wN 1 w e).1 < 256 := by
  unfold wN
  split
  · omega
  · split
    · omega
    · have h : (wB 1 w e).1.length ≤ 1 := by
        unfold wB
        split
        · simp
        · split
          · simp
          · split
            · simp
            · simp [List.length_take]; omega
      have h1 := valB_lt (wB 1 w e).1
      have h2 : 256 ^ (wB 1 w e).1.length ≤ 256 ^ 1 := Nat.pow_le_pow_right (by omega) h
      omega
theorem p_left {n1 n2 : Nat} {e : Int} {s w : List UInt8} (hW : WS s n1 n2 w) : F_octet_Window_Left_2 n1 n2 e s = some (ofN (xlen w)) := by
  unfold F_octet_Window_Left_2
  rw [← hW.len]
  rfl
theorem p_byte2 {e : Int} {s w : List UInt8} {n1 n2 : Nat} (hW : WS s n1 n2 w) (hs : s.length ≤ 1000000) : ∃ k1 k2, F_octet_Window_Byte_2 n1 n2 e s = some ((wN 1 w e).1, k1, k2, (wN 1 w e).2.2) ∧ WS s k1 k2 (wN 1 w e).2.1 := by
  obtain ⟨k1, k2, h1, h2⟩ := p_num2 (n := 1) (e := e) hW hs
  have := wN1 (w := w) (e := e)
  refine ⟨k1, k2, ?_, h2⟩
  unfold F_octet_Window_Byte_2
  rw [h1]
  dsimp only
  have e1 : iconv .u8 (wN 1 w e).1 = (wN 1 w e).1 := by simp only [iconv]; rw [pu8 this.1 this.2]
  rw [e1]
end Go.Proofs.Ytceecjhpegiodaa
end
section
/-
  Package varint in plain words: a number's bytes, and the number that bytes begin with.
-/
set_option linter.unusedVariables false
set_option linter.unusedSimpArgs false
namespace Go.Proofs.Ytceecjhpegiodaa

/-- How many of the first bytes say that more come. -/
def ld : List UInt8 → Nat
  | [] => 0
  | c :: t => if 128 ≤ c.toNat then ld t + 1 else 0
/-- The number of groups, the least first. -/
def gv : List UInt8 → Nat
  | [] => 0
  | c :: t => c.toNat % 128 + 128 * gv t
theorem ld_cons (c : UInt8) (t : List UInt8) : ld (c :: t) = if 128 ≤ c.toNat then ld t + 1 else 0 := rfl
theorem gv_cons (c : UInt8) (t : List UInt8) : gv (c :: t) = c.toNat % 128 + 128 * gv t := rfl
def getV (s : List UInt8) : Int × Int × Int :=
  if 10 ≤ ld s then (0, 0, 14) else if ld s = s.length then (0, 0, 10)
  else if 18446744073709551616 ≤ gv (s.take (ld s + 1)) then (0, 0, 14)
  else if 0 < ld s ∧ (s.getD (ld s) 0).toNat = 0 then (0, 0, 11) else (((gv (s.take (ld s + 1)) : Nat) : Int), ((ld s + 1 : Nat) : Int), 0)
theorem getV_big {s : List UInt8} (h : 10 ≤ ld s) : getV s = (0, 0, 14) := by unfold getV; rw [if_pos h]
theorem getV_short {s : List UInt8} (h : ld s < 10) (h2 : ld s = s.length) : getV s = (0, 0, 10) := by unfold getV; rw [if_neg (by omega), if_pos h2]
theorem getV_over {s : List UInt8} (h : ld s < 10) (h2 : ld s < s.length) (h3 : 18446744073709551616 ≤ gv (s.take (ld s + 1))) : getV s = (0, 0, 14) := by
  unfold getV; rw [if_neg (by omega), if_neg (by omega), if_pos h3]
theorem getV_form {s : List UInt8} (h : ld s < 10) (h2 : ld s < s.length) (h3 : gv (s.take (ld s + 1)) < 18446744073709551616) (h4 : 0 < ld s) (h5 : (s.getD (ld s) 0).toNat = 0) : getV s = (0, 0, 11) := by
  unfold getV; rw [if_neg (by omega), if_neg (by omega), if_neg (by omega), if_pos ⟨h4, h5⟩]
theorem getV_ok {s : List UInt8} (h : ld s < 10) (h2 : ld s < s.length) (h3 : gv (s.take (ld s + 1)) < 18446744073709551616) (h4 : ¬ (0 < ld s ∧ (s.getD (ld s) 0).toNat = 0)) : getV s = (((gv (s.take (ld s + 1)) : Nat) : Int), ((ld s + 1 : Nat) : Int), 0) := by
  unfold getV; rw [if_neg (by omega), if_neg (by omega), if_neg (by omega), if_neg h4]

theorem ld_le : ∀ s : List UInt8, ld s ≤ s.length
  | [] => Nat.le_refl _
  | c :: t => by
    have := ld_le t
    unfold ld
    split <;> simp only [List.length_cons] <;> omega
theorem ld_in : ∀ (s : List UInt8) (i : Nat) (h : i < s.length), i < ld s → 128 ≤ s[i].toNat
  | c :: t, 0, h, hi => by
    unfold ld at hi
    split at hi
    · assumption
    · omega
  | c :: t, i + 1, h, hi => by
    unfold ld at hi
    split at hi
    · exact ld_in t i (by simpa using h) (by omega)
    · omega
theorem ld_at : ∀ (s : List UInt8) (h : ld s < s.length), s[ld s].toNat < 128
  | c :: t, h => by
    by_cases hc : 128 ≤ c.toNat
    · have e : ld (c :: t) = ld t + 1 := by rw [ld_cons, if_pos hc]
      have := ld_at t (by rw [e] at h; simpa using h)
      simpa only [e, List.getElem_cons_succ] using this
    · have e : ld (c :: t) = 0 := by rw [ld_cons, if_neg hc]
      simp only [e, List.getElem_cons_zero]
      omega
theorem ld_is {s : List UInt8} {i : Nat} (h : i ≤ ld s) (hl : i < s.length) (hc : ¬ 128 ≤ s[i].toNat) : ld s = i := by
  by_cases hi : i < ld s
  · exact absurd (ld_in s i hl hi) hc
  · omega
theorem ld_next {s : List UInt8} {i : Nat} (h : i ≤ ld s) (hl : i < s.length) (hc : 128 ≤ s[i].toNat) : i + 1 ≤ ld s := by
  by_cases hi : ld s = i
  · subst hi
    have := ld_at s hl
    omega
  · omega
theorem gv_app : ∀ (a b : List UInt8), gv (a ++ b) = gv a + 128 ^ a.length * gv b
  | [], b => by simp [gv]
  | c :: a, b => by
    rw [List.cons_append, gv_cons, gv_cons, gv_app a b, List.length_cons, Nat.pow_succ, Nat.mul_add, ← Nat.mul_assoc, Nat.mul_comm 128 (128 ^ a.length)]
    omega
theorem gv_lt : ∀ s : List UInt8, gv s < 128 ^ s.length
  | [] => by simp [gv]
  | c :: t => by
    have := gv_lt t
    have h : c.toNat % 128 < 128 := Nat.mod_lt _ (by omega)
    unfold gv
    rw [List.length_cons, Nat.pow_succ]
    omega
theorem gv_take {s : List UInt8} {i : Nat} (h : i < s.length) : gv (s.take (i + 1)) = gv (s.take i) + s[i].toNat % 128 * 128 ^ i := by
  rw [List.take_succ_eq_append_getElem h, gv_app, List.length_take, Nat.min_eq_left (by omega), Nat.mul_comm (128 ^ i)]
  simp [gv]
theorem gv_drop {s : List UInt8} {i : Nat} (h : i < s.length) : gv (s.drop i) = s[i].toNat % 128 + 128 * gv (s.drop (i + 1)) := by
  rw [List.drop_eq_getElem_cons h]
  rfl
theorem gv_drop_le (s : List UInt8) (i : Nat) : gv (s.drop i) ≤ gv s := by
  have h := gv_app (s.take i) (s.drop i)
  rw [List.take_append_drop] at h
  have : 1 * gv (s.drop i) ≤ 128 ^ (s.take i).length * gv (s.drop i) := Nat.mul_le_mul_right _ (Nat.pow_pos (by omega))
  omega

theorem p2_7 (i : Nat) : 2 ^ (7 * i) = 128 ^ i := by rw [Nat.pow_mul]
theorem pshrS {x n : Nat} (h : n < 64) : ishr .u64 (x : Int) (n : Int) = ((x / 2 ^ n : Nat) : Int) := by
  rw [pshr h]
  push_cast
  rfl
theorem pshlS {g j : Nat} (hj : j ≤ 64) : ishl .u64 (g : Int) (j : Int) = ((g * 2 ^ j % 18446744073709551616 : Nat) : Int) := by
  simp only [ishl, IntKind.bits]
  have : min (j : Int).toNat 64 = j := by simp; omega
  have h : (g : Int) * 2 ^ j = ((g * 2 ^ j : Nat) : Int) := by push_cast; rfl
  rw [this, pwu64, h]
  generalize g * 2 ^ j = y
  omega
theorem porS {x g j : Nat} (hj : j ≤ 64) (hx : x < 2 ^ j) (h : g * 2 ^ j < 18446744073709551616) : ior .u64 (x : Int) ((g * 2 ^ j : Nat) : Int) = ((x + g * 2 ^ j : Nat) : Int) ∧ x + g * 2 ^ j < 18446744073709551616 := by
  have h64 : 2 ^ j ≤ 2 ^ 64 := Nat.pow_le_pow_right (by omega) hj
  have p64 : (2 : Nat) ^ 64 = 18446744073709551616 := by decide
  have e3 : x ||| g * 2 ^ j = x + g * 2 ^ j := by
    have := Nat.shiftLeft_add_eq_or_of_lt (i := j) (b := x) hx g
    rw [Nat.shiftLeft_eq] at this
    rw [Nat.or_comm, ← this, Nat.add_comm]
  generalize g * 2 ^ j = y at *
  have e : (BitVec.ofInt 64 (x : Int) ||| BitVec.ofInt 64 (y : Int)).toNat = x + y := by
    have e1 : BitVec.ofInt 64 (x : Int) = BitVec.ofNat 64 x := BitVec.ofInt_natCast 64 _
    have e2 : BitVec.ofInt 64 (y : Int) = BitVec.ofNat 64 y := BitVec.ofInt_natCast 64 _
    rw [e1, e2, BitVec.toNat_or, BitVec.toNat_ofNat, BitVec.toNat_ofNat, Nat.mod_eq_of_lt (by omega), Nat.mod_eq_of_lt (by omega), e3]
  have hlt := (BitVec.ofInt 64 (x : Int) ||| BitVec.ofInt 64 (y : Int)).isLt
  rw [e] at hlt
  refine ⟨?_, by omega⟩
  show IntKind.u64.wrap (((BitVec.ofInt 64 (x : Int) ||| BitVec.ofInt 64 (y : Int)).toNat : Nat) : Int) = _
  rw [e, pu64 (by omega) (by omega)]
theorem chk {g j : Nat} : g * 2 ^ j % 18446744073709551616 / 2 ^ j = g ↔ g * 2 ^ j < 18446744073709551616 := by
  constructor
  · intro h
    have h1 : g * 2 ^ j % 18446744073709551616 < 18446744073709551616 := Nat.mod_lt _ (by omega)
    have h2 := Nat.div_mul_le_self (g * 2 ^ j % 18446744073709551616) (2 ^ j)
    rw [h] at h2
    omega
  · intro h
    rw [Nat.mod_eq_of_lt h, Nat.mul_div_cancel _ (Nat.pow_pos (by omega))]

theorem p_get {s : List UInt8} (hs : s.length ≤ 1000000) : F_varint_Get s = some (getV s) := by
  have em : imin (ofN (xlen s)) 10 = ((min s.length 10 : Nat) : Int) := by rw [pimin]; simp only [ofN, xlen]; omega
  have eL : lsub s 0 (toN (imin (ofN (xlen s)) 10)) = s.take 10 := by
    rw [em]
    show (List.drop 0 s).take (min s.length 10) = _
    rw [List.drop_zero]
    by_cases h : s.length ≤ 10
    · rw [Nat.min_eq_left h, List.take_length, List.take_of_length_le h]
    · rw [Nat.min_eq_right (by omega)]
  have ex : ofN (xlen (s.take 10)) = ((min s.length 10 : Nat) : Int) := by
    simp only [ofN, xlen, List.length_take]
    omega
  have hld := ld_le s
  have key : ∀ m i : Nat, i + m = min s.length 10 → i ≤ ld s → iter (F_varint_Get_L1 s) (((gv (s.take i) : Nat) : Int), (i : Int)) = some (getV s) := by
    intro m
    induction m with
    | zero =>
      intro i hi hk
      apply iter_inr
      unfold F_varint_Get_L1
      dsimp only
      rw [eL, ex, if_neg (by rw [pilt]; omega)]
      by_cases h10 : 10 ≤ s.length
      · rw [if_pos (by rw [pile]; simp only [ofN, xlen]; omega), getV_big (by omega)]
      · rw [if_neg (by rw [pile]; simp only [ofN, xlen]; omega), getV_short (by omega) (by omega)]
    | succ m ih =>
      intro i hi hk
      have hlt : i < s.length := by omega
      have h10 : i < 10 := by omega
      have eg : getB (s.take 10) (toN (i : Int)) = ((s[i].toNat : Nat) : Int) := by
        rw [ptoN, pgetB (by simp only [List.length_take]; omega), List.getElem_take]
      have hc : s[i].toNat < 256 := s[i].toNat_lt
      have hn := ld_next hk hlt
      have hi2 := ld_is hk hlt
      have ht := gv_take hlt
      have hgl := gv_lt (s.take i)
      rw [List.length_take, Nat.min_eq_left (by omega)] at hgl
      have hD : (s.getD i 0).toNat = s[i].toNat := by simp [hlt]
      generalize s[i].toNat = c at *
      have e7 : imul .i64 7 (i : Int) = ((7 * i : Nat) : Int) := by simp only [imul]; rw [pwi64 (by omega) (by omega)]; omega
      have er : iconv .u64 (irem ((c : Nat) : Int) 128) = ((c % 128 : Nat) : Int) := by
        simp only [iconv, irem]
        rw [Int.tmod_eq_emod_of_nonneg (by omega), pu64 (by omega) (by omega)]
        omega
      have es : ishl .u64 ((c % 128 : Nat) : Int) ((7 * i : Nat) : Int) = ((c % 128 * 2 ^ (7 * i) % 18446744073709551616 : Nat) : Int) := pshlS (by omega)
      have et : ishr .u64 ((c % 128 * 2 ^ (7 * i) % 18446744073709551616 : Nat) : Int) ((7 * i : Nat) : Int) = ((c % 128 * 2 ^ (7 * i) % 18446744073709551616 / 2 ^ (7 * i) : Nat) : Int) := pshrS (by omega)
      by_cases hb : c % 128 * 2 ^ (7 * i) < 18446744073709551616
      · obtain ⟨eo, hlt64⟩ := porS (x := gv (s.take i)) (by omega) (by rw [p2_7]; exact hgl) hb
        have e1 : c % 128 * 2 ^ (7 * i) % 18446744073709551616 / 2 ^ (7 * i) = c % 128 := chk.2 hb
        have e2 : c % 128 * 2 ^ (7 * i) % 18446744073709551616 = c % 128 * 2 ^ (7 * i) := Nat.mod_eq_of_lt hb
        rw [e1, e2] at et
        rw [e2] at es
        have e3 : gv (s.take i) + c % 128 * 2 ^ (7 * i) = gv (s.take (i + 1)) := by rw [p2_7, ht]
        rw [e3] at eo hlt64
        by_cases hm : 128 ≤ c
        · rw [iter_inl (y := (((gv (s.take (i + 1)) : Nat) : Int), ((i + 1 : Nat) : Int)))]
          · exact ih (i + 1) (by omega) (hn hm)
          · unfold F_varint_Get_L1
            dsimp only
            rw [eL, ex, e7, eg, er, es, et, eo, pnext (by omega), if_pos (by rw [pilt]; omega), if_pos (by omega), if_pos (by omega), if_pos (by omega), if_pos (by rw [pieq]), if_pos (by omega), if_pos (by rw [pile]; omega)]
        · have hk2 := hi2 hm
          apply iter_inr
          unfold F_varint_Get_L1
          dsimp only
          rw [eL, ex, e7, eg, er, es, et, eo, pnext (by omega), if_pos (by rw [pilt]; omega), if_pos (by omega), if_pos (by omega), if_pos (by omega), if_pos (by rw [pieq]), if_pos (by omega), if_neg (by rw [pile]; omega)]
          by_cases hz : c = 0
          · rw [if_pos (by rw [pieq]; omega)]
            by_cases h0 : 0 < i
            · rw [if_pos (by rw [pilt]; omega), getV_form (by omega) (by omega) (by rw [hk2]; exact hlt64) (by omega) (by rw [hk2]; omega)]
            · rw [if_neg (by rw [pilt]; omega), getV_ok (by omega) (by omega) (by rw [hk2]; exact hlt64) (by omega), hk2]
          · rw [if_neg (by rw [pieq]; omega), getV_ok (by omega) (by omega) (by rw [hk2]; exact hlt64) (by rw [hk2, hD]; omega), hk2]
      · have e1 : ¬ c % 128 * 2 ^ (7 * i) % 18446744073709551616 / 2 ^ (7 * i) = c % 128 := fun h => hb (chk.1 h)
        have h9 : i = 9 := by
          by_cases h8 : i ≤ 8
          · have : 2 ^ (7 * i) ≤ 2 ^ 56 := Nat.pow_le_pow_right (by omega) (by omega)
            have h2 : c % 128 * 2 ^ (7 * i) ≤ 127 * 2 ^ 56 := Nat.mul_le_mul (by omega) this
            have h3 : 127 * (2 : Nat) ^ 56 < 18446744073709551616 := by decide
            omega
          · omega
        apply iter_inr
        unfold F_varint_Get_L1
        dsimp only
        rw [eL, ex, e7, eg, er, es, et, if_pos (by rw [pilt]; omega), if_pos (by omega), if_pos (by omega), if_pos (by omega), if_neg (by rw [pieq]; exact fun h => e1 (Int.ofNat_inj.1 h))]
        by_cases hk10 : 10 ≤ ld s
        · rw [getV_big hk10]
        · have hk9 : ld s = i := by omega
          rw [getV_over (by omega) (by omega) (by rw [hk9, ht, ← p2_7]; omega)]
  unfold F_varint_Get
  rw [em, if_pos (by simp only [ofN, xlen]; omega)]
  exact key (min s.length 10) 0 (by omega) (by omega)
end Go.Proofs.Ytceecjhpegiodaa
end
section
/-
  Package varint in plain words: the document's Get, and putting.
-/
set_option linter.unusedVariables false
set_option linter.unusedSimpArgs false
namespace Go.Proofs.Ytceecjhpegiodaa

theorem ld_take : ∀ (s : List UInt8) (n : Nat), ld (s.take n) = min (ld s) n
  | [], n => by simp [ld]
  | c :: t, 0 => by simp [ld]
  | c :: t, n + 1 => by
    rw [List.take_succ_cons, ld_cons, ld_cons, ld_take t n]
    split <;> omega
theorem getV_cut (w : List UInt8) : getV (w.take 10) = getV w := by
  have h1 := ld_take w 10
  have h2 := ld_le w
  by_cases h : 10 ≤ ld w
  · rw [getV_big h, getV_big (by omega)]
  · have e : ld (w.take 10) = ld w := by omega
    by_cases hl : ld w = w.length
    · rw [getV_short (by omega) hl, getV_short (by omega) (by simp only [List.length_take]; omega)]
    · have e1 : (w.take 10).take (ld w + 1) = w.take (ld w + 1) := by rw [List.take_take, Nat.min_eq_left (by omega)]
      have e2 : (w.take 10).getD (ld w) 0 = w.getD (ld w) 0 := by
        simp only [List.getD_eq_getElem?_getD, List.getElem?_take]
        rw [if_pos (by omega)]
      unfold getV
      rw [e, e1, e2, if_neg h, if_neg h, if_neg hl, if_neg (by simp only [List.length_take]; omega)]
theorem getV_n (s : List UInt8) : ∃ n : Nat, (getV s).2.1 = (n : Int) ∧ n ≤ s.length := by
  have := ld_le s
  unfold getV
  split
  · exact ⟨0, rfl, by omega⟩
  · split
    · exact ⟨0, rfl, by omega⟩
    · split
      · exact ⟨0, rfl, by omega⟩
      · split
        · exact ⟨0, rfl, by omega⟩
        · exact ⟨ld s + 1, rfl, by omega⟩

theorem p_rget2 {s : List UInt8} (hs : s.length ≤ 1000000) (h10 : ld s < 10) (hl : ld s < s.length) : ∀ n : Nat, n ≤ ld s + 1 → gv ((s.take (ld s + 1)).drop n) < 18446744073709551616 →
    iter (F_tollbarref02_Get_L2 s ((ld s : Nat) : Int)) (((gv ((s.take (ld s + 1)).drop n) : Nat) : Int), (n : Int) - 1) = some (getV s)
  | 0, _, hv => by
    rw [List.drop_zero] at hv ⊢
    have hD : getB s (toN ((ld s : Nat) : Int)) = (((s.getD (ld s) 0).toNat : Nat) : Int) := rfl
    apply iter_inr
    unfold F_tollbarref02_Get_L2
    dsimp only
    rw [if_neg (by rw [pile]; omega), hD, pnext (by omega)]
    by_cases h0 : 0 < ld s
    · rw [if_pos (by rw [pilt]; omega), if_pos (by simp only [ofN, xlen]; omega)]
      by_cases hz : (s.getD (ld s) 0).toNat = 0
      · rw [if_pos (by rw [pieq]; omega), getV_form h10 hl hv h0 hz]
      · rw [if_neg (by rw [pieq]; omega), getV_ok h10 hl hv (by omega)]
    · rw [if_neg (by rw [pilt]; omega), getV_ok h10 hl hv (by omega)]
  | n + 1, hn, hv => by
    have hnl : n < s.length := by omega
    have hlen : (s.take (ld s + 1)).length = ld s + 1 := by rw [List.length_take]; omega
    have e := gv_drop (s := s.take (ld s + 1)) (i := n) (by omega)
    rw [List.getElem_take] at e
    have hle := gv_drop_le (s.take (ld s + 1)) n
    have ei : ((n + 1 : Nat) : Int) - 1 = (n : Int) := by omega
    have eg : getB s (toN (n : Int)) = ((s[n].toNat : Nat) : Int) := by rw [ptoN, pgetB hnl]
    have hc : s[n].toNat < 256 := s[n].toNat_lt
    have ih := p_rget2 hs h10 hl n (by omega)
    generalize s[n].toNat = c at *
    generalize hx : gv ((s.take (ld s + 1)).drop (n + 1)) = x at *
    rw [ei]
    have er : iconv .u64 (irem ((c : Nat) : Int) 128) = ((c % 128 : Nat) : Int) := by
      simp only [iconv, irem]
      rw [Int.tmod_eq_emod_of_nonneg (by omega), pu64 (by omega) (by omega)]
      omega
    by_cases hb : 144115188075855871 < x
    · apply iter_inr
      unfold F_tollbarref02_Get_L2
      dsimp only
      rw [if_pos (by rw [pile]; omega), if_pos (by simp only [ofN, xlen]; omega), if_pos (by rw [pilt]; omega), getV_over h10 hl (by omega)]
    · have ea : iadd .u64 (imul .u64 128 (x : Int)) ((c % 128 : Nat) : Int) = ((gv ((s.take (ld s + 1)).drop n) : Nat) : Int) := by
        simp only [iadd, imul]
        rw [pu64 (x := 128 * (x : Int)) (by omega) (by omega), pu64 (by omega) (by omega), e]
        omega
      have ed : isub .i64 (n : Int) 1 = (n : Int) - 1 := by simp only [isub]; rw [pwi64 (by omega) (by omega)]
      rw [iter_inl (y := (((gv ((s.take (ld s + 1)).drop n) : Nat) : Int), (n : Int) - 1))]
      · exact ih (by omega)
      · unfold F_tollbarref02_Get_L2
        dsimp only
        rw [if_pos (by rw [pile]; omega), if_pos (by simp only [ofN, xlen]; omega), if_neg (by rw [pilt]; omega), eg, er, ea, ed]
theorem p_rget1 {s : List UInt8} (hs : s.length ≤ 1000000) : ∀ m i : Nat, i + m = 10 → i ≤ ld s → iter (F_tollbarref02_Get_L1 s) (i : Int) = some (getV s) := by
  intro m
  have hld := ld_le s
  have exl : ofN (xlen s) = (s.length : Int) := rfl
  induction m with
  | zero =>
    intro i hi hk
    apply iter_inr
    unfold F_tollbarref02_Get_L1
    dsimp only
    rw [exl]
    by_cases hl : i < s.length
    · rw [if_pos (by rw [pilt]; omega), if_neg (by rw [pilt]; omega), if_pos (by rw [pieq]; omega), getV_big (by omega)]
    · rw [if_neg (by rw [pilt]; omega), if_pos (by rw [pieq]; omega), getV_big (by omega)]
  | succ m ih =>
    intro i hi hk
    by_cases hl : i < s.length
    · have eg : getB s (toN (i : Int)) = ((s[i].toNat : Nat) : Int) := by rw [ptoN, pgetB hl]
      by_cases hc : 128 ≤ s[i].toNat
      · rw [iter_inl (y := ((i + 1 : Nat) : Int))]
        · exact ih (i + 1) (by omega) (ld_next hk hl hc)
        · unfold F_tollbarref02_Get_L1
          dsimp only
          rw [exl, eg, if_pos (by rw [pilt]; omega), if_pos (by rw [pilt]; omega), if_pos (by omega), if_pos (by rw [pilt]; omega), pnext (by omega)]
      · have hk2 := ld_is hk hl hc
        apply iter_inr
        unfold F_tollbarref02_Get_L1
        dsimp only
        rw [exl, eg, if_pos (by rw [pilt]; omega), if_pos (by rw [pilt]; omega), if_pos (by omega), if_neg (by rw [pilt]; omega), if_neg (by rw [pieq]; omega), if_neg (by rw [pieq]; omega)]
        have h := p_rget2 hs (by omega) (by omega) (ld s + 1) (Nat.le_refl _)
        have e0 : (s.take (ld s + 1)).drop (ld s + 1) = [] := by rw [List.drop_eq_nil_iff, List.length_take]; omega
        have ei : ((ld s + 1 : Nat) : Int) - 1 = ((ld s : Nat) : Int) := by omega
        rw [e0, ei, hk2] at h
        have h' : iter (F_tollbarref02_Get_L2 s (i : Int)) (0, (i : Int)) = some (getV s) := h (by decide)
        rw [h']
        rfl
    · apply iter_inr
      unfold F_tollbarref02_Get_L1
      dsimp only
      rw [exl, if_neg (by rw [pilt]; omega), if_neg (by rw [pieq]; omega), if_pos (by rw [pieq]; omega), getV_short (by omega) (by omega)]
theorem p_rget {s : List UInt8} (hs : s.length ≤ 1000000) : F_tollbarref02_Get s = some (getV s) := p_rget1 hs 10 0 (by omega) (by omega)

/-- A number's bytes. -/
def putV (n : Nat) : List UInt8 := if n < 128 then [UInt8.ofNat n] else UInt8.ofNat (n % 128 + 128) :: putV (n / 128)
termination_by n
decreasing_by exact Nat.div_lt_self (by omega) (by omega)
theorem putV_lo {n : Nat} (h : n < 128) : putV n = [UInt8.ofNat n] := by rw [putV, if_pos h]
theorem putV_hi {n : Nat} (h : ¬ n < 128) : putV n = UInt8.ofNat (n % 128 + 128) :: putV (n / 128) := by rw [putV, if_neg h]
theorem uN {n : Nat} (h : n < 256) : (UInt8.ofNat n).toNat = n := by
  rw [UInt8.toNat_ofNat']
  exact Nat.mod_eq_of_lt h
theorem putV_len : ∀ (n x : Nat), x < 128 ^ (n + 1) → 1 ≤ (putV x).length ∧ (putV x).length ≤ n + 1
  | 0, x, h => by rw [putV_lo (by simpa using h)]; simp
  | n + 1, x, h => by
    by_cases hx : x < 128
    · rw [putV_lo hx]; simp
    · have := putV_len n (x / 128) (by rw [Nat.div_lt_iff_lt_mul (by omega)]; rw [Nat.pow_succ] at h; exact h)
      rw [putV_hi hx, List.length_cons]
      omega
theorem p128 : (18446744073709551616 : Nat) ≤ 128 ^ 10 := by decide
theorem putV_10 {x : Nat} (h : x < 18446744073709551616) : 1 ≤ (putV x).length ∧ (putV x).length ≤ 10 := putV_len 9 x (by have := p128; omega)

theorem por128 {g : Nat} (h : g < 128) : ior .u8 (g : Int) 128 = ((g + 128 : Nat) : Int) := by
  have key : ∀ g : Fin 128, ior .u8 ((g.val : Nat) : Int) 128 = ((g.val + 128 : Nat) : Int) := by decide +kernel
  exact key ⟨g, h⟩
theorem pc8 {x : Nat} : iconv .u8 (irem (x : Int) 128) = ((x % 128 : Nat) : Int) := by
  simp only [iconv, irem]
  rw [Int.tmod_eq_emod_of_nonneg (by omega), pu8 (by omega) (by omega)]
  omega
theorem ps7 {x : Nat} : ishr .u64 (x : Int) 7 = ((x / 128 : Nat) : Int) := pshrS (x := x) (n := 7) (by omega)
theorem p_put_loop : ∀ (m x : Nat) (s : List UInt8), x ≤ m → s.length + (putV x).length ≤ 1000 → iter F_varint_Put_L1 ((x : Int), s) = some (s ++ putV x) := by
  intro m
  induction m with
  | zero =>
    intro x s hm hl
    obtain rfl : x = 0 := by omega
    have e : putV 0 = [0] := putV_lo (by omega)
    rw [e] at hl ⊢
    simp only [List.length_cons, List.length_nil] at hl
    apply iter_inr
    unfold F_varint_Put_L1
    dsimp only
    rw [ps7, pc8, if_pos (by omega), if_neg (by rw [pilt]; omega), if_pos (by omega), if_pos (by simp [xlen]; omega), if_pos (by omega), if_neg (by rw [pilt]; omega)]
    rfl
  | succ m ih =>
    intro x s hm hl
    by_cases hx : x < 128
    · rw [putV_lo hx] at hl ⊢
      simp only [List.length_cons, List.length_nil] at hl
      apply iter_inr
      unfold F_varint_Put_L1
      dsimp only
      rw [ps7, pc8, if_pos (by omega), if_neg (by rw [pilt]; omega), if_pos (by omega), if_pos (by simp [xlen]; omega), if_pos (by omega), if_neg (by rw [pilt]; omega)]
      rw [Nat.mod_eq_of_lt hx]
      rfl
    · rw [putV_hi hx] at hl ⊢
      simp only [List.length_cons] at hl
      rw [iter_inl (y := (((x / 128 : Nat) : Int), s ++ [UInt8.ofNat (x % 128 + 128)]))]
      · rw [ih (x / 128) _ (by omega) (by simp; omega), List.append_assoc]
        rfl
      · unfold F_varint_Put_L1
        dsimp only
        rw [ps7, pc8, por128 (by omega), if_pos (by omega), if_pos (by rw [pilt]; omega), if_pos (by omega), if_pos (by simp [xlen]; omega), if_pos (by omega), if_pos (by rw [pilt]; omega), if_pos (by omega)]
        rfl
theorem p_put {x : Nat} (h : x < 18446744073709551616) : F_varint_Put (x : Int) = some (putV x) := by
  have := putV_10 h
  unfold F_varint_Put F_varint_groups
  dsimp only
  rw [p_put_loop x x [] (Nat.le_refl _) (by simp; omega)]
  rfl
theorem p_len_loop : ∀ (m x i : Nat), x ≤ m → i + (putV x).length ≤ 1000 → iter F_varint_Len_L1 ((i : Int), (x : Int)) = some (((i + (putV x).length : Nat)) : Int) := by
  intro m
  induction m with
  | zero =>
    intro x i hm hl
    obtain rfl : x = 0 := by omega
    have e : putV 0 = [0] := putV_lo (by omega)
    rw [e] at hl ⊢
    simp only [List.length_cons, List.length_nil] at hl
    apply iter_inr
    unfold F_varint_Len_L1
    dsimp only
    rw [ps7, if_pos (by omega), if_pos (by omega), if_neg (by rw [pilt]; omega), pnext (by omega)]
    rfl
  | succ m ih =>
    intro x i hm hl
    by_cases hx : x < 128
    · rw [putV_lo hx] at hl ⊢
      simp only [List.length_cons, List.length_nil] at hl
      apply iter_inr
      unfold F_varint_Len_L1
      dsimp only
      rw [ps7, if_pos (by omega), if_pos (by omega), if_neg (by rw [pilt]; omega), pnext (by omega)]
      rfl
    · rw [putV_hi hx] at hl ⊢
      simp only [List.length_cons] at hl
      rw [iter_inl (y := (((i + 1 : Nat) : Int), ((x / 128 : Nat) : Int)))]
      · rw [ih (x / 128) (i + 1) (by omega) (by omega), List.length_cons, Nat.add_right_comm, Nat.add_assoc]
      · unfold F_varint_Len_L1
        dsimp only
        rw [ps7, if_pos (by omega), if_pos (by omega), if_pos (by rw [pilt]; omega), if_pos (by omega), pnext (by omega)]
theorem p_len {x : Nat} (h : x < 18446744073709551616) : F_varint_Len (x : Int) = some (((putV x).length : Nat) : Int) := by
  have := putV_10 h
  unfold F_varint_Len F_varint_groups
  dsimp only
  have h2 := p_len_loop x x 0 (Nat.le_refl _) (by omega)
  rw [Nat.zero_add] at h2
  exact h2
theorem rput_body {self : Int → Option (List UInt8)} {x : Nat} (h : x < 18446744073709551616) (hs : ¬ x < 128 → self ((x / 128 : Nat) : Int) = some (putV (x / 128))) : B_tollbarref02_Put self (x : Int) = some (putV x) := by
  unfold B_tollbarref02_Put
  by_cases hx : x < 128
  · have e : iconv .u8 (x : Int) = (x : Int) := by simp only [iconv]; rw [pu8 (by omega) (by omega)]
    rw [if_pos (by rw [pilt]; omega), e, if_pos (by omega), putV_lo hx]
    rfl
  · have e2 : iadd .u8 ((x % 128 : Nat) : Int) 128 = ((x % 128 + 128 : Nat) : Int) := by simp only [iadd]; rw [pu8 (by omega) (by omega)]; omega
    have e3 : iquo .u64 (x : Int) 128 = ((x / 128 : Nat) : Int) := by
      simp only [iquo]
      rw [Int.tdiv_eq_ediv_of_nonneg (by omega), pu64 (by omega) (by omega)]
      omega
    have hl := putV_10 (x := x / 128) (by omega)
    rw [if_neg (by rw [pilt]; omega), pc8, e2, e3, if_pos (by omega), hs hx, putV_hi hx]
    dsimp only
    rw [if_pos (by simp [xlen]; omega)]
    rfl
theorem G_succ (n : Nat) (x : Int) : G_tollbarref02_Put (n + 1) x = B_tollbarref02_Put (G_tollbarref02_Put n) x := rfl
theorem G_zero (x : Int) : G_tollbarref02_Put 0 x = none := rfl
theorem rput_ex (m : Nat) : ∀ x : Nat, x ≤ m → x < 18446744073709551616 → ∃ n, G_tollbarref02_Put n (x : Int) = some (putV x) := by
  induction m with
  | zero =>
    intro x hm h
    refine ⟨0 + 1, ?_⟩
    rw [G_succ]
    exact rput_body h (fun hx => absurd (by omega) hx)
  | succ m ih =>
    intro x hm h
    by_cases hx : x < 128
    · refine ⟨0 + 1, ?_⟩
      rw [G_succ]
      exact rput_body h (fun h => absurd hx h)
    · obtain ⟨n, hn⟩ := ih (x / 128) (by omega) (by omega)
      refine ⟨n + 1, ?_⟩
      rw [G_succ]
      exact rput_body h (fun _ => hn)
theorem rput_mono (n : Nat) : ∀ (x : Nat) (r : List UInt8), x < 18446744073709551616 → G_tollbarref02_Put n (x : Int) = some r → r = putV x := by
  induction n with
  | zero =>
    intro x r h e
    rw [G_zero] at e
    cases e
  | succ n ih =>
    intro x r h e
    rw [G_succ] at e
    by_cases hx : x < 128
    · have := rput_body (self := G_tollbarref02_Put n) h (fun h => absurd hx h)
      exact Option.some.inj (e.symm.trans this)
    · cases hg : G_tollbarref02_Put n ((x / 128 : Nat) : Int) with
      | none =>
        exfalso
        have e3 : iquo .u64 (x : Int) 128 = ((x / 128 : Nat) : Int) := by
          simp only [iquo]
          rw [Int.tdiv_eq_ediv_of_nonneg (by omega), pu64 (by omega) (by omega)]
          omega
        unfold B_tollbarref02_Put at e
        rw [if_neg (by rw [pilt]; omega), e3, hg] at e
        dsimp only at e
        split at e <;> cases e
      | some t =>
        have ht := ih (x / 128) t (by omega) hg
        subst ht
        have := rput_body (self := G_tollbarref02_Put n) h (fun _ => hg)
        exact Option.some.inj (e.symm.trans this)
theorem p_rput {x : Nat} (h : x < 18446744073709551616) : F_tollbarref02_Put (x : Int) = some (putV x) := by
  obtain ⟨n, hn⟩ := rput_ex x x (Nat.le_refl _) h
  exact fixo_is (fun n m r s hr hs => (rput_mono n x r h hr).trans (rput_mono m x s h hs).symm) hn
end Go.Proofs.Ytceecjhpegiodaa
end
section
/-
  Package varint in plain words: what is put is got; taking from a window; the document's example.
-/
set_option linter.unusedVariables false
set_option linter.unusedSimpArgs false
namespace Go.Proofs.Ytceecjhpegiodaa

theorem putV_facts (m : Nat) : ∀ (x : Nat) (t : List UInt8), x ≤ m → ld (putV x ++ t) + 1 = (putV x).length ∧ gv (putV x) = x ∧ (0 < x → ((putV x ++ t).getD (ld (putV x ++ t)) 0).toNat ≠ 0) := by
  have lo : ∀ (x : Nat) (t : List UInt8), x < 128 → ld (putV x ++ t) + 1 = (putV x).length ∧ gv (putV x) = x ∧ (0 < x → ((putV x ++ t).getD (ld (putV x ++ t)) 0).toNat ≠ 0) := by
    intro x t hx
    have hu := uN (n := x) (by omega)
    have hl : ld (UInt8.ofNat x :: t) = 0 := by rw [ld_cons, hu, if_neg (by omega)]
    rw [putV_lo hx, List.singleton_append, hl]
    refine ⟨rfl, ?_, ?_⟩
    · rw [gv_cons, hu]
      show x % 128 + 128 * 0 = x
      omega
    · intro h0
      show (UInt8.ofNat x).toNat ≠ 0
      omega
  induction m with
  | zero => intro x t hm; exact lo x t (by omega)
  | succ m ih =>
    intro x t hm
    by_cases hx : x < 128
    · exact lo x t hx
    · obtain ⟨h1, h2, h3⟩ := ih (x / 128) t (by omega)
      have hu := uN (n := x % 128 + 128) (by omega)
      have hl : ld (UInt8.ofNat (x % 128 + 128) :: (putV (x / 128) ++ t)) = ld (putV (x / 128) ++ t) + 1 := by rw [ld_cons, hu, if_pos (by omega)]
      rw [putV_hi hx, List.cons_append, hl]
      refine ⟨?_, ?_, ?_⟩
      · rw [List.length_cons, h1]
      · rw [gv_cons, hu, h2]
        omega
      · intro h0
        exact h3 (by omega)
theorem putV_ld (x : Nat) (t : List UInt8) : ld (putV x ++ t) + 1 = (putV x).length := (putV_facts x x t (Nat.le_refl _)).1
theorem putV_gv (x : Nat) : gv (putV x) = x := (putV_facts x x [] (Nat.le_refl _)).2.1
theorem putV_last {x : Nat} (h : 0 < x) (t : List UInt8) : ((putV x ++ t).getD (ld (putV x ++ t)) 0).toNat ≠ 0 := (putV_facts x x t (Nat.le_refl _)).2.2 h
theorem getV_put {x : Nat} (h : x < 18446744073709551616) (t : List UInt8) : getV (putV x ++ t) = ((x : Int), (((putV x).length : Nat) : Int), 0) := by
  have h1 := putV_ld x t
  have h2 := putV_10 h
  have ht : (putV x ++ t).take (ld (putV x ++ t) + 1) = putV x := by rw [h1, List.take_left]
  rw [getV_ok (by omega) (by simp only [List.length_append]; omega) (by rw [ht, putV_gv]; exact h) ?_, ht, putV_gv, h1]
  rintro ⟨h3, h4⟩
  by_cases h0 : 0 < x
  · exact putV_last h0 t h4
  · obtain rfl : x = 0 := by omega
    rw [putV_lo (by omega)] at h1
    simp only [List.length_cons, List.length_nil] at h1
    rw [putV_lo (by omega)] at h3
    omega
theorem getV_cutoff {x : Nat} (h : x < 18446744073709551616) : getV ((putV x).take ((putV x).length - 1)) = (0, 0, 10) := by
  have h1 := putV_ld x []
  rw [List.append_nil] at h1
  have h2 := putV_10 h
  have h3 := ld_take (putV x) ((putV x).length - 1)
  exact getV_short (by omega) (by rw [List.length_take]; omega)
theorem putV_inj {x y : Nat} (h : putV x = putV y) : x = y := by rw [← putV_gv x, h, putV_gv]
theorem putV_pre {x y : Nat} (h : (putV x).length ≤ (putV y).length) (hp : (putV y).take (putV x).length = putV x) : x = y := by
  have e : putV y = putV x ++ (putV y).drop (putV x).length := by
    conv => lhs; rw [← List.take_append_drop (putV x).length (putV y), hp]
  have h1 := putV_ld x ((putV y).drop (putV x).length)
  rw [← e] at h1
  have h2 := putV_ld y []
  rw [List.append_nil] at h2
  have h3 : (putV y).take (putV x).length = putV y := List.take_of_length_le (by omega)
  exact putV_inj (hp.symm.trans h3)
theorem putV_mono (m : Nat) : ∀ x y : Nat, x ≤ m → x ≤ y → (putV x).length ≤ (putV y).length := by
  have pos : ∀ y : Nat, 1 ≤ (putV y).length := fun y => by have := putV_ld y []; omega
  induction m with
  | zero =>
    intro x y hm hxy
    obtain rfl : x = 0 := by omega
    have := pos y
    rw [putV_lo (n := 0) (by omega)]
    simpa using this
  | succ m ih =>
    intro x y hm hxy
    by_cases hx : x < 128
    · rw [putV_lo hx]
      simpa using pos y
    · rw [putV_hi hx, putV_hi (n := y) (by omega), List.length_cons, List.length_cons]
      have := ih (x / 128) (y / 128) (by omega) (Nat.div_le_div_right hxy)
      omega
/-- What is got is put as the very bytes. -/
theorem putV_get : ∀ s : List UInt8, ld s < s.length → (ld s = 0 ∨ (s.getD (ld s) 0).toNat ≠ 0) → putV (gv (s.take (ld s + 1))) = s.take (ld s + 1)
  | [], h, _ => by simp at h
  | c :: t, h, hz => by
    have hc : c.toNat < 256 := c.toNat_lt
    by_cases hm : 128 ≤ c.toNat
    · have e : ld (c :: t) = ld t + 1 := by rw [ld_cons, if_pos hm]
      rw [e] at h hz ⊢
      simp only [List.length_cons] at h
      have hz2 : (t.getD (ld t) 0).toNat ≠ 0 := by
        rcases hz with hz | hz
        · omega
        · exact hz
      have ih := putV_get t (by omega) (.inr hz2)
      rw [List.take_succ_cons, gv_cons]
      generalize hG : gv (t.take (ld t + 1)) = G at *
      have hG0 : G ≠ 0 := by
        rintro rfl
        rw [putV_lo (by omega)] at ih
        have hl := congrArg List.length ih
        rw [List.length_take] at hl
        simp only [List.length_cons, List.length_nil] at hl
        have h0 : ld t = 0 := by omega
        rw [h0] at ih hz2
        apply hz2
        cases t with
        | nil => rfl
        | cons d t =>
          simp only [List.take_succ_cons, List.take_zero, List.cons.injEq, and_true] at ih
          show d.toNat = 0
          rw [← ih]
          rfl
      have e1 : (c.toNat % 128 + 128 * G) / 128 = G := by omega
      have e2 : (c.toNat % 128 + 128 * G) % 128 + 128 = c.toNat := by omega
      rw [putV_hi (by omega), e1, e2, ih]
      simp
    · have e : ld (c :: t) = 0 := by rw [ld_cons, if_neg hm]
      rw [e]
      have e1 : (c :: t).take (0 + 1) = [c] := by simp
      rw [e1, gv_cons]
      have e2 : c.toNat % 128 + 128 * gv [] = c.toNat := by show c.toNat % 128 + 128 * 0 = _; omega
      rw [e2, putV_lo (by omega)]
      simp
/-- What Get tells, case by case. -/
theorem getV_own (s : List UInt8) : (∃ v n : Nat, v < 18446744073709551616 ∧ 1 ≤ n ∧ n ≤ s.length ∧ getV s = ((v : Int), (n : Int), 0) ∧ putV v = s.take n) ∨ ∃ e : Int, e ≠ 0 ∧ getV s = (0, 0, e) := by
  have hl := ld_le s
  by_cases h10 : 10 ≤ ld s
  · exact .inr ⟨14, by omega, getV_big h10⟩
  · by_cases h2 : ld s = s.length
    · exact .inr ⟨10, by omega, getV_short (by omega) h2⟩
    · by_cases h3 : 18446744073709551616 ≤ gv (s.take (ld s + 1))
      · exact .inr ⟨14, by omega, getV_over (by omega) (by omega) h3⟩
      · by_cases h4 : 0 < ld s ∧ (s.getD (ld s) 0).toNat = 0
        · exact .inr ⟨11, by omega, getV_form (by omega) (by omega) (by omega) h4.1 h4.2⟩
        · exact .inl ⟨_, _, by omega, by omega, by omega, getV_ok (by omega) (by omega) (by omega) h4, putV_get s (by omega) (by omega)⟩

/-! Taking. -/
theorem take_loop {s w : List UInt8} {T : Type} {B : Nat × Nat × Int × List UInt8 → Option ((Nat × Nat × Int × List UInt8) ⊕ T)} {P : T → Prop}
    (h1 : ∀ n3 n4 w' b, WS s n3 n4 w' → b = w.take 10 → (w' = [] ∨ 10 ≤ b.length) → ∃ r, B (n3, n4, 0, b) = some (.inr r) ∧ P r)
    (h2 : ∀ n3 n4 c w' b, WS s n3 n4 (c :: w') → b.length < 10 → ∃ k1 k2, B (n3, n4, 0, b) = some (.inl (k1, k2, 0, b ++ [c])) ∧ WS s k1 k2 w') :
    ∀ (w' : List UInt8) (n3 n4 : Nat) (b : List UInt8), WS s n3 n4 w' → b ++ w' = w → b.length ≤ 10 → ∃ r, iter B (n3, n4, 0, b) = some r ∧ P r
  | [], n3, n4, b, hW, hw, hb => by
    obtain ⟨r, h, hp⟩ := h1 n3 n4 [] b hW (by rw [← hw, List.append_nil, List.take_of_length_le hb]) (.inl rfl)
    exact ⟨r, iter_inr h, hp⟩
  | c :: w', n3, n4, b, hW, hw, hb => by
    by_cases h10 : b.length < 10
    · obtain ⟨k1, k2, h, hW2⟩ := h2 n3 n4 c w' b hW h10
      rw [iter_inl h]
      exact take_loop h1 h2 w' k1 k2 (b ++ [c]) hW2 (by rw [← hw, List.append_assoc]; rfl) (by simp; omega)
    · obtain ⟨r, h, hp⟩ := h1 n3 n4 (c :: w') b hW (by
        have : b.length = 10 := by omega
        rw [← hw, ← this, List.take_left]) (.inr (by omega))
      exact ⟨r, iter_inr h, hp⟩
theorem wN1c (c : UInt8) (w : List UInt8) : wN 1 (c :: w) 0 = ((c.toNat : Int), w, 0) := by
  have e : wB 1 (c :: w) 0 = ([c], w, 0) := by
    unfold wB
    rw [if_neg (by simp), if_neg (by omega), if_neg (by simp only [List.length_cons]; omega)]
    rfl
  unfold wN
  rw [if_neg (by simp), if_neg (by omega), e]
  simp [valB]
theorem bO (c : UInt8) : byteOf ((c.toNat : Nat) : Int) = c := by
  show UInt8.ofNat ((c.toNat : Int)).toNat = c
  simp
/-- What is told where a number is taken, and what is left. -/
def tkV (w : List UInt8) (e : Int) : Int × Int × List UInt8 :=
  if e = 0 then ((getV w).1, (getV w).2.2, w.drop (getV w).2.1.toNat) else (0, e, w)
theorem wB_get (w : List UInt8) : (wB (getV w).2.1 w 0).2 = (w.drop (getV w).2.1.toNat, 0) := by
  obtain ⟨n, h1, h2⟩ := getV_n w
  rw [h1]
  unfold wB
  rw [if_neg (by simp), if_neg (by omega), if_neg (by omega)]
theorem getV_take (w : List UInt8) : getV (w.take 10) = getV w := getV_cut w
theorem p_take2 {s w : List UInt8} {n1 n2 : Nat} {e : Int} (hW : WS s n1 n2 w) (hs : s.length ≤ 1000000) : ∃ k1 k2, F_varint_Take_2 n1 n2 e s = some ((tkV w e).1, (tkV w e).2.1, k1, k2, e) ∧ WS s k1 k2 (tkV w e).2.2 := by
  unfold F_varint_Take_2 F_octet_Window_Err_2
  dsimp only
  by_cases he : e = 0
  · subst he
    rw [if_pos (by rw [pieq])]
    have et : tkV w 0 = ((getV w).1, (getV w).2.2, w.drop (getV w).2.1.toNat) := by unfold tkV; rw [if_pos rfl]
    rw [et]
    suffices hh : ∃ r, iter (F_varint_Take_2_L1 s n1 n2 0) (n1, n2, 0, []) = some r ∧ ∃ k1 k2, r = ((getV w).1, (getV w).2.2, k1, k2, 0) ∧ WS s k1 k2 (w.drop (getV w).2.1.toNat) by
      obtain ⟨r, hr, k1, k2, e1, e2⟩ := hh
      exact ⟨k1, k2, by rw [hr, e1], e2⟩
    refine take_loop (s := s) (w := w) (B := F_varint_Take_2_L1 s n1 n2 0) (P := fun r => ∃ k1 k2, r = ((getV w).1, (getV w).2.2, k1, k2, 0) ∧ WS s k1 k2 (w.drop (getV w).2.1.toNat)) ?_ ?_ w n1 n2 [] hW rfl (by simp)
    · intro n3 n4 w' b hW' hb hx
      have hg : F_varint_Get b = some (getV w) := by
        rw [p_get (by rw [hb, List.length_take]; omega), hb, getV_take]
      obtain ⟨k1, k2, h1, h2⟩ := p_bytes2 (n := (getV w).2.1) (e := 0) hW hs
      have hwb := wB_get w
      refine ⟨((getV w).1, (getV w).2.2, k1, k2, 0), ?_, k1, k2, rfl, ?_⟩
      · unfold F_varint_Take_2_L1
        dsimp only
        rw [p_left hW']
        dsimp only
        rcases hx with rfl | hx
        · rw [if_neg (by rw [pilt]; simp [ofN, xlen]), hg]
          generalize getV w = gg at *
          obtain ⟨x, n, er⟩ := gg
          dsimp only at h1 hwb ⊢
          rw [h1, hwb]
        · by_cases h0 : 0 < w'.length
          · rw [if_pos (by rw [pilt]; simp only [ofN, xlen]; omega), if_neg (by rw [pilt]; simp only [ofN, xlen]; omega), hg]
            generalize getV w = gg at *
            obtain ⟨x, n, er⟩ := gg
            dsimp only at h1 hwb ⊢
            rw [h1, hwb]
          · rw [if_neg (by rw [pilt]; simp only [ofN, xlen]; omega), hg]
            generalize getV w = gg at *
            obtain ⟨x, n, er⟩ := gg
            dsimp only at h1 hwb ⊢
            rw [h1, hwb]
      · rw [hwb] at h2
        exact h2
    · intro n3 n4 c w' b hW' hb
      obtain ⟨k1, k2, h1, h2⟩ := p_byte2 (e := 0) hW' hs
      rw [wN1c] at h1 h2
      have hc : c.toNat < 256 := c.toNat_lt
      refine ⟨k1, k2, ?_, h2⟩
      unfold F_varint_Take_2_L1
      dsimp only
      rw [p_left hW']
      dsimp only
      rw [if_pos (by rw [pilt]; simp only [ofN, xlen, List.length_cons]; omega), if_pos (by rw [pilt]; simp only [ofN, xlen]; omega), h1]
      dsimp only
      rw [if_pos (by omega), if_pos (by simp [xlen]; omega), bO]
      rfl
  · rw [if_neg (by rw [pieq]; exact he)]
    have et : tkV w e = (0, e, w) := by unfold tkV; rw [if_neg he]
    rw [et]
    exact ⟨n1, n2, rfl, hW⟩
theorem p_rtake {w : List UInt8} {e : Int} (hs : w.length ≤ 1000000) : F_tollbarref02_Take w e = some (tkV w e) := by
  unfold F_tollbarref02_Take tkV
  by_cases he : e = 0
  · obtain ⟨n, h1, h2⟩ := getV_n w
    rw [if_pos (by rw [pieq]; exact he), if_pos he, p_rget hs]
    generalize getV w = gg at *
    obtain ⟨x, k, er⟩ := gg
    dsimp only at h1 ⊢
    subst h1
    rw [if_pos (by simp only [ofN, xlen]; omega)]
    have : lsub w (toN (n : Int)) (ndec (xlen w) (toN (n : Int))) = w.drop (n : Int).toNat := by
      show (w.drop n).take (w.length - n) = w.drop n
      exact List.take_of_length_le (by simp)
    rw [this]
  · rw [if_neg (by rw [pieq]; exact he), if_neg he]
theorem p_take1 : F_varint_Take 0 [5] = some (5, 0, 1, 0, 0) := by
  have hW := WS.all [5]
  have hs : ([5] : List UInt8).length ≤ 1000000 := by simp
  have g : F_varint_Get [5] = some (5, 1, 0) := by rw [p_get (by simp)]; decide
  unfold F_varint_Take F_octet_Window_Err
  dsimp only
  rw [if_pos (by rw [pieq])]
  obtain ⟨k1, k2, h1, h2⟩ := p_byte2 (e := 0) hW hs
  rw [wN1c] at h1 h2
  have hl := h2.len
  obtain ⟨k3, k4, h3, h4⟩ := p_bytes1 (n := 1) (e := 0) hs
  have h3' : F_octet_Window_Bytes 1 0 [5] = some (1, 0, 0, [5]) := by decide +kernel
  have x1 : xlen ([5] : List UInt8) = ([5] : List UInt8).length := rfl
  rw [x1, iter_inl (y := (k1, k2, 0, [5]))]
  · apply iter_inr
    unfold F_varint_Take_L1
    dsimp only
    rw [p_left h2]
    dsimp only
    rw [if_neg (by rw [pilt]; simp [ofN, xlen]), g]
    dsimp only
    rw [h3']
  · unfold F_varint_Take_L1
    dsimp only
    rw [p_left hW]
    dsimp only
    rw [if_pos (by rw [pilt]; simp [ofN, xlen]), if_pos (by rw [pilt]; simp [ofN, xlen]), h1]
    dsimp only
    rw [if_pos (by decide), if_pos (by simp [xlen])]
    rfl
theorem p_vawake : F_tollbarlaw02_awake = some true := by
  have l3 : (byteOf (172 : Int) :: (byteOf (2 : Int) :: (byteOf (9 : Int) :: ([] : List UInt8)))) = [172, 2, 9] := by decide
  have l2 : (byteOf (128 : Int) :: (byteOf (0 : Int) :: ([] : List UInt8))) = [128, 0] := by decide
  have l1 : (byteOf (128 : Int) :: ([] : List UInt8)) = [128] := by decide
  have l5 : (byteOf (5 : Int) :: ([] : List UInt8)) = [5] := by decide
  have g1 : F_varint_Get [172, 2, 9] = some (300, 2, 0) := by rw [p_get (by simp)]; decide
  have g2 : F_varint_Get [128, 0] = some (0, 0, 11) := by rw [p_get (by simp)]; decide
  have g3 : F_varint_Get [128] = some (0, 0, 10) := by rw [p_get (by simp)]; decide
  have e300 : putV 300 = [172, 2] := by rw [putV_hi (by omega), putV_lo (by omega)]; decide
  have e0 : putV 0 = [0] := by rw [putV_lo (by omega)]; decide
  have p1 : F_varint_Put 300 = some [172, 2] := by rw [← e300]; exact p_put (x := 300) (by omega)
  have q1 : F_varint_Len 300 = some 2 := by have := p_len (x := 300) (by omega); rw [e300] at this; exact this
  have q0 : F_varint_Len 0 = some 1 := by have := p_len (x := 0) (by omega); rw [e0] at this; exact this
  unfold F_tollbarlaw02_awake
  rw [if_pos (by decide), if_pos (by decide), if_pos (by decide), l3, g1]
  dsimp only
  rw [if_pos (by decide), if_pos (by decide), l2, g2]
  dsimp only
  rw [if_pos (by decide), l1, g3]
  dsimp only
  rw [if_pos (by decide), l5, p_open (by simp)]
  dsimp only
  rw [p_take1]
  dsimp only
  rw [p1]
  dsimp only
  rw [if_pos (by decide), q1]
  dsimp only
  rw [if_pos (by decide), q0]
  dsimp only
  rw [if_pos (by decide), if_pos (by decide), if_pos (by decide), if_pos (by decide), if_pos (by decide), if_pos (by decide), if_pos (by decide)]
  rfl
end Go.Proofs.Ytceecjhpegiodaa
end
section
/-
  What is known of arguments: their numbers fit.
-/
set_option linter.unusedVariables false
set_option linter.unusedSimpArgs false
namespace Go.Proofs.Ytceecjhpegiodaa
theorem wf_U {x : Int} (h : (Lit.int .u64 x).wf = true) : U x := by
  have : 0 ≤ x ∧ x ≤ 18446744073709551615 := by simpa [Lit.wf, IntKind.min, IntKind.max, IntKind.signed, IntKind.bits, Int.lt_add_one_iff, Int.le_sub_one_iff] using h
  unfold U; omega
theorem wf_u32 {x : Int} (h : (Lit.int .u32 x).wf = true) : 0 ≤ x ∧ x < 4294967296 := by
  have : 0 ≤ x ∧ x ≤ 4294967295 := by simpa [Lit.wf, IntKind.min, IntKind.max, IntKind.signed, IntKind.bits, Int.lt_add_one_iff, Int.le_sub_one_iff] using h
  omega
theorem wf_u16 {x : Int} (h : (Lit.int .u16 x).wf = true) : 0 ≤ x ∧ x < 65536 := by
  have : 0 ≤ x ∧ x ≤ 65535 := by simpa [Lit.wf, IntKind.min, IntKind.max, IntKind.signed, IntKind.bits, Int.lt_add_one_iff, Int.le_sub_one_iff] using h
  omega
theorem wf_u8 {x : Int} (h : (Lit.int .u8 x).wf = true) : 0 ≤ x ∧ x < 256 := by
  have : 0 ≤ x ∧ x ≤ 255 := by simpa [Lit.wf, IntKind.min, IntKind.max, IntKind.signed, IntKind.bits, Int.lt_add_one_iff, Int.le_sub_one_iff] using h
  omega
theorem wf_i64 {x : Int} (h : (Lit.int .i64 x).wf = true) : -9223372036854775808 ≤ x ∧ x ≤ 9223372036854775807 := by
  simpa [Lit.wf, IntKind.min, IntKind.max, IntKind.signed, IntKind.bits, Int.lt_add_one_iff, Int.le_sub_one_iff] using h
end Go.Proofs.Ytceecjhpegiodaa
end
section
/-
  The laws of package varint, in plain words.
-/
set_option linter.unusedVariables false
set_option linter.unusedSimpArgs false
namespace Go.Proofs.Ytceecjhpegiodaa

theorem tells_law {x : Int} {s : List UInt8} (hx : U x) : F_tollbarlaw02_VarintTells x s = some true := by
  obtain ⟨x, rfl⟩ := Int.eq_ofNat_of_zero_le hx.lo
  have hx' : x < 18446744073709551616 := by have := hx.hi; omega
  unfold F_tollbarlaw02_VarintTells
  rw [p_vawake]
  dsimp only
  rw [if_pos rfl]
  by_cases hl : 200 < s.length
  · rw [if_pos (by rw [pilt]; simp only [ofN, xlen]; omega)]
  · have he : ∀ x : Int, ieq x x = true := fun x => by rw [pieq]
    rw [if_neg (by rw [pilt]; simp only [ofN, xlen]; omega), p_get (by omega), p_rget (by omega), p_put hx', p_rput hx', p_len hx']
    generalize getV s = g
    obtain ⟨a, b, c⟩ := g
    dsimp only
    rw [if_pos (by rw [pseq]), if_pos (by rw [pieq]; rfl), if_pos (he _), if_pos (he _), he]
theorem p_VarintTells (x : Int) (s : List UInt8) (h1 : (Lit.int .u64 x).wf = true) (h2 : (Ty.bytes 5).rng (.s s)) : F_tollbarlaw02_VarintTells x s = some true := tells_law (wf_U h1)

theorem tk_len (w : List UInt8) (e : Int) : (tkV w e).2.2.length ≤ w.length := by
  unfold tkV
  split
  · simp
  · exact Nat.le_refl _
theorem takes_loop {s2 t1 : List UInt8} (ht : t1.length ≤ 1000000) (h2 : s2.length ≤ 1000) : ∀ (m i n1 n2 : Nat) (e : Int) (w : List UInt8), i + m = s2.length → WS t1 n1 n2 w →
    iter (F_tollbarlaw02_VarintTakes_L1 s2 t1) ((i : Int), n1, n2, e, w, e) = some true := by
  intro m
  have he : ∀ x : Int, ieq x x = true := fun x => by rw [pieq]
  induction m with
  | zero =>
    intro i n1 n2 e w hi hW
    apply iter_inr
    have ht3 : F_varint_Take_3 = some () := by
      unfold F_varint_Take_3 F_octet_Window_Err_3
      dsimp only
      rw [if_neg (by rw [pieq]; omega)]
    unfold F_tollbarlaw02_VarintTakes_L1
    dsimp only
    rw [if_neg (by rw [pilt]; simp only [ofN, xlen]; omega), ht3]
    dsimp only
    rw [he]
  | succ m ih =>
    intro i n1 n2 e w hi hW
    have hlt : i < s2.length := by omega
    have hwl := hW.len
    have hwh := hW.h
    obtain ⟨k1, k2, a1, a2⟩ := p_take2 (e := e) hW ht
    have a3 := p_rtake (w := w) (e := e) (by omega)
    have hl := tk_len w e
    generalize hz : iconv .i64 (irem (getB s2 (toN (i : Int))) 4) = z
    obtain ⟨k3, k4, b1, b2⟩ := p_bytes2 (n := z) (e := e) a2 ht
    have b3 := p_rbytes (n := z) (w := (tkV w e).2.2) (e := e)
    have xl : (ofN (xlen (tkV w e).2.2)) = (ofN (xlen (tkV w e).2.2)) := rfl
    rw [iter_inl (y := (((i + 1 : Nat) : Int), k3, k4, (wB z (tkV w e).2.2 e).2.2, (wB z (tkV w e).2.2 e).2.1, (wB z (tkV w e).2.2 e).2.2))]
    · exact ih (i + 1) k3 k4 _ _ (by omega) b2
    · unfold F_tollbarlaw02_VarintTakes_L1
      dsimp only
      rw [hz, if_pos (by rw [pilt]; simp only [ofN, xlen]; omega), a1, a3, pnext (by omega)]
      generalize tkV w e = g at *
      obtain ⟨x, er, w'⟩ := g
      dsimp only at a2 b1 b3 ⊢
      rw [if_pos (he _), if_pos (he _), p_left a2]
      dsimp only
      rw [if_pos (he _)]
      have ee : F_octet_Window_Err_2 k1 k2 e t1 = some () := rfl
      rw [ee]
      dsimp only
      rw [if_pos (he _), if_pos (by simp only [ofN, xlen]; omega), b1]
      dsimp only
      rw [b3]
      dsimp only
      rw [if_pos (by rw [pseq])]
theorem takes_law {s r : List UInt8} : F_tollbarlaw02_VarintTakes s r = some true := by
  unfold F_tollbarlaw02_VarintTakes
  rw [p_vawake]
  dsimp only
  rw [if_pos rfl]
  by_cases hl : 300 < s.length
  · rw [if_pos (by rw [pilt]; simp only [ofN, xlen]; omega)]
  · rw [if_neg (by rw [pilt]; simp only [ofN, xlen]; omega)]
    by_cases hr : 60 < r.length
    · rw [if_pos (by rw [pilt]; simp only [ofN, xlen]; omega)]
    · rw [if_neg (by rw [pilt]; simp only [ofN, xlen]; omega), p_open (by omega)]
      dsimp only
      exact takes_loop (by omega) (by omega) r.length 0 0 _ 0 s (by omega) (WS.all s)
theorem p_VarintTakes (s r : List UInt8) (h1 : (Ty.bytes 5).rng (.s s)) (h2 : (Ty.bytes 5).rng (.s r)) : F_tollbarlaw02_VarintTakes s r = some true := takes_law

/-- Many numbers' bytes. -/
def allV : List Int → List UInt8
  | [] => []
  | x :: l => putV x.toNat ++ allV l
theorem allV_app : ∀ a b : List Int, allV (a ++ b) = allV a ++ allV b
  | [], b => rfl
  | x :: a, b => by
    show putV x.toNat ++ allV (a ++ b) = putV x.toNat ++ allV a ++ allV b
    rw [allV_app a b, List.append_assoc]
theorem allV_take {l : List Int} {i : Nat} (h : i < l.length) : allV (l.take (i + 1)) = allV (l.take i) ++ putV l[i].toNat := by
  rw [List.take_succ_eq_append_getElem h, allV_app]
  show _ ++ (putV l[i].toNat ++ []) = _
  rw [List.append_nil]
theorem allV_drop {l : List Int} {i : Nat} (h : i < l.length) : allV (l.drop i) = putV l[i].toNat ++ allV (l.drop (i + 1)) := by
  rw [List.drop_eq_getElem_cons h]
  rfl
theorem allV_len : ∀ l : List Int, (∀ x ∈ l, U x) → (allV l).length ≤ 10 * l.length
  | [], _ => by simp [allV]
  | x :: l, h => by
    have h1 := allV_len l (fun y hy => h y (by simp [hy]))
    have hx := h x (by simp)
    have h2 := putV_10 (x := x.toNat) (by have := hx.lo; have := hx.hi; omega)
    show (putV x.toNat ++ allV l).length ≤ _
    rw [List.length_append, List.length_cons]
    omega
theorem back_L2 {l : List Int} (hu : ∀ x ∈ l, U x) (hl : l.length ≤ 60) : ∀ (m i n1 n2 : Nat), i + m = l.length → WS (allV l) n1 n2 (allV (l.drop i)) →
    iter (F_tollbarlaw02_VarintBack_L2 l (allV l)) ((i : Int), n1, n2, 0) = some true := by
  intro m
  have he : ∀ x : Int, ieq x x = true := fun x => by rw [pieq]
  have hal := allV_len l hu
  have xl : ofN (xlen l) = (l.length : Int) := rfl
  induction m with
  | zero =>
    intro i n1 n2 hi hW
    have e0 : l.drop i = [] := by rw [List.drop_eq_nil_iff]; omega
    rw [e0] at hW
    obtain ⟨k1, k2, a1, a2⟩ := p_take2 (e := 0) hW (by omega)
    have et : tkV [] 0 = (0, 10, []) := by decide
    have ea : allV [] = [] := rfl
    rw [ea, et] at a1 a2
    apply iter_inr
    unfold F_tollbarlaw02_VarintBack_L2
    dsimp only
    rw [xl, if_neg (by rw [pilt]; omega), a1]
    dsimp only
    rw [p_left a2]
    dsimp only
    have ee : F_octet_Window_Err_2 k1 k2 0 (allV l) = some () := rfl
    rw [if_pos (by rw [pieq]; rfl), if_pos (he _), ee]
    dsimp only
    rw [if_pos (he _)]
    by_cases h0 : l.length = 0
    · rw [if_pos (by rw [pieq]; omega)]
    · have em : isub .i64 (l.length : Int) 1 = ((l.length - 1 : Nat) : Int) := by simp only [isub]; rw [pwi64 (by omega) (by omega)]; omega
      have hlt : l.length - 1 < l.length := by omega
      have hm : l[l.length - 1] ∈ l := List.getElem_mem hlt
      have hx := hu _ hm
      have eg : getI l (toN ((l.length - 1 : Nat) : Int)) = (((l[l.length - 1]).toNat : Nat) : Int) := by
        rw [ptoN, pgetI hlt]
        have := hx.lo
        omega
      have hx' : (l[l.length - 1]).toNat < 18446744073709551616 := by have := hx.lo; have := hx.hi; omega
      generalize (l[l.length - 1]).toNat = x at *
      have h10 := putV_10 hx'
      have xp : ofN (xlen (putV x)) = (((putV x).length : Nat) : Int) := rfl
      have em2 : isub .i64 (((putV x).length : Nat) : Int) 1 = (((putV x).length - 1 : Nat) : Int) := by simp only [isub]; rw [pwi64 (by omega) (by omega)]; omega
      have ec : lsub (putV x) 0 (toN (((putV x).length - 1 : Nat) : Int)) = (putV x).take ((putV x).length - 1) := rfl
      rw [if_neg (by rw [pieq]; omega), em, if_pos (by omega), eg, p_put hx']
      dsimp only
      rw [xp, em2, if_pos (by omega), ec, p_get (by rw [List.length_take]; omega), getV_cutoff hx']
      dsimp only
      rw [if_pos (he _), he]
  | succ m ih =>
    intro i n1 n2 hi hW
    have hlt : i < l.length := by omega
    have hx := hu _ (List.getElem_mem hlt)
    have hx' : (l[i]).toNat < 18446744073709551616 := by have := hx.lo; have := hx.hi; omega
    rw [allV_drop hlt] at hW
    obtain ⟨k1, k2, a1, a2⟩ := p_take2 (e := 0) hW (by omega)
    have et : tkV (putV l[i].toNat ++ allV (l.drop (i + 1))) 0 = (((l[i].toNat : Nat) : Int), 0, allV (l.drop (i + 1))) := by
      unfold tkV
      rw [if_pos rfl, getV_put hx']
      dsimp only
      rw [Int.toNat_natCast, List.drop_left]
    rw [et] at a1 a2
    have eg : getI l (toN (i : Int)) = ((l[i].toNat : Nat) : Int) := by
      rw [ptoN, pgetI hlt]
      have := hx.lo
      omega
    rw [iter_inl (y := (((i + 1 : Nat) : Int), k1, k2, 0))]
    · exact ih (i + 1) k1 k2 (by omega) a2
    · unfold F_tollbarlaw02_VarintBack_L2
      dsimp only
      rw [xl, if_pos (by rw [pilt]; omega), a1]
      dsimp only
      rw [if_pos (by omega), eg, if_pos (he _), if_pos (he _), pnext (by omega)]
theorem back_L1 {l : List Int} (hu : ∀ x ∈ l, U x) (hl : l.length ≤ 60) : ∀ (m i : Nat), i + m = l.length →
    iter (F_tollbarlaw02_VarintBack_L1 l) ((i : Int), allV (l.take i)) = some true := by
  intro m
  have he : ∀ x : Int, ieq x x = true := fun x => by rw [pieq]
  have hal := allV_len l hu
  have xl : ofN (xlen l) = (l.length : Int) := rfl
  induction m with
  | zero =>
    intro i hi
    have e0 : l.take i = l := List.take_of_length_le (by omega)
    rw [e0]
    apply iter_inr
    unfold F_tollbarlaw02_VarintBack_L1
    dsimp only
    rw [xl, if_neg (by rw [pilt]; omega), p_open (by omega)]
    dsimp only
    have h := back_L2 hu hl l.length 0 0 (xlen (allV l)) (by omega) (WS.all (allV l))
    have h' : iter (F_tollbarlaw02_VarintBack_L2 l (allV l)) (0, 0, xlen (allV l), 0) = some true := h
    rw [h']
    rfl
  | succ m ih =>
    intro i hi
    have hlt : i < l.length := by omega
    have hx := hu _ (List.getElem_mem hlt)
    have hx' : (l[i]).toNat < 18446744073709551616 := by have := hx.lo; have := hx.hi; omega
    have eg : getI l (toN (i : Int)) = ((l[i].toNat : Nat) : Int) := by
      rw [ptoN, pgetI hlt]
      have := hx.lo
      omega
    have h10 := putV_10 hx'
    have h1 := allV_len (l.take i) (fun x hx => hu x (List.mem_of_mem_take hx))
    rw [List.length_take] at h1
    have xp : ofN (xlen (putV l[i].toNat)) = (((putV l[i].toNat).length : Nat) : Int) := rfl
    rw [iter_inl (y := (((i + 1 : Nat) : Int), allV (l.take (i + 1))))]
    · exact ih (i + 1) (by omega)
    · unfold F_tollbarlaw02_VarintBack_L1
      dsimp only
      rw [xl, eg, if_pos (by rw [pilt]; omega), if_pos (by omega), p_put hx', p_len hx']
      dsimp only
      rw [if_pos (by omega), xp, if_pos (he _), if_neg (by rw [pilt]; omega), if_neg (by rw [pilt]; omega), if_pos (by simp only [xlen]; omega), pnext (by omega), allV_take hlt]
      rfl
theorem back_law {l : List Int} (hu : ∀ x ∈ l, U x) : F_tollbarlaw02_VarintBack l = some true := by
  unfold F_tollbarlaw02_VarintBack
  rw [p_vawake]
  dsimp only
  rw [if_pos rfl]
  by_cases hl : 60 < l.length
  · rw [if_pos (by rw [pilt]; simp only [ofN, xlen]; omega)]
  · rw [if_neg (by rw [pilt]; simp only [ofN, xlen]; omega)]
    exact back_L1 hu (by omega) l.length 0 (by omega)
theorem p_VarintBack (l : List Int) (h1 : (Ty.ints 22 .u64).rng (.is l)) : F_tollbarlaw02_VarintBack l = some true :=
  back_law (fun x hx => wf_U (h1.2 x hx))

theorem own_tail {x y : Nat} (hx : x < 18446744073709551616) (hy : y < 18446744073709551616) :
    (match F_varint_Put (x : Int) with
      | none => none
      | some t2 =>
        match F_varint_Put (y : Int) with
        | none => none
        | some t3 =>
          if (beq2 (seq t2 t3) (ieq (x : Int) (y : Int))) = true then
            if (ilt (x : Int) (y : Int)) = true then
              if (ilt (ofN (xlen t3)) (ofN (xlen t2))) = true then some false
              else
                if (ieq (x : Int) (y : Int)) = true then some true
                else
                  if (ilt (ofN (xlen t3)) (ofN (xlen t2))) = true then some true
                  else
                    if 0 ≤ (ofN (xlen t2)) ∧ (ofN (xlen t2)) ≤ (ofN (xlen t3)) then some (bnot (seq (lsub t3 0 (toN (ofN (xlen t2)))) t2)) else none
            else
              if (ieq (x : Int) (y : Int)) = true then some true
              else
                if (ilt (ofN (xlen t3)) (ofN (xlen t2))) = true then some true
                else
                  if 0 ≤ (ofN (xlen t2)) ∧ (ofN (xlen t2)) ≤ (ofN (xlen t3)) then some (bnot (seq (lsub t3 0 (toN (ofN (xlen t2)))) t2)) else none
          else some false) = some true := by
  rw [p_put hx, p_put hy]
  dsimp only
  have hb : beq2 (seq (putV x) (putV y)) (ieq (x : Int) (y : Int)) = true := by
    by_cases h : x = y
    · subst h
      have h1 : seq (putV x) (putV x) = true := by rw [pseq]
      have h2 : ieq (x : Int) (x : Int) = true := by rw [pieq]
      rw [h1, h2]
      rfl
    · have h1 : seq (putV x) (putV y) = false := by
        rw [Bool.eq_false_iff, Ne, pseq]
        exact fun e => h (putV_inj e)
      have h2 : ieq (x : Int) (y : Int) = false := by
        rw [Bool.eq_false_iff, Ne, pieq]
        omega
      rw [h1, h2]
      rfl
  rw [if_pos hb]
  have xa : ofN (xlen (putV x)) = (((putV x).length : Nat) : Int) := rfl
  have xb : ofN (xlen (putV y)) = (((putV y).length : Nat) : Int) := rfl
  rw [xa, xb]
  have ec : lsub (putV y) 0 (toN (((putV x).length : Nat) : Int)) = (putV y).take (putV x).length := rfl
  rw [ec]
  have last : x ≠ y → ¬ (putV y).length < (putV x).length → bnot (seq ((putV y).take (putV x).length) (putV x)) = true := by
    intro hn hlen
    have : seq ((putV y).take (putV x).length) (putV x) = false := by
      rw [Bool.eq_false_iff, Ne, pseq]
      exact fun e => hn (putV_pre (by omega) e)
    rw [this]
    rfl
  by_cases hlt : x < y
  · have hm := putV_mono x x y (Nat.le_refl _) (by omega)
    rw [if_pos (by rw [pilt]; omega), if_neg (by rw [pilt]; omega), if_neg (by rw [pieq]; omega), if_neg (by rw [pilt]; omega), if_pos (by omega), last (by omega) (by omega)]
  · rw [if_neg (by rw [pilt]; omega)]
    by_cases he : x = y
    · rw [if_pos (by rw [pieq]; omega)]
    · rw [if_neg (by rw [pieq]; omega)]
      by_cases hl : (putV y).length < (putV x).length
      · rw [if_pos (by rw [pilt]; omega)]
      · rw [if_neg (by rw [pilt]; omega), if_pos (by omega), last he hl]
theorem own_law {s : List UInt8} {x y : Int} (hx : U x) (hy : U y) : F_tollbarlaw02_VarintOwn s x y = some true := by
  obtain ⟨x, rfl⟩ := Int.eq_ofNat_of_zero_le hx.lo
  have hx' : x < 18446744073709551616 := by have := hx.hi; omega
  obtain ⟨y, rfl⟩ := Int.eq_ofNat_of_zero_le hy.lo
  have hy' : y < 18446744073709551616 := by have := hy.hi; omega
  have he : ∀ x : Int, ieq x x = true := fun x => by rw [pieq]
  have ht := own_tail hx' hy'
  unfold F_tollbarlaw02_VarintOwn
  rw [p_vawake]
  dsimp only
  rw [if_pos rfl]
  by_cases hl : 100 < s.length
  · rw [if_pos (by rw [pilt]; simp only [ofN, xlen]; omega)]
  · rw [if_neg (by rw [pilt]; simp only [ofN, xlen]; omega), p_get (by omega)]
    have xs : ofN (xlen s) = (s.length : Int) := rfl
    rcases getV_own s with ⟨v, n, hv, h1, h2, h3, h4⟩ | ⟨e, h1, h2⟩
    · rw [h3]
      dsimp only
      have ec : lsub s 0 (toN (n : Int)) = s.take n := rfl
      rw [xs, if_pos (he _), if_neg (by rw [pilt]; omega), if_neg (by rw [pilt]; omega), p_put hv]
      dsimp only
      rw [if_pos (by omega), ec, if_pos (by rw [pseq]; exact h4), if_pos (he _)]
      exact ht
    · rw [h2]
      dsimp only
      rw [if_neg (by rw [pieq]; exact h1), if_neg (by rw [pieq]; exact h1), if_pos (he _), if_pos (he _)]
      exact ht
theorem p_VarintOwn (s : List UInt8) (x y : Int) (h1 : (Ty.bytes 5).rng (.s s)) (h2 : (Lit.int .u64 x).wf = true) (h3 : (Lit.int .u64 y).wf = true) : F_tollbarlaw02_VarintOwn s x y = some true := own_law (wf_U h2) (wf_U h3)
end Go.Proofs.Ytceecjhpegiodaa
end
