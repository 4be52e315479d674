/-
  Texts that the row of this claim stands on, one behind the other.
-/
import Derived.Below
import Derived.Deep.Slices
import Derived.ChangeArms
import Derived.Test.YtojbpjcfdjakkaaKShaperRates1
import Derived.Test.YtojbpjcfdjakkaaKShaperRates2
import Derived.Test.YtojbpjcfdjakkaaKShaperRates3
import Derived.Test.YtojbpjcfdjakkaaKShaperRates4
section
/-
  The walk of (*tollbar/fifo.Queue).at (printed by a program of ours).
-/
set_option linter.unusedVariables false
set_option linter.unusedSimpArgs false
namespace Go.Proofs.Ytojbpjcfdjakkaa
open Go.RowKit
noncomputable def tab_fifo_Queue_at : Nat → Option Con := look []
set_option maxHeartbeats 20000000 in
set_option maxRecDepth 100000 in
theorem vc_fifo_Queue_at (P : Program) (T : Tab P tab_fifo_Queue_at) (hm : P.follows .mixedOrders = true) : FnVC P tab_fifo_Queue_at ic_85 [.t 4] 17 con_fifo_Queue_at := by
 intro cargs ccks ce hce hob C hk
 apply Hidden.out
 replace hce : con_fifo_Queue_at_1 cargs ccks = some ce := hce
 ·unfold con_fifo_Queue_at_1 at hce
  split at hce; rotate_left; cases hce
  obtain rfl := Option.some.inj hce
  rename_i x1 x2 x3 x4 r1
  have hb1 := hob _ (List.mem_singleton.2 rfl)
  have hb2 := obl.1 hb1
  clear hb1 hob hce
  refine hb2.elim fun r hF => ?_
  clear hb2
  simp only [List.length_cons, List.length_nil, Nat.zero_add, Nat.reduceAdd] at hk
  have hr : F_fifo_Queue_at x1 x2 x3 x4 r1 = some r := by rw [lock_eq] at hF; exact hF
  unfold F_fifo_Queue_at at hr
  constructor
  (try cbv)
  refine guard_gr hr (fun g => by first | (simp only [K0, K1, R.len, R.sub]; exact g) | exact g) (fun hr => ?_)
  apply Hidden.out
  have e := Option.some.inj hr
  constructor
  refine ⟨_, hF, ?_⟩
  (try cbv); (try simp only [K0, K1, and_self, and_true, true_and]); (try first | exact e | exact e.symm | (and_intros <;> first | assumption | rfl | exact Eq.symm (by assumption)))
end Go.Proofs.Ytojbpjcfdjakkaa
end
section
/-
  The walk of (*tollbar/fifo.Queue).put (printed by a program of ours).
-/
set_option linter.unusedVariables false
set_option linter.unusedSimpArgs false
namespace Go.Proofs.Ytojbpjcfdjakkaa
open Go.RowKit
noncomputable def tab_fifo_Queue_put : Nat → Option Con := look [(91, con_fifo_Queue_grow), (85, con_fifo_Queue_at)]
set_option maxHeartbeats 20000000 in
set_option maxRecDepth 100000 in
theorem vc_fifo_Queue_put (P : Program) (T : Tab P tab_fifo_Queue_put) (hm : P.follows .mixedOrders = true) : FnVC P tab_fifo_Queue_put ic_67 [] 35 con_fifo_Queue_put := by
 intro cargs ccks ce hce hob C hk
 apply Hidden.out
 replace hce : con_fifo_Queue_put_1 cargs ccks = some ce := hce
 ·unfold con_fifo_Queue_put_1 at hce
  split at hce; rotate_left; cases hce
  obtain rfl := Option.some.inj hce
  rename_i x1 x2 x3 x4 x5 x6 r1
  have hb1 := hob _ (List.mem_singleton.2 rfl)
  have hb2 := obl.1 hb1
  clear hb1 hob hce
  refine hb2.elim fun r hF => ?_
  clear hb2
  simp only [List.length_cons, List.length_nil, Nat.zero_add, Nat.reduceAdd] at hk
  have hr : F_fifo_Queue_put x1 x2 x3 x4 x5 x6 r1 = some r := by rw [lock_eq] at hF; exact hF
  unfold F_fifo_Queue_put at hr
  constructor
  (try cbv)
  refine sel_if (by first | rfl | (simp only [K0, K1]; done) | (simp only [K0, K1]; rfl)) hr (fun h1 hr => ?_) (fun h1 hr => ?_)
  ·(try cbv)
   refine ⟨obl.2 (by have h := bindO_ex hr; first | exact h | (simp only [K0, K1]; exact h)), (by rintro (_) _ <;> cbv), ?_⟩
   intro q1 hx1
   (try simp only [K0, K1] at hx1)
   replace hr := bindO_of hx1 hr
   all_goals ((try dsimp only at hr); constructor; (try cbv))
   refine ⟨(by have h := bindO_ex hr; first | exact h | (simp only [K0, K1]; exact h)), obl.2 (by have h := bindO_ex hr; first | exact h | (simp only [K0, K1]; exact h)), (by rintro (_) _ <;> cbv), ?_⟩
   intro y1 hx2
   (try simp only [K0, K1] at hx2)
   replace hr := bindO_of hx2 hr
   all_goals ((try dsimp only at hr); constructor; (try cbv))
   refine guard_go hr (fun g => by first | (simp only [K0, K1, R.len, R.sub]; exact g) | exact g) (fun hr => ?_)
   apply Hidden.out
   have e := Option.some.inj hr
   obtain ⟨u0, u1, u2⟩ := r
   simp only [Prod.mk.injEq] at e
   obtain ⟨e0, e1, e2⟩ := e
   constructor
   refine ⟨_, hF, ?_⟩
   (try cbv); (try simp only [K0, K1, and_self, and_true, true_and]); (try first | exact e | exact e.symm | (and_intros <;> first | assumption | rfl | exact Eq.symm (by assumption)))
  ·(try cbv)
   refine ⟨(by have h := bindO_ex hr; first | exact h | (simp only [K0, K1]; exact h)), obl.2 (by have h := bindO_ex hr; first | exact h | (simp only [K0, K1]; exact h)), (by rintro (_) _ <;> cbv), ?_⟩
   intro y2 hx3
   (try simp only [K0, K1] at hx3)
   replace hr := bindO_of hx3 hr
   all_goals ((try dsimp only at hr); constructor; (try cbv))
   refine guard_go hr (fun g => by first | (simp only [K0, K1, R.len, R.sub]; exact g) | exact g) (fun hr => ?_)
   apply Hidden.out
   have e := Option.some.inj hr
   obtain ⟨u0, u1, u2⟩ := r
   simp only [Prod.mk.injEq] at e
   obtain ⟨e0, e1, e2⟩ := e
   constructor
   refine ⟨_, hF, ?_⟩
   (try cbv); (try simp only [K0, K1, and_self, and_true, true_and]); (try first | exact e | exact e.symm | (and_intros <;> first | assumption | rfl | exact Eq.symm (by assumption)))
end Go.Proofs.Ytojbpjcfdjakkaa
end
section
/-
  The walk of (*tollbar/fifo.Queue).Push (printed by a program of ours).
-/
set_option linter.unusedVariables false
set_option linter.unusedSimpArgs false
namespace Go.Proofs.Ytojbpjcfdjakkaa
open Go.RowKit
noncomputable def tab_fifo_Queue_Push : Nat → Option Con := look [(67, con_fifo_Queue_put)]
set_option maxHeartbeats 20000000 in
set_option maxRecDepth 100000 in
theorem vc_fifo_Queue_Push (P : Program) (T : Tab P tab_fifo_Queue_Push) (hm : P.follows .mixedOrders = true) : FnVC P tab_fifo_Queue_Push ic_52 [.t 4] 21 con_fifo_Queue_Push := by
 intro cargs ccks ce hce hob C hk
 apply Hidden.out
 replace hce : con_fifo_Queue_Push_1 cargs ccks = some ce := hce
 ·unfold con_fifo_Queue_Push_1 at hce
  split at hce; rotate_left; cases hce
  obtain rfl := Option.some.inj hce
  rename_i x1 x2 x3 x4 x5 x6 r1
  have hb1 := hob _ (List.mem_singleton.2 rfl)
  have hb2 := obl.1 hb1
  clear hb1 hob hce
  refine hb2.elim fun r hF => ?_
  clear hb2
  simp only [List.length_cons, List.length_nil, Nat.zero_add, Nat.reduceAdd] at hk
  have hr : F_fifo_Queue_Push x1 x2 x3 x4 x5 x6 r1 = some r := by rw [lock_eq] at hF; exact hF
  unfold F_fifo_Queue_Push at hr
  constructor
  (try cbv)
  refine sel_if (by first | rfl | (simp only [K0, K1]; done) | (simp only [K0, K1]; rfl)) hr (fun h1 hr => ?_) (fun h1 hr => ?_)
  ·(try cbv)
   apply Hidden.out
   have e := Option.some.inj hr
   obtain ⟨u0, u1, u2, u3⟩ := r
   simp only [Prod.mk.injEq] at e
   obtain ⟨e0, e1, e2, e3⟩ := e
   constructor
   refine ⟨_, hF, ?_⟩
   (try cbv); (try simp only [K0, K1, and_self, and_true, true_and]); (try first | exact e | exact e.symm | (and_intros <;> first | assumption | rfl | exact Eq.symm (by assumption)))
  ·(try cbv)
   refine ⟨obl.2 (by have h := bindO_ex hr; first | exact h | (simp only [K0, K1]; exact h)), (by rintro (⟨_, _, _⟩) _ <;> cbv), ?_⟩
   intro qq hx1
   (try simp only [K0, K1] at hx1)
   replace hr := bindO_of hx1 hr
   rcases qq with ⟨y1, y2, q1⟩
   all_goals ((try dsimp only at hr); constructor; (try cbv))
   apply Hidden.out
   have e := Option.some.inj hr
   obtain ⟨u0, u1, u2, u3⟩ := r
   simp only [Prod.mk.injEq] at e
   obtain ⟨e0, e1, e2, e3⟩ := e
   constructor
   refine ⟨_, hF, ?_⟩
   (try cbv); (try simp only [K0, K1, and_self, and_true, true_and]); (try first | exact e | exact e.symm | (and_intros <;> first | assumption | rfl | exact Eq.symm (by assumption)))
end Go.Proofs.Ytojbpjcfdjakkaa
end
section
/-
  The walk of (*tollbar/shaper.Shaper).Arrive (printed by a program of ours).
-/
set_option linter.unusedVariables false
set_option linter.unusedSimpArgs false
namespace Go.Proofs.Ytojbpjcfdjakkaa
open Go.RowKit
noncomputable def tab_shaper_Shaper_Arrive : Nat → Option Con := look [(51, con_flow_Table_Class), (52, con_fifo_Queue_Push)]
set_option maxHeartbeats 20000000 in
set_option maxRecDepth 100000 in
theorem vc_shaper_Shaper_Arrive (P : Program) (T : Tab P tab_shaper_Shaper_Arrive) (hm : P.follows .mixedOrders = true) : FnVC P tab_shaper_Shaper_Arrive ic_26 [.c 6 3 true, .t 7] 64 con_shaper_Shaper_Arrive := by
 intro cargs ccks ce hce hob C hk
 apply Hidden.out
 replace hce : con_shaper_Shaper_Arrive_1 cargs ccks = some ce := hce
 ·unfold con_shaper_Shaper_Arrive_1 at hce
  split at hce; rotate_left; cases hce; rename_i x1 x2
  split at hce; rotate_left; cases hce
  split at hce; rotate_left; cases hce; rename_i s1 b1 x3 x4
  split at hce; rotate_left; cases hce; rename_i r1
  split at hce; rotate_left; cases hce; rename_i r2
  split at hce; rotate_left; cases hce; rename_i w1 n1
  split at hce; rotate_left; cases hce; rename_i x5 b2
  split at hce; rotate_left; cases hce; rename_i w2 r3
  split at hce; rotate_left; cases hce; rename_i l1
  split at hce; rotate_left; cases hce; rename_i l2
  split at hce
  ·cases hce
  obtain rfl := Option.some.inj hce
  rename_i _ htm
  simp only [Bool.and_eq_true] at htm
  obtain ⟨h1, h2⟩ := htm
  obtain rfl := eq_of_tmeq _ _ h1
  obtain rfl := eq_of_tmeq _ _ h2
  clear h1 h2
  have hb1 := hob _ (List.mem_singleton.2 rfl)
  have hb2 := obl.1 hb1
  clear hb1 hob hce
  refine hb2.elim fun r hF => ?_
  clear hb2
  simp only [List.length_cons, List.length_nil, Nat.zero_add, Nat.reduceAdd] at hk
  have hr : F_shaper_Shaper_Arrive x1 x2 s1 b1 x3 x4 r1 r2 n1 x5 b2 r3 l1 l2 = some r := by rw [lock_eq] at hF; exact hF
  unfold F_shaper_Shaper_Arrive at hr
  constructor
  (try cbv)
  refine sel_if (by first | rfl | (simp only [K0, K1]; done) | (simp only [K0, K1]; rfl)) hr (fun h1 hr => ?_) (fun h1 hr => ?_)
  ·(try cbv)
   apply Hidden.out
   have e := Option.some.inj hr
   obtain ⟨u0, u1, u2, u3, u4, u5⟩ := r
   simp only [Prod.mk.injEq] at e
   obtain ⟨e0, e1, e2, e3, e4, e5⟩ := e
   constructor
   refine ⟨_, hF, ?_⟩
   (try cbv); (try simp only [K0, K1, and_self, and_true, true_and]); (try first | exact e | exact e.symm | (and_intros <;> first | assumption | rfl | exact Eq.symm (by assumption)))
  ·as_aux_lemma =>
   (try cbv)
   refine sel_if (by first | rfl | (simp only [K0, K1]; done) | (simp only [K0, K1]; rfl)) hr (fun h1 hr => ?_) (fun h1 hr => ?_)
   ·(try cbv)
    apply Hidden.out
    have e := Option.some.inj hr
    obtain ⟨u0, u1, u2, u3, u4, u5⟩ := r
    simp only [Prod.mk.injEq] at e
    obtain ⟨e0, e1, e2, e3, e4, e5⟩ := e
    constructor
    refine ⟨_, hF, ?_⟩
    (try cbv); (try simp only [K0, K1, and_self, and_true, true_and]); (try first | exact e | exact e.symm | (and_intros <;> first | assumption | rfl | exact Eq.symm (by assumption)))
   ·(try cbv)
    refine sel_if (by first | rfl | (simp only [K0, K1]; done) | (simp only [K0, K1]; rfl)) hr (fun h1 hr => ?_) (fun h1 hr => ?_)
    ·(try cbv)
     apply Hidden.out
     have e := Option.some.inj hr
     obtain ⟨u0, u1, u2, u3, u4, u5⟩ := r
     simp only [Prod.mk.injEq] at e
     obtain ⟨e0, e1, e2, e3, e4, e5⟩ := e
     constructor
     refine ⟨_, hF, ?_⟩
     (try cbv); (try simp only [K0, K1, and_self, and_true, true_and]); (try first | exact e | exact e.symm | (and_intros <;> first | assumption | rfl | exact Eq.symm (by assumption)))
    ·(try cbv)
     refine sel_if (by first | rfl | (simp only [K0, K1]; done) | (simp only [K0, K1]; rfl)) hr (fun h1 hr => ?_) (fun h1 hr => ?_)
     ·(try cbv)
      apply Hidden.out
      have e := Option.some.inj hr
      obtain ⟨u0, u1, u2, u3, u4, u5⟩ := r
      simp only [Prod.mk.injEq] at e
      obtain ⟨e0, e1, e2, e3, e4, e5⟩ := e
      constructor
      refine ⟨_, hF, ?_⟩
      (try cbv); (try simp only [K0, K1, and_self, and_true, true_and]); (try first | exact e | exact e.symm | (and_intros <;> first | assumption | rfl | exact Eq.symm (by assumption)))
     ·(try cbv)
      refine ⟨(by have h := bindO_ex hr; first | exact h | (simp only [K0, K1]; exact h)), obl.2 (by have h := bindO_ex hr; first | exact h | (simp only [K0, K1]; exact h)), (by rintro (_) _ <;> cbv), ?_⟩
      intro y1 hx1
      (try simp only [K0, K1] at hx1)
      replace hr := bindO_of hx1 hr
      all_goals ((try dsimp only at hr); constructor; (try cbv))
      refine guard_go hr (fun g => by first | (simp only [K0, K1, R.len, R.sub]; exact g) | exact g) (fun hr => ?_)
      refine ⟨(by have h := bindO_ex hr; first | exact h | (simp only [K0, K1]; exact h)), obl.2 (by have h := bindO_ex hr; first | exact h | (simp only [K0, K1]; exact h)), (by rintro (⟨_, _, _, _⟩) _ <;> cbv), ?_⟩
      intro qq hx2
      (try simp only [K0, K1] at hx2)
      replace hr := bindO_of hx2 hr
      rcases qq with ⟨c1, y2, y3, q1⟩
      all_goals ((try dsimp only at hr); constructor; (try cbv))
      refine sel_ifn (by first | rfl | (simp only [K0, K1]; done) | (simp only [K0, K1]; rfl)) hr (fun h1 hr => ?_) (fun h1 hr => ?_)
      ·(try cbv)
       apply Hidden.out
       have e := Option.some.inj hr
       obtain ⟨u0, u1, u2, u3, u4, u5⟩ := r
       simp only [Prod.mk.injEq] at e
       obtain ⟨e0, e1, e2, e3, e4, e5⟩ := e
       constructor
       refine ⟨_, hF, ?_⟩
       (try cbv); (try simp only [K0, K1, and_self, and_true, true_and]); (try first | exact e | exact e.symm | (and_intros <;> first | assumption | rfl | exact Eq.symm (by assumption)))
      ·(try cbv)
       apply Hidden.out
       have e := Option.some.inj hr
       obtain ⟨u0, u1, u2, u3, u4, u5⟩ := r
       simp only [Prod.mk.injEq] at e
       obtain ⟨e0, e1, e2, e3, e4, e5⟩ := e
       constructor
       refine ⟨_, hF, ?_⟩
       (try cbv); (try simp only [K0, K1, and_self, and_true, true_and]); (try first | exact e | exact e.symm | (and_intros <;> first | assumption | rfl | exact Eq.symm (by assumption)))
end Go.Proofs.Ytojbpjcfdjakkaa
end
section
/-
  The walk of (*tollbar/fifo.Queue).Len (printed by a program of ours).
-/
set_option linter.unusedVariables false
set_option linter.unusedSimpArgs false
namespace Go.Proofs.Ytojbpjcfdjakkaa
open Go.RowKit
noncomputable def tab_fifo_Queue_Len : Nat → Option Con := look []
set_option maxHeartbeats 20000000 in
set_option maxRecDepth 100000 in
theorem vc_fifo_Queue_Len (P : Program) (T : Tab P tab_fifo_Queue_Len) (hm : P.follows .mixedOrders = true) : FnVC P tab_fifo_Queue_Len ic_33 [.t 2] 9 con_fifo_Queue_Len := by
 intro cargs ccks ce hce hob C hk
 apply Hidden.out
 replace hce : con_fifo_Queue_Len_1 cargs ccks = some ce := hce
 ·unfold con_fifo_Queue_Len_1 at hce
  split at hce; rotate_left; cases hce
  obtain rfl := Option.some.inj hce
  rename_i x1 x2 x3 r1
  have hb1 := hob _ (List.mem_singleton.2 rfl)
  have hb2 := obl.1 hb1
  clear hb1 hob hce
  refine hb2.elim fun r hF => ?_
  clear hb2
  simp only [List.length_cons, List.length_nil, Nat.zero_add, Nat.reduceAdd] at hk
  have hr : F_fifo_Queue_Len x1 x2 x3 r1 = some r := by rw [lock_eq] at hF; exact hF
  unfold F_fifo_Queue_Len at hr
  constructor
  (try cbv)
  apply Hidden.out
  have e := Option.some.inj hr
  constructor
  refine ⟨_, hF, ?_⟩
  (try cbv); (try simp only [K0, K1, and_self, and_true, true_and]); (try first | exact e | exact e.symm | (and_intros <;> first | assumption | rfl | exact Eq.symm (by assumption)))
end Go.Proofs.Ytojbpjcfdjakkaa
end
section
/-
  The walk of (*tollbar/fifo.Queue).Head (printed by a program of ours).
-/
set_option linter.unusedVariables false
set_option linter.unusedSimpArgs false
namespace Go.Proofs.Ytojbpjcfdjakkaa
open Go.RowKit
noncomputable def tab_fifo_Queue_Head : Nat → Option Con := look [(33, con_fifo_Queue_Len)]
set_option maxHeartbeats 20000000 in
set_option maxRecDepth 100000 in
theorem vc_fifo_Queue_Head (P : Program) (T : Tab P tab_fifo_Queue_Head) (hm : P.follows .mixedOrders = true) : FnVC P tab_fifo_Queue_Head ic_83 [.c 2 3 true, .t 3] 18 con_fifo_Queue_Head := by
 intro cargs ccks ce hce hob C hk
 apply Hidden.out
 replace hce : con_fifo_Queue_Head_1 cargs ccks = some ce := hce
 ·unfold con_fifo_Queue_Head_1 at hce
  split at hce; rotate_left; cases hce
  obtain rfl := Option.some.inj hce
  rename_i x1 x2 x3 r1
  have hb1 := hob _ (List.mem_singleton.2 rfl)
  have hb2 := obl.1 hb1
  clear hb1 hob hce
  refine hb2.elim fun r hF => ?_
  clear hb2
  simp only [List.length_cons, List.length_nil, Nat.zero_add, Nat.reduceAdd] at hk
  have hr : F_fifo_Queue_Head x1 x2 x3 r1 = some r := by rw [lock_eq] at hF; exact hF
  unfold F_fifo_Queue_Head at hr
  constructor
  (try cbv)
  refine ⟨obl.2 (by have h := bindO_ex hr; first | exact h | (simp only [K0, K1]; exact h)), (by rintro (_) _ <;> cbv), ?_⟩
  intro qq hx1
  (try simp only [K0, K1] at hx1)
  replace hr := bindO_of hx1 hr
  rcases qq with _
  all_goals ((try dsimp only at hr); constructor; (try cbv))
  refine sel_if (by first | rfl | (simp only [K0, K1]; done) | (simp only [K0, K1]; rfl)) hr (fun h1 hr => ?_) (fun h1 hr => ?_)
  ·(try cbv)
   apply Hidden.out
   have e := Option.some.inj hr
   obtain ⟨u0, u1, u2, u3⟩ := r
   simp only [Prod.mk.injEq] at e
   obtain ⟨e0, e1, e2, e3⟩ := e
   constructor
   refine ⟨_, hF, ?_⟩
   (try cbv); (try simp only [K0, K1, and_self, and_true, true_and]); (try first | exact e | exact e.symm | (and_intros <;> first | assumption | rfl | exact Eq.symm (by assumption)))
  ·(try cbv)
   refine guard_go hr (fun g => by first | (simp only [K0, K1, R.len, R.sub]; exact g) | exact g) (fun hr => ?_)
   apply Hidden.out
   have e := Option.some.inj hr
   obtain ⟨u0, u1, u2, u3⟩ := r
   simp only [Prod.mk.injEq] at e
   obtain ⟨e0, e1, e2, e3⟩ := e
   constructor
   refine ⟨_, hF, ?_⟩
   (try cbv); (try simp only [K0, K1, and_self, and_true, true_and]); (try first | exact e | exact e.symm | (and_intros <;> first | assumption | rfl | exact Eq.symm (by assumption)))
end Go.Proofs.Ytojbpjcfdjakkaa
end
section
/-
  The walk of (*tollbar/shaper.Shaper).view (printed by a program of ours).
-/
set_option linter.unusedVariables false
set_option linter.unusedSimpArgs false
namespace Go.Proofs.Ytojbpjcfdjakkaa
open Go.RowKit
noncomputable def tab_shaper_Shaper_view : Nat → Option Con := look [(83, con_fifo_Queue_Head)]
set_option maxHeartbeats 20000000 in
set_option maxRecDepth 100000 in
theorem vc_shaper_Shaper_view (P : Program) (T : Tab P tab_shaper_Shaper_view) (hm : P.follows .mixedOrders = true) : FnVC P tab_shaper_Shaper_view ic_54 [.c 4 2 true] 46 con_shaper_Shaper_view := by
 intro cargs ccks ce hce hob C hk
 apply Hidden.out
 replace hce : con_shaper_Shaper_view_1 cargs ccks = some ce := hce
 ·unfold con_shaper_Shaper_view_1 at hce
  split at hce; rotate_left; cases hce
  split at hce; rotate_left; cases hce
  split at hce; rotate_left; cases hce; rename_i s1 b1 x1 x2
  split at hce; rotate_left; cases hce; rename_i s2 x3 x4 x5 x6 b2 x7 x8 x9
  split at hce; rotate_left; cases hce; rename_i r1
  split at hce; rotate_left; cases hce; rename_i r2
  split at hce; rotate_left; cases hce; rename_i w1 n1
  split at hce; rotate_left; cases hce; rename_i x10 b3
  split at hce; rotate_left; cases hce; rename_i x11 x12 x13
  split at hce; rotate_left; cases hce; rename_i w2 r3 n2
  split at hce; rotate_left; cases hce; rename_i l1
  split at hce; rotate_left; cases hce; rename_i l2
  split at hce; rotate_left; cases hce; rename_i r4
  split at hce
  ·cases hce
  obtain rfl := Option.some.inj hce
  rename_i _ htm
  simp only [Bool.and_eq_true] at htm
  obtain ⟨h1, h2⟩ := htm
  obtain rfl := eq_of_tmeq _ _ h1
  obtain rfl := eq_of_tmeq _ _ h2
  clear h1 h2
  have hb1 := hob _ (List.mem_singleton.2 rfl)
  have hb2 := obl.1 hb1
  clear hb1 hob hce
  refine hb2.elim fun r hF => ?_
  clear hb2
  simp only [List.length_cons, List.length_nil, Nat.zero_add, Nat.reduceAdd] at hk
  have hr : F_shaper_Shaper_view s1 b1 x1 x2 s2 x3 x4 x5 x6 b2 x7 x8 x9 r1 r2 n1 x10 b3 x11 x12 x13 r3 n2 l1 l2 r4 = some r := by rw [lock_eq] at hF; exact hF
  unfold F_shaper_Shaper_view at hr
  constructor
  (try cbv)
  refine ⟨obl.2 (by have h := bindO_ex hr; first | exact h | (simp only [K0, K1]; exact h)), (by rintro (⟨_, _, _, _⟩) _ <;> cbv), ?_⟩
  intro qq hx1
  (try simp only [K0, K1] at hx1)
  replace hr := bindO_of hx1 hr
  rcases qq with ⟨y1, y2, y3, c1⟩
  all_goals ((try dsimp only at hr); constructor; (try cbv))
  refine sel_ifn (by first | rfl | (simp only [K0, K1]; done) | (simp only [K0, K1]; rfl)) hr (fun h1 hr => ?_) (fun h1 hr => ?_)
  ·(try cbv)
   apply Hidden.out
   have e := Option.some.inj hr
   obtain ⟨u0, u1⟩ := r
   simp only [Prod.mk.injEq] at e
   obtain ⟨e0, e1⟩ := e
   constructor
   refine ⟨_, hF, ?_⟩
   (try cbv); (try simp only [K0, K1, and_self, and_true, true_and]); (try first | exact e | exact e.symm | (and_intros <;> first | assumption | rfl | exact Eq.symm (by assumption)))
  ·(try cbv)
   refine sel_if (by first | rfl | (simp only [K0, K1]; done) | (simp only [K0, K1]; rfl)) hr (fun h1 hr => ?_) (fun h1 hr => ?_)
   ·(try cbv)
    refine sel_ifn (by first | rfl | (simp only [K0, K1]; done) | (simp only [K0, K1]; rfl)) hr (fun h1 hr => ?_) (fun h1 hr => ?_)
    ·(try cbv)
     apply Hidden.out
     have e := Option.some.inj hr
     obtain ⟨u0, u1⟩ := r
     simp only [Prod.mk.injEq] at e
     obtain ⟨e0, e1⟩ := e
     constructor
     refine ⟨_, hF, ?_⟩
     (try cbv); (try simp only [K0, K1, and_self, and_true, true_and]); (try first | exact e | exact e.symm | (and_intros <;> first | assumption | rfl | exact Eq.symm (by assumption)))
    ·(try cbv)
     apply Hidden.out
     have e := Option.some.inj hr
     obtain ⟨u0, u1⟩ := r
     simp only [Prod.mk.injEq] at e
     obtain ⟨e0, e1⟩ := e
     constructor
     refine ⟨_, hF, ?_⟩
     (try cbv); (try simp only [K0, K1, and_self, and_true, true_and]); (try first | exact e | exact e.symm | (and_intros <;> first | assumption | rfl | exact Eq.symm (by assumption)))
   ·(try cbv)
    apply Hidden.out
    have e := Option.some.inj hr
    obtain ⟨u0, u1⟩ := r
    simp only [Prod.mk.injEq] at e
    obtain ⟨e0, e1⟩ := e
    constructor
    refine ⟨_, hF, ?_⟩
    (try cbv); (try simp only [K0, K1, and_self, and_true, true_and]); (try first | exact e | exact e.symm | (and_intros <;> first | assumption | rfl | exact Eq.symm (by assumption)))
end Go.Proofs.Ytojbpjcfdjakkaa
end
section
/-
  The walk of (*tollbar/drr.Ring).on (printed by a program of ours).
-/
set_option linter.unusedVariables false
set_option linter.unusedSimpArgs false
namespace Go.Proofs.Ytojbpjcfdjakkaa
open Go.RowKit
noncomputable def tab_drr_Ring_on : Nat → Option Con := look []
set_option maxHeartbeats 20000000 in
set_option maxRecDepth 100000 in
theorem vc_drr_Ring_on (P : Program) (T : Tab P tab_drr_Ring_on) (hm : P.follows .mixedOrders = true) : FnVC P tab_drr_Ring_on ic_99 [] 22 con_drr_Ring_on := by
 intro cargs ccks ce hce hob C hk
 apply Hidden.out
 replace hce : con_drr_Ring_on_1 cargs ccks = some ce := hce
 ·unfold con_drr_Ring_on_1 at hce
  split at hce; rotate_left; cases hce
  obtain rfl := Option.some.inj hce
  rename_i x1 b1 l1 l2
  have hb1 := hob _ (List.mem_singleton.2 rfl)
  have hb2 := obl.1 hb1
  clear hb1 hob hce
  refine hb2.elim fun r hF => ?_
  clear hb2
  simp only [List.length_cons, List.length_nil, Nat.zero_add, Nat.reduceAdd] at hk
  have hr : F_drr_Ring_on x1 b1 l1 l2 = some r := by rw [lock_eq] at hF; exact hF
  unfold F_drr_Ring_on at hr
  constructor
  (try cbv)
  refine guard_gr hr (fun g => by first | (simp only [K0, K1, R.len, R.sub]; exact g) | exact g) (fun hr => ?_)
  apply Hidden.out
  have e := Option.some.inj hr
  constructor
  refine ⟨_, hF, ?_⟩
  (try cbv); (try simp only [K0, K1, and_self, and_true, true_and]); (try first | exact e | exact e.symm | (and_intros <;> first | assumption | rfl | exact Eq.symm (by assumption)))
end Go.Proofs.Ytojbpjcfdjakkaa
end
section
/-
  The walk of tollbar/sat.Add (printed by a program of ours).
-/
set_option linter.unusedVariables false
set_option linter.unusedSimpArgs false
namespace Go.Proofs.Ytojbpjcfdjakkaa
open Go.RowKit
noncomputable def tab_sat_Add : Nat → Option Con := look []
set_option maxHeartbeats 20000000 in
set_option maxRecDepth 100000 in
theorem vc_sat_Add (P : Program) (T : Tab P tab_sat_Add) (hm : P.follows .mixedOrders = true) : FnVC P tab_sat_Add ic_97 [.t 4] 13 con_sat_Add := by
 intro cargs ccks ce hce hob C hk
 apply Hidden.out
 replace hce : con_sat_Add_1 cargs ccks = some ce := hce
 ·unfold con_sat_Add_1 at hce
  split at hce; rotate_left; cases hce
  obtain rfl := Option.some.inj hce
  rename_i x1 x2
  have hb1 := hob _ (List.mem_singleton.2 rfl)
  have hb2 := obl.1 hb1
  clear hb1 hob hce
  refine hb2.elim fun r hF => ?_
  clear hb2
  simp only [List.length_cons, List.length_nil, Nat.zero_add, Nat.reduceAdd] at hk
  have hr : F_sat_Add x1 x2 = some r := by rw [lock_eq] at hF; exact hF
  unfold F_sat_Add at hr
  constructor
  (try cbv)
  refine sel_if (by first | rfl | (simp only [K0, K1]; done) | (simp only [K0, K1]; rfl)) hr (fun h1 hr => ?_) (fun h1 hr => ?_)
  ·(try cbv)
   apply Hidden.out
   have e := Option.some.inj hr
   constructor
   refine ⟨_, hF, ?_⟩
   (try cbv); (try simp only [K0, K1, and_self, and_true, true_and]); (try first | exact e | exact e.symm | (and_intros <;> first | assumption | rfl | exact Eq.symm (by assumption)))
  ·(try cbv)
   apply Hidden.out
   have e := Option.some.inj hr
   constructor
   refine ⟨_, hF, ?_⟩
   (try cbv); (try simp only [K0, K1, and_self, and_true, true_and]); (try first | exact e | exact e.symm | (and_intros <;> first | assumption | rfl | exact Eq.symm (by assumption)))
end Go.Proofs.Ytojbpjcfdjakkaa
end
section
/-
  The walk of (*tollbar/drr.Ring).visit (printed by a program of ours).
-/
set_option linter.unusedVariables false
set_option linter.unusedSimpArgs false
namespace Go.Proofs.Ytojbpjcfdjakkaa
open Go.RowKit
noncomputable def tab_drr_Ring_visit : Nat → Option Con := look [(99, con_drr_Ring_on), (97, con_sat_Add)]
set_option maxHeartbeats 20000000 in
set_option maxRecDepth 100000 in
theorem vc_drr_Ring_visit (P : Program) (T : Tab P tab_drr_Ring_visit) (hm : P.follows .mixedOrders = true) : FnVC P tab_drr_Ring_visit ic_84 [.t 4] 71 con_drr_Ring_visit := by
 intro cargs ccks ce hce hob C hk
 apply Hidden.out
 replace hce : con_drr_Ring_visit_1 cargs ccks = some ce := hce
 ·unfold con_drr_Ring_visit_1 at hce
  split at hce; rotate_left; cases hce
  obtain rfl := Option.some.inj hce
  rename_i x1 b1 x2 b2 l1 l2
  have hb1 := hob _ (List.mem_singleton.2 rfl)
  have hb2 := obl.1 hb1
  clear hb1 hob hce
  refine hb2.elim fun r hF => ?_
  clear hb2
  simp only [List.length_cons, List.length_nil, Nat.zero_add, Nat.reduceAdd] at hk
  have hr : F_drr_Ring_visit x1 b1 x2 b2 l1 l2 = some r := by rw [lock_eq] at hF; exact hF
  unfold F_drr_Ring_visit at hr
  constructor
  (try cbv)
  refine guard_go hr (fun g => by first | (simp only [K0, K1, R.len, R.sub]; exact g) | exact g) (fun hr => ?_)
  refine sel_if (by first | rfl | (simp only [K0, K1]; done) | (simp only [K0, K1]; rfl)) hr (fun h1 hr => ?_) (fun h1 hr => ?_)
  ·(try cbv)
   refine ⟨obl.2 (by have h := bindO_ex hr; first | exact h | (simp only [K0, K1]; exact h)), (by rintro (_) _ <;> cbv), ?_⟩
   intro y1 hx1
   (try simp only [K0, K1] at hx1)
   replace hr := bindO_of hx1 hr
   all_goals ((try dsimp only at hr); constructor; (try cbv))
   apply Hidden.out
   have e := Option.some.inj hr
   obtain ⟨u0, u1, u2, u3⟩ := r
   simp only [Prod.mk.injEq] at e
   obtain ⟨e0, e1, e2, e3⟩ := e
   constructor
   refine ⟨_, hF, ?_⟩
   (try cbv); (try simp only [K0, K1, and_self, and_true, true_and]); (try first | exact e | exact e.symm | (and_intros <;> first | assumption | rfl | exact Eq.symm (by assumption)))
  ·as_aux_lemma =>
   (try cbv)
   refine sel_ifn (by first | rfl | (simp only [K0, K1]; done) | (simp only [K0, K1]; rfl)) hr (fun h1 hr => ?_) (fun h1 hr => ?_)
   ·(try cbv)
    refine ⟨obl.2 (by have h := bindO_ex hr; first | exact h | (simp only [K0, K1]; exact h)), (by rintro (_) _ <;> cbv), ?_⟩
    intro y2 hx2
    (try simp only [K0, K1] at hx2)
    replace hr := bindO_of hx2 hr
    all_goals ((try dsimp only at hr); constructor; (try cbv))
    apply Hidden.out
    have e := Option.some.inj hr
    obtain ⟨u0, u1, u2, u3⟩ := r
    simp only [Prod.mk.injEq] at e
    obtain ⟨e0, e1, e2, e3⟩ := e
    constructor
    refine ⟨_, hF, ?_⟩
    (try cbv); (try simp only [K0, K1, and_self, and_true, true_and]); (try first | exact e | exact e.symm | (and_intros <;> first | assumption | rfl | exact Eq.symm (by assumption)))
   ·(try cbv)
    refine sel_ifn (by first | rfl | (simp only [K0, K1]; done) | (simp only [K0, K1]; rfl)) hr (fun h1 hr => ?_) (fun h1 hr => ?_)
    ·(try cbv)
     refine guard_go hr (fun g => by first | (simp only [K0, K1, R.len, R.sub]; exact g) | exact g) (fun hr => ?_)
     refine ⟨(by have h := bindO_ex hr; first | exact h | (simp only [K0, K1]; exact h)), obl.2 (by have h := bindO_ex hr; first | exact h | (simp only [K0, K1]; exact h)), (by rintro (_) _ <;> cbv), ?_⟩
     intro y3 hx3
     (try simp only [K0, K1] at hx3)
     replace hr := bindO_of hx3 hr
     all_goals ((try dsimp only at hr); constructor; (try cbv))
     refine sel_if (by first | rfl | (simp only [K0, K1]; done) | (simp only [K0, K1]; rfl)) hr (fun h1 hr => ?_) (fun h1 hr => ?_)
     ·(try cbv)
      refine ⟨obl.2 (by have h := bindO_ex hr; first | exact h | (simp only [K0, K1]; exact h)), (by rintro (_) _ <;> cbv), ?_⟩
      intro y4 hx4
      (try simp only [K0, K1] at hx4)
      replace hr := bindO_of hx4 hr
      all_goals ((try dsimp only at hr); constructor; (try cbv))
      apply Hidden.out
      have e := Option.some.inj hr
      obtain ⟨u0, u1, u2, u3⟩ := r
      simp only [Prod.mk.injEq] at e
      obtain ⟨e0, e1, e2, e3⟩ := e
      constructor
      refine ⟨_, hF, ?_⟩
      (try cbv); (try simp only [K0, K1, and_self, and_true, true_and]); (try first | exact e | exact e.symm | (and_intros <;> first | assumption | rfl | exact Eq.symm (by assumption)))
     ·(try cbv)
      apply Hidden.out
      have e := Option.some.inj hr
      obtain ⟨u0, u1, u2, u3⟩ := r
      simp only [Prod.mk.injEq] at e
      obtain ⟨e0, e1, e2, e3⟩ := e
      constructor
      refine ⟨_, hF, ?_⟩
      (try cbv); (try simp only [K0, K1, and_self, and_true, true_and]); (try first | exact e | exact e.symm | (and_intros <;> first | assumption | rfl | exact Eq.symm (by assumption)))
    ·(try cbv)
     refine sel_if (by first | rfl | (simp only [K0, K1]; done) | (simp only [K0, K1]; rfl)) hr (fun h1 hr => ?_) (fun h1 hr => ?_)
     ·(try cbv)
      refine ⟨obl.2 (by have h := bindO_ex hr; first | exact h | (simp only [K0, K1]; exact h)), (by rintro (_) _ <;> cbv), ?_⟩
      intro y5 hx5
      (try simp only [K0, K1] at hx5)
      replace hr := bindO_of hx5 hr
      all_goals ((try dsimp only at hr); constructor; (try cbv))
      apply Hidden.out
      have e := Option.some.inj hr
      obtain ⟨u0, u1, u2, u3⟩ := r
      simp only [Prod.mk.injEq] at e
      obtain ⟨e0, e1, e2, e3⟩ := e
      constructor
      refine ⟨_, hF, ?_⟩
      (try cbv); (try simp only [K0, K1, and_self, and_true, true_and]); (try first | exact e | exact e.symm | (and_intros <;> first | assumption | rfl | exact Eq.symm (by assumption)))
     ·(try cbv)
      apply Hidden.out
      have e := Option.some.inj hr
      obtain ⟨u0, u1, u2, u3⟩ := r
      simp only [Prod.mk.injEq] at e
      obtain ⟨e0, e1, e2, e3⟩ := e
      constructor
      refine ⟨_, hF, ?_⟩
      (try cbv); (try simp only [K0, K1, and_self, and_true, true_and]); (try first | exact e | exact e.symm | (and_intros <;> first | assumption | rfl | exact Eq.symm (by assumption)))
end Go.Proofs.Ytojbpjcfdjakkaa
end
section
/-
  The walk of (*tollbar/drr.Ring).Next (printed by a program of ours).
-/
set_option linter.unusedVariables false
set_option linter.unusedSimpArgs false
namespace Go.Proofs.Ytojbpjcfdjakkaa
open Go.RowKit
noncomputable def tab_drr_Ring_Next : Nat → Option Con := look [(84, con_drr_Ring_visit)]
set_option maxHeartbeats 20000000 in
set_option maxRecDepth 100000 in
theorem vc_drr_Ring_Next (P : Program) (T : Tab P tab_drr_Ring_Next) (hm : P.follows .mixedOrders = true) : FnVC P tab_drr_Ring_Next ic_55 [.t 4] 43 con_drr_Ring_Next := by
 intro cargs ccks ce hce hob C hk
 apply Hidden.out
 replace hce : con_drr_Ring_Next_1 cargs ccks = some ce := hce
 ·unfold con_drr_Ring_Next_1 at hce
  split at hce; rotate_left; cases hce
  obtain rfl := Option.some.inj hce
  rename_i r1 x1 b1 l1 l2
  have hb1 := hob _ (List.mem_singleton.2 rfl)
  have hb2 := obl.1 hb1
  clear hb1 hob hce
  refine hb2.elim fun r hF => ?_
  clear hb2
  simp only [List.length_cons, List.length_nil, Nat.zero_add, Nat.reduceAdd] at hk
  have hr : F_drr_Ring_Next r1 x1 b1 l1 l2 = some r := by rw [lock_eq] at hF; exact hF
  unfold F_drr_Ring_Next at hr
  constructor
  (try cbv)
  refine sel_ifn (by first | rfl | (simp only [K0, K1]; done) | (simp only [K0, K1]; rfl)) hr (fun h1 hr => ?_) (fun h1 hr => ?_)
  ·(try cbv)
   apply Hidden.out
   have e := Option.some.inj hr
   obtain ⟨u0, u1, u2, u3⟩ := r
   simp only [Prod.mk.injEq] at e
   obtain ⟨e0, e1, e2, e3⟩ := e
   constructor
   refine ⟨_, hF, ?_⟩
   (try cbv); (try simp only [K0, K1, and_self, and_true, true_and]); (try first | exact e | exact e.symm | (and_intros <;> first | assumption | rfl | exact Eq.symm (by assumption)))
  ·as_aux_lemma =>
   (try cbv)
   refine sel_if (by first | rfl | (simp only [K0, K1]; done) | (simp only [K0, K1]; rfl)) hr (fun h1 hr => ?_) (fun h1 hr => ?_)
   ·(try cbv)
    apply Hidden.out
    have e := Option.some.inj hr
    obtain ⟨u0, u1, u2, u3⟩ := r
    simp only [Prod.mk.injEq] at e
    obtain ⟨e0, e1, e2, e3⟩ := e
    constructor
    refine ⟨_, hF, ?_⟩
    (try cbv); (try simp only [K0, K1, and_self, and_true, true_and]); (try first | exact e | exact e.symm | (and_intros <;> first | assumption | rfl | exact Eq.symm (by assumption)))
   ·(try cbv)
    refine LoopOK.iter T (drawOK T hm) hr (fun | (i1, i2, b2, l3) => ⟨mkFr [(0, (.ptr 0 0)), (1, (.rsl (.row 133 (.st [(.int .u64), .bool]) r1))), (24, (.v (.int .i64 (lock iadd .i64 (lock ofN (lock (@xlen D) r1)) (1 : Int))))), (25, (.v (.int .i64 i1)))] 43 0, [(0, .blk 169 [(.wsl 1), (.v (.int .i64 i2)), (.v (.bool b2)), (.wsl 2)]), (1, .row (.ints 46 .u64 l1)), (2, .row (.ints 46 .u64 l3))], 3⟩) ?_ ?_
    ·rintro ⟨u0, u1, u2, u3⟩ e
     simp only [Prod.mk.injEq] at e
     obtain ⟨e0, e1, e2, e3⟩ := e
     refine le_auto hk ?_
     (try cbv); (try simp only [K0, K1, and_self, and_true, true_and]); (try first | exact e | exact e.symm | (and_intros <;> first | assumption | rfl | exact Eq.symm (by assumption)))
    ·clear hr
     intro x bb1 hr ht1
     obtain ⟨i1, i2, b2, l3⟩ := x
     as_aux_lemma =>
     constructor
     unfold F_drr_Ring_Next_L1 at hr
     (try dsimp only at hr)
     (try cbv)
     refine sel_if (by first | rfl | (simp only [K0, K1]; done) | (simp only [K0, K1]; rfl)) hr (fun h1 hr => ?_) (fun h1 hr => ?_)
     ·(try cbv)
      refine guard_go hr (fun g => by first | (simp only [K0, K1, R.len, R.sub]; exact g) | exact g) (fun hr => ?_)
      refine ⟨obl.2 (by have h := bindO_ex hr; first | exact h | (simp only [K0, K1]; exact h)), (by rintro (⟨_, _, _, _⟩) _ <;> cbv), ?_⟩
      intro qq hx3
      (try simp only [K0, K1] at hx3)
      replace hr := bindO_of hx3 hr
      rcases qq with ⟨c5, y3, c6, m3⟩
      all_goals ((try dsimp only at hr); constructor; (try cbv))
      refine sel_if (by first | rfl | (simp only [K0, K1]; done) | (simp only [K0, K1]; rfl)) hr (fun h1 hr => ?_) (fun h1 hr => ?_)
      ·(try cbv)
       apply Hidden.out
       obtain rfl := Option.some.inj hr
       have e := ht1 _ rfl
       obtain ⟨u0, u1, u2, u3⟩ := r
       simp only [Prod.mk.injEq] at e
       obtain ⟨e0, e1, e2, e3⟩ := e
       constructor
       refine ⟨_, hF, ?_⟩
       (try cbv); (try simp only [K0, K1, and_self, and_true, true_and]); (try first | exact e | exact e.symm | (and_intros <;> first | assumption | rfl | exact Eq.symm (by assumption)))
      ·(try cbv)
       apply Hidden.out
       obtain rfl := Option.some.inj hr
       constructor
       refine ⟨⟨_, rfl⟩, ?_⟩
       rintro ⟨u0, u1, u2, u3⟩ e
       replace e := Sum.inl.inj e
       simp only [Prod.mk.injEq] at e
       obtain ⟨e0, e1, e2, e3⟩ := e
       refine le_auto hk ?_
       (try cbv); (try simp only [K0, K1, and_self, and_true, true_and]); (try first | exact e | exact e.symm | (and_intros <;> first | assumption | rfl | exact Eq.symm (by assumption)))
     ·(try cbv)
      apply Hidden.out
      obtain rfl := Option.some.inj hr
      have e := ht1 _ rfl
      obtain ⟨u0, u1, u2, u3⟩ := r
      simp only [Prod.mk.injEq] at e
      obtain ⟨e0, e1, e2, e3⟩ := e
      constructor
      refine ⟨_, hF, ?_⟩
      (try cbv); (try simp only [K0, K1, and_self, and_true, true_and]); (try first | exact e | exact e.symm | (and_intros <;> first | assumption | rfl | exact Eq.symm (by assumption)))
end Go.Proofs.Ytojbpjcfdjakkaa
end
section
/-
  The walk of (*tollbar/fifo.Queue).Pop (printed by a program of ours).
-/
set_option linter.unusedVariables false
set_option linter.unusedSimpArgs false
namespace Go.Proofs.Ytojbpjcfdjakkaa
open Go.RowKit
noncomputable def tab_fifo_Queue_Pop : Nat → Option Con := look [(83, con_fifo_Queue_Head), (85, con_fifo_Queue_at)]
set_option maxHeartbeats 20000000 in
set_option maxRecDepth 100000 in
theorem vc_fifo_Queue_Pop (P : Program) (T : Tab P tab_fifo_Queue_Pop) (hm : P.follows .mixedOrders = true) : FnVC P tab_fifo_Queue_Pop ic_56 [.c 2 3 true, .t 3] 26 con_fifo_Queue_Pop := by
 intro cargs ccks ce hce hob C hk
 apply Hidden.out
 replace hce : con_fifo_Queue_Pop_1 cargs ccks = some ce := hce
 ·unfold con_fifo_Queue_Pop_1 at hce
  split at hce; rotate_left; cases hce
  obtain rfl := Option.some.inj hce
  rename_i x1 x2 x3 r1
  have hb1 := hob _ (List.mem_singleton.2 rfl)
  have hb2 := obl.1 hb1
  clear hb1 hob hce
  refine hb2.elim fun r hF => ?_
  clear hb2
  simp only [List.length_cons, List.length_nil, Nat.zero_add, Nat.reduceAdd] at hk
  have hr : F_fifo_Queue_Pop x1 x2 x3 r1 = some r := by rw [lock_eq] at hF; exact hF
  unfold F_fifo_Queue_Pop at hr
  constructor
  (try cbv)
  refine ⟨obl.2 (by have h := bindO_ex hr; first | exact h | (simp only [K0, K1]; exact h)), (by rintro (⟨_, _, _, _⟩) _ <;> cbv), ?_⟩
  intro qq hx1
  (try simp only [K0, K1] at hx1)
  replace hr := bindO_of hx1 hr
  rcases qq with ⟨y1, y2, y3, c1⟩
  all_goals ((try dsimp only at hr); constructor; (try cbv))
  refine sel_if (by first | rfl | (simp only [K0, K1]; done) | (simp only [K0, K1]; rfl)) hr (fun h1 hr => ?_) (fun h1 hr => ?_)
  ·(try cbv)
   refine ⟨obl.2 (by have h := bindO_ex hr; first | exact h | (simp only [K0, K1]; exact h)), (by rintro (_) _ <;> cbv), ?_⟩
   intro y4 hx2
   (try simp only [K0, K1] at hx2)
   replace hr := bindO_of hx2 hr
   all_goals ((try dsimp only at hr); constructor; (try cbv))
   apply Hidden.out
   have e := Option.some.inj hr
   obtain ⟨u0, u1, u2, u3, u4, u5⟩ := r
   simp only [Prod.mk.injEq] at e
   obtain ⟨e0, e1, e2, e3, e4, e5⟩ := e
   constructor
   refine ⟨_, hF, ?_⟩
   (try cbv); (try simp only [K0, K1, and_self, and_true, true_and]); (try first | exact e | exact e.symm | (and_intros <;> first | assumption | rfl | exact Eq.symm (by assumption)))
  ·(try cbv)
   apply Hidden.out
   have e := Option.some.inj hr
   obtain ⟨u0, u1, u2, u3, u4, u5⟩ := r
   simp only [Prod.mk.injEq] at e
   obtain ⟨e0, e1, e2, e3, e4, e5⟩ := e
   constructor
   refine ⟨_, hF, ?_⟩
   (try cbv); (try simp only [K0, K1, and_self, and_true, true_and]); (try first | exact e | exact e.symm | (and_intros <;> first | assumption | rfl | exact Eq.symm (by assumption)))
end Go.Proofs.Ytojbpjcfdjakkaa
end
section
/-
  The walk of (tollbar/bucket.Bucket).Take (printed by a program of ours).
-/
set_option linter.unusedVariables false
set_option linter.unusedSimpArgs false
namespace Go.Proofs.Ytojbpjcfdjakkaa
open Go.RowKit
noncomputable def tab_bucket_Bucket_Take : Nat → Option Con := look []
set_option maxHeartbeats 20000000 in
set_option maxRecDepth 100000 in
theorem vc_bucket_Bucket_Take (P : Program) (T : Tab P tab_bucket_Bucket_Take) (hm : P.follows .mixedOrders = true) : FnVC P tab_bucket_Bucket_Take ic_57 [.c 4 3 true, .t 5] 17 con_bucket_Bucket_Take := by
 intro cargs ccks ce hce hob C hk
 apply Hidden.out
 replace hce : con_bucket_Bucket_Take_1 cargs ccks = some ce := hce
 ·unfold con_bucket_Bucket_Take_1 at hce
  split at hce; rotate_left; cases hce
  obtain rfl := Option.some.inj hce
  rename_i x1 x2 x3 x4
  have hb1 := hob _ (List.mem_singleton.2 rfl)
  have hb2 := obl.1 hb1
  clear hb1 hob hce
  refine hb2.elim fun r hF => ?_
  clear hb2
  simp only [List.length_cons, List.length_nil, Nat.zero_add, Nat.reduceAdd] at hk
  have hr : F_bucket_Bucket_Take x1 x2 x3 x4 = some r := by rw [lock_eq] at hF; exact hF
  unfold F_bucket_Bucket_Take at hr
  constructor
  (try cbv)
  refine sel_if (by first | rfl | (simp only [K0, K1]; done) | (simp only [K0, K1]; rfl)) hr (fun h1 hr => ?_) (fun h1 hr => ?_)
  ·(try cbv)
   apply Hidden.out
   have e := Option.some.inj hr
   obtain ⟨u0, u1⟩ := r
   simp only [Prod.mk.injEq] at e
   obtain ⟨e0, e1⟩ := e
   constructor
   refine ⟨_, hF, ?_⟩
   (try cbv); (try simp only [K0, K1, and_self, and_true, true_and]); (try first | exact e | exact e.symm | (and_intros <;> first | assumption | rfl | exact Eq.symm (by assumption)))
  ·(try cbv)
   apply Hidden.out
   have e := Option.some.inj hr
   obtain ⟨u0, u1⟩ := r
   simp only [Prod.mk.injEq] at e
   obtain ⟨e0, e1⟩ := e
   constructor
   refine ⟨_, hF, ?_⟩
   (try cbv); (try simp only [K0, K1, and_self, and_true, true_and]); (try first | exact e | exact e.symm | (and_intros <;> first | assumption | rfl | exact Eq.symm (by assumption)))
end Go.Proofs.Ytojbpjcfdjakkaa
end
section
/-
  The walk of (*tollbar/shaper.Shaper).Next (printed by a program of ours).
-/
set_option linter.unusedVariables false
set_option linter.unusedSimpArgs false
namespace Go.Proofs.Ytojbpjcfdjakkaa
open Go.RowKit
noncomputable def tab_shaper_Shaper_Next : Nat → Option Con := look [(54, con_shaper_Shaper_view), (55, con_drr_Ring_Next), (56, con_fifo_Queue_Pop), (57, con_bucket_Bucket_Take)]
set_option maxHeartbeats 20000000 in
set_option maxRecDepth 100000 in
theorem vc_shaper_Shaper_Next (P : Program) (T : Tab P tab_shaper_Shaper_Next) (hm : P.follows .mixedOrders = true) : FnVC P tab_shaper_Shaper_Next ic_29 [.c 2 3 true, .t 3, .t 4] 80 con_shaper_Shaper_Next := by
 intro cargs ccks ce hce hob C hk
 apply Hidden.out
 replace hce : con_shaper_Shaper_Next_1 cargs ccks = some ce := hce
 ·unfold con_shaper_Shaper_Next_1 at hce
  split at hce; rotate_left; cases hce
  split at hce; rotate_left; cases hce
  split at hce; rotate_left; cases hce; rename_i s1 b1 x1 x2
  split at hce; rotate_left; cases hce; rename_i r1
  split at hce; rotate_left; cases hce; rename_i r2
  split at hce; rotate_left; cases hce; rename_i w1 n1
  split at hce; rotate_left; cases hce; rename_i x3 b2
  split at hce; rotate_left; cases hce; rename_i w2 r3
  split at hce; rotate_left; cases hce; rename_i l1
  split at hce; rotate_left; cases hce; rename_i l2
  split at hce
  ·cases hce
  obtain rfl := Option.some.inj hce
  rename_i _ htm
  simp only [Bool.and_eq_true] at htm
  obtain ⟨h1, h2⟩ := htm
  obtain rfl := eq_of_tmeq _ _ h1
  obtain rfl := eq_of_tmeq _ _ h2
  clear h1 h2
  have hb1 := hob _ (List.mem_singleton.2 rfl)
  have hb2 := obl.1 hb1
  clear hb1 hob hce
  refine hb2.elim fun r hF => ?_
  clear hb2
  simp only [List.length_cons, List.length_nil, Nat.zero_add, Nat.reduceAdd] at hk
  have hr : F_shaper_Shaper_Next s1 b1 x1 x2 r1 r2 n1 x3 b2 r3 l1 l2 = some r := by rw [lock_eq] at hF; exact hF
  unfold F_shaper_Shaper_Next at hr
  constructor
  (try cbv)
  refine LoopOK.iter T (drawOK T hm) hr (fun | (i1, r4, r5) => ⟨mkFr [(0, (.ptr 0 0)), (2, (.ptr 8 0)), (5, (.wsl 9)), (18, (.wsl 3)), (19, (.v (.int .i64 (lock ofN n1)))), (20, (.v (.int .i64 i1)))] 80 0, [(0, .blk 92 [(.str s1), (.v (.bool b1)), (.wsl 1), (.wsl 2), (.v (.int .i64 x1)), (.v (.int .u64 x2)), (.wsl 3), (.ptr 4 0)]), (1, .row (.row 83 (.st [.str, (.int .u64), (.int .u64), (.int .u64), (.int .i64), .bool]) r1)), (2, .row (.row 96 (.st [(.int .i64), (.int .i64), (.int .i64)]) r2)), (3, .prow 98 tm98 n1 10), (4, .blk 169 [(.wsl 6), (.v (.int .i64 x3)), (.v (.bool b2)), (.wsl 7)]), (6, .row (.ints 46 .u64 l1)), (7, .row (.ints 46 .u64 l2)), (8, .blk 75 [(.v (.int .u64 (0 : Int))), (.v (.int .i64 (0 : Int))), (.v (.int .i64 (0 : Int)))]), (9, .row (.row 133 (.st [(.int .u64), .bool]) r4)), (10, .gho tm98 r5 none)], 11⟩) ?_ ?_
  ·rintro ⟨u0, u1, u2⟩ e
   simp only [Prod.mk.injEq] at e
   obtain ⟨e0, e1, e2⟩ := e
   refine le_auto hk ?_
   (try cbv); (try simp only [K0, K1, and_self, and_true, true_and]); (try first | exact e | exact e.symm | (and_intros <;> first | assumption | rfl | exact Eq.symm (by assumption)))
  ·clear hr
   intro x bb1 hr ht1
   obtain ⟨i1, r4, r5⟩ := x
   as_aux_lemma =>
   constructor
   unfold F_shaper_Shaper_Next_L1 at hr
   (try dsimp only at hr)
   (try cbv)
   refine sel_if (by first | rfl | (simp only [K0, K1]; done) | (simp only [K0, K1]; rfl)) hr (fun h1 hr => ?_) (fun h1 hr => ?_)
   ·(try cbv)
    refine guard_go hr (fun g => by first | (simp only [K0, K1, R.len, R.sub]; exact g) | exact g) (fun hr => ?_)
    refine ⟨obl.2 (by have h := bindO_ex hr; first | exact h | (simp only [K0, K1]; exact h)), (by rintro (⟨_, _⟩) _ <;> cbv), ?_⟩
    intro qq hx4
    (try simp only [K0, K1] at hx4)
    replace hr := bindO_of hx4 hr
    rcases qq with ⟨y4, c4⟩
    all_goals ((try dsimp only at hr); constructor; (try cbv))
    refine guard_go hr (fun g => by first | (simp only [K0, K1, R.len, R.sub]; exact g) | exact g) (fun hr => ?_)
    apply Hidden.out
    obtain rfl := Option.some.inj hr
    constructor
    refine ⟨⟨_, rfl⟩, ?_⟩
    rintro ⟨u0, u1, u2⟩ e
    replace e := Sum.inl.inj e
    simp only [Prod.mk.injEq] at e
    obtain ⟨e0, e1, e2⟩ := e
    refine le_auto hk ?_
    (try cbv); (try simp only [K0, K1, and_self, and_true, true_and]); (try first | exact e | exact e.symm | (and_intros <;> first | assumption | rfl | exact Eq.symm (by assumption)))
   ·(try cbv)
    refine ⟨obl.2 (by have h := bindO_ex hr; first | exact h | (simp only [K0, K1]; exact h)), (by rintro (⟨_, _, _, _⟩) _ <;> cbv), ?_⟩
    intro qq hx5
    (try simp only [K0, K1] at hx5)
    replace hr := bindO_of hx5 hr
    rcases qq with ⟨y5, y6, c5, m1⟩
    all_goals ((try dsimp only at hr); constructor; (try cbv))
    refine sel_if (by first | rfl | (simp only [K0, K1]; done) | (simp only [K0, K1]; rfl)) hr (fun h1 hr => ?_) (fun h1 hr => ?_)
    ·(try cbv)
     apply Hidden.out
     obtain rfl := Option.some.inj hr
     have e := ht1 _ rfl
     obtain ⟨u0, u1, u2, u3, u4, u5, u6, u7, u8⟩ := r
     simp only [Prod.mk.injEq] at e
     obtain ⟨e0, e1, e2, e3, e4, e5, e6, e7, e8⟩ := e
     constructor
     refine ⟨_, hF, ?_⟩
     (try cbv); (try simp only [K0, K1, and_self, and_true, true_and]); (try first | exact e | exact e.symm | (and_intros <;> first | assumption | rfl | exact Eq.symm (by assumption)))
    ·(try cbv)
     refine guard_go hr (fun g => by first | (simp only [K0, K1, R.len, R.sub]; exact g) | exact g) (fun hr => ?_)
     refine ⟨obl.2 (by have h := bindO_ex hr; first | exact h | (simp only [K0, K1]; exact h)), (by rintro (⟨_, _, _, _, _, _⟩) _ <;> cbv), ?_⟩
     intro qq hx6
     (try simp only [K0, K1] at hx6)
     replace hr := bindO_of hx6 hr
     rcases qq with ⟨y7, y8, y9, c6, y10, y11⟩
     all_goals ((try dsimp only at hr); constructor; (try cbv))
     refine sel_if (by first | rfl | (simp only [K0, K1]; done) | (simp only [K0, K1]; rfl)) hr (fun h1 hr => ?_) (fun h1 hr => ?_)
     ·(try cbv)
      refine ⟨(by have h := bindO_ex hr; first | exact h | (simp only [K0, K1]; exact h)), obl.2 (by have h := bindO_ex hr; first | exact h | (simp only [K0, K1]; exact h)), (by rintro (⟨_, _⟩) _ <;> cbv), ?_⟩
      intro qq hx7
      (try simp only [K0, K1] at hx7)
      replace hr := bindO_of hx7 hr
      rcases qq with ⟨y12, c7⟩
      all_goals ((try dsimp only at hr); constructor; (try cbv))
      apply Hidden.out
      obtain rfl := Option.some.inj hr
      have e := ht1 _ rfl
      obtain ⟨u0, u1, u2, u3, u4, u5, u6, u7, u8⟩ := r
      simp only [Prod.mk.injEq] at e
      obtain ⟨e0, e1, e2, e3, e4, e5, e6, e7, e8⟩ := e
      constructor
      refine ⟨_, hF, ?_⟩
      (try cbv); (try simp only [K0, K1, and_self, and_true, true_and]); (try first | exact e | exact e.symm | (and_intros <;> first | assumption | rfl | exact Eq.symm (by assumption)))
     ·(try cbv)
      apply Hidden.out
      obtain rfl := Option.some.inj hr
      have e := ht1 _ rfl
      obtain ⟨u0, u1, u2, u3, u4, u5, u6, u7, u8⟩ := r
      simp only [Prod.mk.injEq] at e
      obtain ⟨e0, e1, e2, e3, e4, e5, e6, e7, e8⟩ := e
      constructor
      refine ⟨_, hF, ?_⟩
      (try cbv); (try simp only [K0, K1, and_self, and_true, true_and]); (try first | exact e | exact e.symm | (and_intros <;> first | assumption | rfl | exact Eq.symm (by assumption)))
end Go.Proofs.Ytojbpjcfdjakkaa
end
section
/-
  The walk of tollbar/sat.Mul (printed by a program of ours).
-/
set_option linter.unusedVariables false
set_option linter.unusedSimpArgs false
namespace Go.Proofs.Ytojbpjcfdjakkaa
open Go.RowKit
noncomputable def tab_sat_Mul : Nat → Option Con := look []
set_option maxHeartbeats 20000000 in
set_option maxRecDepth 100000 in
theorem vc_sat_Mul (P : Program) (T : Tab P tab_sat_Mul) (hm : P.follows .mixedOrders = true) : FnVC P tab_sat_Mul ic_98 [.t 4] 16 con_sat_Mul := by
 intro cargs ccks ce hce hob C hk
 apply Hidden.out
 replace hce : con_sat_Mul_1 cargs ccks = some ce := hce
 ·unfold con_sat_Mul_1 at hce
  split at hce; rotate_left; cases hce
  obtain rfl := Option.some.inj hce
  rename_i x1 x2
  have hb1 := hob _ (List.mem_singleton.2 rfl)
  have hb2 := obl.1 hb1
  clear hb1 hob hce
  refine hb2.elim fun r hF => ?_
  clear hb2
  simp only [List.length_cons, List.length_nil, Nat.zero_add, Nat.reduceAdd] at hk
  have hr : F_sat_Mul x1 x2 = some r := by rw [lock_eq] at hF; exact hF
  unfold F_sat_Mul at hr
  constructor
  (try cbv)
  refine sel_if (by first | rfl | (simp only [K0, K1]; done) | (simp only [K0, K1]; rfl)) hr (fun h1 hr => ?_) (fun h1 hr => ?_)
  ·(try cbv)
   refine guard_gr hr (fun g => by first | (simp only [K0, K1, R.len, R.sub]; exact g) | exact g) (fun hr => ?_)
   refine sel_if (by first | rfl | (simp only [K0, K1]; done) | (simp only [K0, K1]; rfl)) hr (fun h1 hr => ?_) (fun h1 hr => ?_)
   ·(try cbv)
    apply Hidden.out
    have e := Option.some.inj hr
    constructor
    refine ⟨_, hF, ?_⟩
    (try cbv); (try simp only [K0, K1, and_self, and_true, true_and]); (try first | exact e | exact e.symm | (and_intros <;> first | assumption | rfl | exact Eq.symm (by assumption)))
   ·(try cbv)
    apply Hidden.out
    have e := Option.some.inj hr
    constructor
    refine ⟨_, hF, ?_⟩
    (try cbv); (try simp only [K0, K1, and_self, and_true, true_and]); (try first | exact e | exact e.symm | (and_intros <;> first | assumption | rfl | exact Eq.symm (by assumption)))
  ·(try cbv)
   apply Hidden.out
   have e := Option.some.inj hr
   constructor
   refine ⟨_, hF, ?_⟩
   (try cbv); (try simp only [K0, K1, and_self, and_true, true_and]); (try first | exact e | exact e.symm | (and_intros <;> first | assumption | rfl | exact Eq.symm (by assumption)))
end Go.Proofs.Ytojbpjcfdjakkaa
end
section
/-
  The walk of tollbar/sat.Fill (printed by a program of ours).
-/
set_option linter.unusedVariables false
set_option linter.unusedSimpArgs false
namespace Go.Proofs.Ytojbpjcfdjakkaa
open Go.RowKit
noncomputable def tab_sat_Fill : Nat → Option Con := look [(98, con_sat_Mul), (97, con_sat_Add)]
set_option maxHeartbeats 20000000 in
set_option maxRecDepth 100000 in
theorem vc_sat_Fill (P : Program) (T : Tab P tab_sat_Fill) (hm : P.follows .mixedOrders = true) : FnVC P tab_sat_Fill ic_82 [.t 8] 18 con_sat_Fill := by
 intro cargs ccks ce hce hob C hk
 apply Hidden.out
 replace hce : con_sat_Fill_1 cargs ccks = some ce := hce
 ·unfold con_sat_Fill_1 at hce
  split at hce; rotate_left; cases hce
  obtain rfl := Option.some.inj hce
  rename_i x1 x2 x3 x4
  have hb1 := hob _ (List.mem_singleton.2 rfl)
  have hb2 := obl.1 hb1
  clear hb1 hob hce
  refine hb2.elim fun r hF => ?_
  clear hb2
  simp only [List.length_cons, List.length_nil, Nat.zero_add, Nat.reduceAdd] at hk
  have hr : F_sat_Fill x1 x2 x3 x4 = some r := by rw [lock_eq] at hF; exact hF
  unfold F_sat_Fill at hr
  constructor
  (try cbv)
  refine ⟨obl.2 (by have h := bindO_ex hr; first | exact h | (simp only [K0, K1]; exact h)), (by rintro (_) _ <;> cbv), ?_⟩
  intro y1 hx1
  (try simp only [K0, K1] at hx1)
  replace hr := bindO_of hx1 hr
  all_goals ((try dsimp only at hr); constructor; (try cbv))
  refine ⟨obl.2 (by have h := bindO_ex hr; first | exact h | (simp only [K0, K1]; exact h)), (by rintro (_) _ <;> cbv), ?_⟩
  intro y2 hx2
  (try simp only [K0, K1] at hx2)
  replace hr := bindO_of hx2 hr
  all_goals ((try dsimp only at hr); constructor; (try cbv))
  apply Hidden.out
  have e := Option.some.inj hr
  constructor
  refine ⟨_, hF, ?_⟩
  (try cbv); (try simp only [K0, K1, and_self, and_true, true_and]); (try first | exact e | exact e.symm | (and_intros <;> first | assumption | rfl | exact Eq.symm (by assumption)))
end Go.Proofs.Ytojbpjcfdjakkaa
end
section
/-
  The walk of (tollbar/bucket.Bucket).Tick (printed by a program of ours).
-/
set_option linter.unusedVariables false
set_option linter.unusedSimpArgs false
namespace Go.Proofs.Ytojbpjcfdjakkaa
open Go.RowKit
noncomputable def tab_bucket_Bucket_Tick : Nat → Option Con := look [(82, con_sat_Fill)]
set_option maxHeartbeats 20000000 in
set_option maxRecDepth 100000 in
theorem vc_bucket_Bucket_Tick (P : Program) (T : Tab P tab_bucket_Bucket_Tick) (hm : P.follows .mixedOrders = true) : FnVC P tab_bucket_Bucket_Tick ic_53 [.c 4 3 true] 15 con_bucket_Bucket_Tick := by
 intro cargs ccks ce hce hob C hk
 apply Hidden.out
 replace hce : con_bucket_Bucket_Tick_1 cargs ccks = some ce := hce
 ·unfold con_bucket_Bucket_Tick_1 at hce
  split at hce; rotate_left; cases hce
  obtain rfl := Option.some.inj hce
  rename_i x1 x2 x3 x4
  have hb1 := hob _ (List.mem_singleton.2 rfl)
  have hb2 := obl.1 hb1
  clear hb1 hob hce
  refine hb2.elim fun r hF => ?_
  clear hb2
  simp only [List.length_cons, List.length_nil, Nat.zero_add, Nat.reduceAdd] at hk
  have hr : F_bucket_Bucket_Tick x1 x2 x3 x4 = some r := by rw [lock_eq] at hF; exact hF
  unfold F_bucket_Bucket_Tick at hr
  constructor
  (try cbv)
  refine ⟨obl.2 (by have h := bindO_ex hr; first | exact h | (simp only [K0, K1]; exact h)), (by rintro (_) _ <;> cbv), ?_⟩
  intro y1 hx1
  (try simp only [K0, K1] at hx1)
  replace hr := bindO_of hx1 hr
  all_goals ((try dsimp only at hr); constructor; (try cbv))
  apply Hidden.out
  have e := Option.some.inj hr
  constructor
  refine ⟨_, hF, ?_⟩
  (try cbv); (try simp only [K0, K1, and_self, and_true, true_and]); (try first | exact e | exact e.symm | (and_intros <;> first | assumption | rfl | exact Eq.symm (by assumption)))
end Go.Proofs.Ytojbpjcfdjakkaa
end
section
/-
  The walk of (*tollbar/shaper.Shaper).Tick (printed by a program of ours).
-/
set_option linter.unusedVariables false
set_option linter.unusedSimpArgs false
namespace Go.Proofs.Ytojbpjcfdjakkaa
open Go.RowKit
noncomputable def tab_shaper_Shaper_Tick : Nat → Option Con := look [(53, con_bucket_Bucket_Tick)]
set_option maxHeartbeats 20000000 in
set_option maxRecDepth 100000 in
theorem vc_shaper_Shaper_Tick (P : Program) (T : Tab P tab_shaper_Shaper_Tick) (hm : P.follows .mixedOrders = true) : FnVC P tab_shaper_Shaper_Tick ic_28 [] 27 con_shaper_Shaper_Tick := by
 intro cargs ccks ce hce hob C hk
 apply Hidden.out
 replace hce : con_shaper_Shaper_Tick_1 cargs ccks = some ce := hce
 ·unfold con_shaper_Shaper_Tick_1 at hce
  split at hce; rotate_left; cases hce; rename_i x1
  split at hce; rotate_left; cases hce
  split at hce; rotate_left; cases hce; rename_i s1 b1 x2 x3
  split at hce; rotate_left; cases hce; rename_i r1
  split at hce; rotate_left; cases hce; rename_i r2
  split at hce; rotate_left; cases hce; rename_i w1 n1
  split at hce; rotate_left; cases hce; rename_i x4 b2
  split at hce; rotate_left; cases hce; rename_i w2 r3
  split at hce; rotate_left; cases hce; rename_i l1
  split at hce; rotate_left; cases hce; rename_i l2
  split at hce
  ·cases hce
  obtain rfl := Option.some.inj hce
  rename_i _ htm
  simp only [Bool.and_eq_true] at htm
  obtain ⟨h1, h2⟩ := htm
  obtain rfl := eq_of_tmeq _ _ h1
  obtain rfl := eq_of_tmeq _ _ h2
  clear h1 h2
  have hb1 := hob _ (List.mem_singleton.2 rfl)
  have hb2 := obl.1 hb1
  clear hb1 hob hce
  refine hb2.elim fun r hF => ?_
  clear hb2
  simp only [List.length_cons, List.length_nil, Nat.zero_add, Nat.reduceAdd] at hk
  have hr : F_shaper_Shaper_Tick x1 s1 b1 x2 x3 r1 r2 n1 x4 b2 r3 l1 l2 = some r := by rw [lock_eq] at hF; exact hF
  unfold F_shaper_Shaper_Tick at hr
  constructor
  (try cbv)
  refine LoopOK.iter T (drawOK T hm) hr (fun | (i1, r4) => ⟨mkFr [(1, (.v (.int .u64 x1))), (11, (.wsl 3)), (12, (.v (.int .i64 (lock ofN n1)))), (13, (.v (.int .i64 i1)))] 27 0, [(0, .blk 92 [(.str s1), (.v (.bool b1)), (.wsl 1), (.wsl 2), (.v (.int .i64 x2)), (.v (.int .u64 x3)), (.wsl 3), (.ptr 4 0)]), (1, .row (.row 83 (.st [.str, (.int .u64), (.int .u64), (.int .u64), (.int .i64), .bool]) r1)), (2, .row (.row 96 (.st [(.int .i64), (.int .i64), (.int .i64)]) r2)), (3, .prow 98 tm98 n1 8), (4, .blk 169 [(.wsl 6), (.v (.int .i64 x4)), (.v (.bool b2)), (.wsl 7)]), (6, .row (.ints 46 .u64 l1)), (7, .row (.ints 46 .u64 l2)), (8, .gho tm98 r4 none)], 9⟩) ?_ ?_
  ·rintro ⟨u0, u1⟩ e
   simp only [Prod.mk.injEq] at e
   obtain ⟨e0, e1⟩ := e
   refine le_auto hk ?_
   (try cbv); (try simp only [K0, K1, and_self, and_true, true_and]); (try first | exact e | exact e.symm | (and_intros <;> first | assumption | rfl | exact Eq.symm (by assumption)))
  ·clear hr
   intro x bb1 hr ht1
   obtain ⟨i1, r4⟩ := x
   as_aux_lemma =>
   constructor
   unfold F_shaper_Shaper_Tick_L1 at hr
   (try dsimp only at hr)
   (try cbv)
   refine sel_if (by first | rfl | (simp only [K0, K1]; done) | (simp only [K0, K1]; rfl)) hr (fun h1 hr => ?_) (fun h1 hr => ?_)
   ·(try cbv)
    refine guard_go hr (fun g => by first | (simp only [K0, K1, R.len, R.sub]; exact g) | exact g) (fun hr => ?_)
    refine ⟨obl.2 (by have h := bindO_ex hr; first | exact h | (simp only [K0, K1]; exact h)), (by rintro (_) _ <;> cbv), ?_⟩
    intro y4 hx4
    (try simp only [K0, K1] at hx4)
    replace hr := bindO_of hx4 hr
    all_goals ((try dsimp only at hr); constructor; (try cbv))
    apply Hidden.out
    obtain rfl := Option.some.inj hr
    constructor
    refine ⟨⟨_, rfl⟩, ?_⟩
    rintro ⟨u0, u1⟩ e
    replace e := Sum.inl.inj e
    simp only [Prod.mk.injEq] at e
    obtain ⟨e0, e1⟩ := e
    refine le_auto hk ?_
    (try cbv); (try simp only [K0, K1, and_self, and_true, true_and]); (try first | exact e | exact e.symm | (and_intros <;> first | assumption | rfl | exact Eq.symm (by assumption)))
   ·(try cbv)
    apply Hidden.out
    obtain rfl := Option.some.inj hr
    have e := ht1 _ rfl
    constructor
    refine ⟨_, hF, ?_⟩
    (try cbv); (try simp only [K0, K1, and_self, and_true, true_and]); (try first | exact e | exact e.symm | (and_intros <;> first | assumption | rfl | exact Eq.symm (by assumption)))
end Go.Proofs.Ytojbpjcfdjakkaa
end
section
/-
  The walk of (*tollbar/shaper.Shaper).Len (printed by a program of ours).
-/
set_option linter.unusedVariables false
set_option linter.unusedSimpArgs false
namespace Go.Proofs.Ytojbpjcfdjakkaa
open Go.RowKit
noncomputable def tab_shaper_Shaper_Len : Nat → Option Con := look [(33, con_fifo_Queue_Len)]
set_option maxHeartbeats 20000000 in
set_option maxRecDepth 100000 in
theorem vc_shaper_Shaper_Len (P : Program) (T : Tab P tab_shaper_Shaper_Len) (hm : P.follows .mixedOrders = true) : FnVC P tab_shaper_Shaper_Len ic_14 [.t 2] 26 con_shaper_Shaper_Len := by
 intro cargs ccks ce hce hob C hk
 apply Hidden.out
 replace hce : con_shaper_Shaper_Len_1 cargs ccks = some ce := hce
 ·unfold con_shaper_Shaper_Len_1 at hce
  split at hce; rotate_left; cases hce
  split at hce; rotate_left; cases hce
  split at hce; rotate_left; cases hce; rename_i s1 b1 x1 x2
  split at hce; rotate_left; cases hce; rename_i r1
  split at hce; rotate_left; cases hce; rename_i r2
  split at hce; rotate_left; cases hce; rename_i w1 n1
  split at hce; rotate_left; cases hce; rename_i x3 b2
  split at hce; rotate_left; cases hce; rename_i w2 r3
  split at hce; rotate_left; cases hce; rename_i l1
  split at hce; rotate_left; cases hce; rename_i l2
  split at hce
  ·cases hce
  obtain rfl := Option.some.inj hce
  rename_i _ htm
  simp only [Bool.and_eq_true] at htm
  obtain ⟨h1, h2⟩ := htm
  obtain rfl := eq_of_tmeq _ _ h1
  obtain rfl := eq_of_tmeq _ _ h2
  clear h1 h2
  have hb1 := hob _ (List.mem_singleton.2 rfl)
  have hb2 := obl.1 hb1
  clear hb1 hob hce
  refine hb2.elim fun r hF => ?_
  clear hb2
  simp only [List.length_cons, List.length_nil, Nat.zero_add, Nat.reduceAdd] at hk
  have hr : F_shaper_Shaper_Len s1 b1 x1 x2 r1 r2 n1 x3 b2 r3 l1 l2 = some r := by rw [lock_eq] at hF; exact hF
  unfold F_shaper_Shaper_Len at hr
  constructor
  (try cbv)
  refine LoopOK.iter T (drawOK T hm) hr (fun | (i1, i2, r4) => ⟨mkFr [(3, (.v (.int .i64 i1))), (11, (.wsl 3)), (12, (.v (.int .i64 (lock ofN n1)))), (13, (.v (.int .i64 i2)))] 26 0, [(0, .blk 92 [(.str s1), (.v (.bool b1)), (.wsl 1), (.wsl 2), (.v (.int .i64 x1)), (.v (.int .u64 x2)), (.wsl 3), (.ptr 4 0)]), (1, .row (.row 83 (.st [.str, (.int .u64), (.int .u64), (.int .u64), (.int .i64), .bool]) r1)), (2, .row (.row 96 (.st [(.int .i64), (.int .i64), (.int .i64)]) r2)), (3, .prow 98 tm98 n1 8), (4, .blk 169 [(.wsl 6), (.v (.int .i64 x3)), (.v (.bool b2)), (.wsl 7)]), (6, .row (.ints 46 .u64 l1)), (7, .row (.ints 46 .u64 l2)), (8, .gho tm98 r4 none)], 9⟩) ?_ ?_
  ·rintro ⟨u0, u1, u2⟩ e
   simp only [Prod.mk.injEq] at e
   obtain ⟨e0, e1, e2⟩ := e
   refine le_auto hk ?_
   (try cbv); (try simp only [K0, K1, and_self, and_true, true_and]); (try first | exact e | exact e.symm | (and_intros <;> first | assumption | rfl | exact Eq.symm (by assumption)))
  ·clear hr
   intro x bb1 hr ht1
   obtain ⟨i1, i2, r4⟩ := x
   as_aux_lemma =>
   constructor
   unfold F_shaper_Shaper_Len_L1 at hr
   (try dsimp only at hr)
   (try cbv)
   refine sel_if (by first | rfl | (simp only [K0, K1]; done) | (simp only [K0, K1]; rfl)) hr (fun h1 hr => ?_) (fun h1 hr => ?_)
   ·(try cbv)
    refine guard_go hr (fun g => by first | (simp only [K0, K1, R.len, R.sub]; exact g) | exact g) (fun hr => ?_)
    refine ⟨obl.2 (by have h := bindO_ex hr; first | exact h | (simp only [K0, K1]; exact h)), (by rintro (_) _ <;> cbv), ?_⟩
    intro qq hx4
    (try simp only [K0, K1] at hx4)
    replace hr := bindO_of hx4 hr
    rcases qq with _
    all_goals ((try dsimp only at hr); constructor; (try cbv))
    apply Hidden.out
    obtain rfl := Option.some.inj hr
    constructor
    refine ⟨⟨_, rfl⟩, ?_⟩
    rintro ⟨u0, u1, u2⟩ e
    replace e := Sum.inl.inj e
    simp only [Prod.mk.injEq] at e
    obtain ⟨e0, e1, e2⟩ := e
    refine le_auto hk ?_
    (try cbv); (try simp only [K0, K1, and_self, and_true, true_and]); (try first | exact e | exact e.symm | (and_intros <;> first | assumption | rfl | exact Eq.symm (by assumption)))
   ·(try cbv)
    apply Hidden.out
    obtain rfl := Option.some.inj hr
    have e := ht1 _ rfl
    obtain ⟨u0, u1⟩ := r
    simp only [Prod.mk.injEq] at e
    obtain ⟨e0, e1⟩ := e
    constructor
    refine ⟨_, hF, ?_⟩
    (try cbv); (try simp only [K0, K1, and_self, and_true, true_and]); (try first | exact e | exact e.symm | (and_intros <;> first | assumption | rfl | exact Eq.symm (by assumption)))
end Go.Proofs.Ytojbpjcfdjakkaa
end
section
/-
  The walk of tollbar/drr.copied (printed by a program of ours).
-/
set_option linter.unusedVariables false
set_option linter.unusedSimpArgs false
namespace Go.Proofs.Ytojbpjcfdjakkaa
open Go.RowKit
noncomputable def tab_drr_copied : Nat → Option Con := look []
set_option maxHeartbeats 20000000 in
set_option maxRecDepth 100000 in
theorem vc_drr_copied (P : Program) (T : Tab P tab_drr_copied) (hm : P.follows .mixedOrders = true) : FnVC P tab_drr_copied ic_77 [.c 2 3 true] 18 con_drr_copied := by
 intro cargs ccks ce hce hob C hk
 apply Hidden.out
 replace hce : altC (con_drr_copied_1 cargs ccks) (con_drr_copied_2 cargs ccks) = some ce := hce
 replace hce := altC_inv hce
 rcases hce with hce | hce
 ·unfold con_drr_copied_1 at hce
  split at hce; rotate_left; cases hce
  obtain rfl := Option.some.inj hce
  rename_i x1 b1 l1
  have hb1 := hob _ (List.mem_singleton.2 rfl)
  have hb2 := obl.1 hb1
  clear hb1 hob hce
  refine hb2.elim fun r hF => ?_
  clear hb2
  simp only [List.length_cons, List.length_nil, Nat.zero_add, Nat.reduceAdd] at hk
  have hr : F_drr_copied x1 b1 l1 = some r := by rw [lock_eq] at hF; exact hF
  unfold F_drr_copied at hr
  constructor
  (try cbv)
  refine guard_go hr (fun g => by first | (simp only [K0, K1, R.len, R.sub]; exact g) | exact g) (fun hr => ?_)
  apply Hidden.out
  have e := Option.some.inj hr
  constructor
  refine ⟨_, hF, ?_⟩
  (try cbv); (try simp only [K0, K1, and_self, and_true, true_and]); (try first | exact e | exact e.symm | (and_intros <;> first | assumption | rfl | exact Eq.symm (by assumption)))
 ·unfold con_drr_copied_2 at hce
  split at hce; rotate_left; cases hce
  obtain rfl := Option.some.inj hce
  rename_i x1 b1
  have hb1 := hob _ (List.mem_singleton.2 rfl)
  have hb2 := obl.1 hb1
  clear hb1 hob hce
  refine hb2.elim fun r hF => ?_
  clear hb2
  simp only [List.length_cons, List.length_nil, Nat.zero_add, Nat.reduceAdd] at hk
  have hr : F_drr_copied_2 x1 b1 = some r := by rw [lock_eq] at hF; exact hF
  unfold F_drr_copied_2 at hr
  constructor
  (try cbv)
  refine guard_go hr (fun g => by first | (simp only [K0, K1, R.len, R.sub]; exact g) | exact g) (fun hr => ?_)
  apply Hidden.out
  have e := Option.some.inj hr
  constructor
  refine ⟨_, hF, ?_⟩
  (try cbv); (try simp only [K0, K1, and_self, and_true, true_and]); (try first | exact e | exact e.symm | (and_intros <;> first | assumption | rfl | exact Eq.symm (by assumption)))
end Go.Proofs.Ytojbpjcfdjakkaa
end
section
/-
  The walk of (*tollbar/drr.Ring).State (printed by a program of ours).
-/
set_option linter.unusedVariables false
set_option linter.unusedSimpArgs false
namespace Go.Proofs.Ytojbpjcfdjakkaa
open Go.RowKit
noncomputable def tab_drr_Ring_State : Nat → Option Con := look [(77, con_drr_copied)]
set_option maxHeartbeats 20000000 in
set_option maxRecDepth 100000 in
theorem vc_drr_Ring_State (P : Program) (T : Tab P tab_drr_Ring_State) (hm : P.follows .mixedOrders = true) : FnVC P tab_drr_Ring_State ic_48 [.c 2 3 true] 11 con_drr_Ring_State := by
 intro cargs ccks ce hce hob C hk
 apply Hidden.out
 replace hce : con_drr_Ring_State_1 cargs ccks = some ce := hce
 ·unfold con_drr_Ring_State_1 at hce
  split at hce; rotate_left; cases hce
  obtain rfl := Option.some.inj hce
  rename_i x1 b1 l1 l2
  have hb1 := hob _ (List.mem_singleton.2 rfl)
  have hb2 := obl.1 hb1
  clear hb1 hob hce
  refine hb2.elim fun r hF => ?_
  clear hb2
  simp only [List.length_cons, List.length_nil, Nat.zero_add, Nat.reduceAdd] at hk
  have hr : F_drr_Ring_State x1 b1 l1 l2 = some r := by rw [lock_eq] at hF; exact hF
  unfold F_drr_Ring_State at hr
  constructor
  (try cbv)
  refine ⟨obl.2 (by have h := bindO_ex hr; first | exact h | (simp only [K0, K1]; exact h)), (by rintro (_) _ <;> cbv), ?_⟩
  intro m1 hx1
  (try simp only [K0, K1] at hx1)
  replace hr := bindO_of hx1 hr
  all_goals ((try dsimp only at hr); constructor; (try cbv))
  apply Hidden.out
  have e := Option.some.inj hr
  constructor
  refine ⟨_, hF, ?_⟩
  (try cbv); (try simp only [K0, K1, and_self, and_true, true_and]); (try first | exact e | exact e.symm | (and_intros <;> first | assumption | rfl | exact Eq.symm (by assumption)))
end Go.Proofs.Ytojbpjcfdjakkaa
end
section
/-
  The walk of (*tollbar/fifo.Queue).All (printed by a program of ours).
-/
set_option linter.unusedVariables false
set_option linter.unusedSimpArgs false
namespace Go.Proofs.Ytojbpjcfdjakkaa
open Go.RowKit
noncomputable def tab_fifo_Queue_All : Nat → Option Con := look [(33, con_fifo_Queue_Len), (85, con_fifo_Queue_at)]
set_option maxHeartbeats 20000000 in
set_option maxRecDepth 100000 in
theorem vc_fifo_Queue_All (P : Program) (T : Tab P tab_fifo_Queue_All) (hm : P.follows .mixedOrders = true) : FnVC P tab_fifo_Queue_All ic_66 [.t 2] 24 con_fifo_Queue_All := by
 intro cargs ccks ce hce hob C hk
 apply Hidden.out
 replace hce : con_fifo_Queue_All_1 cargs ccks = some ce := hce
 ·unfold con_fifo_Queue_All_1 at hce
  split at hce; rotate_left; cases hce
  obtain rfl := Option.some.inj hce
  rename_i x1 x2 x3 r1
  have hb1 := hob _ (List.mem_singleton.2 rfl)
  have hb2 := obl.1 hb1
  clear hb1 hob hce
  refine hb2.elim fun r hF => ?_
  clear hb2
  simp only [List.length_cons, List.length_nil, Nat.zero_add, Nat.reduceAdd] at hk
  have hr : F_fifo_Queue_All x1 x2 x3 r1 = some r := by rw [lock_eq] at hF; exact hF
  unfold F_fifo_Queue_All at hr
  constructor
  (try cbv)
  refine ⟨obl.2 (by have h := bindO_ex hr; first | exact h | (simp only [K0, K1]; exact h)), (by rintro (_) _ <;> cbv), ?_⟩
  intro qq hx1
  (try simp only [K0, K1] at hx1)
  replace hr := bindO_of hx1 hr
  rcases qq with _
  all_goals ((try dsimp only at hr); constructor; (try cbv))
  refine LoopOK.iter T (drawOK T hm) hr (fun | (i1, r2) => ⟨mkFr [(0, (.ptr 0 0)), (3, (.wsl 2)), (6, (.v (.int .i64 x3))), (7, (.v (.int .i64 i1)))] 24 0, [(0, .blk 144 [(.v (.int .i64 x1)), (.wsl 1), (.v (.int .i64 x2)), (.v (.int .i64 x3))]), (1, .row (.row 75 (.st [(.int .u64), (.int .i64), (.int .i64)]) r1)), (2, .row (.row 75 (.st [(.int .u64), (.int .i64), (.int .i64)]) r2))], 3⟩) ?_ ?_
  ·rintro ⟨u0, u1⟩ e
   simp only [Prod.mk.injEq] at e
   obtain ⟨e0, e1⟩ := e
   refine le_auto hk ?_
   (try cbv); (try simp only [K0, K1, and_self, and_true, true_and]); (try first | exact e | exact e.symm | (and_intros <;> first | assumption | rfl | exact Eq.symm (by assumption)))
  ·clear hr
   intro x bb1 hr ht1
   obtain ⟨i1, r2⟩ := x
   as_aux_lemma =>
   constructor
   unfold F_fifo_Queue_All_L1 at hr
   (try dsimp only at hr)
   (try cbv)
   refine sel_if (by first | rfl | (simp only [K0, K1]; done) | (simp only [K0, K1]; rfl)) hr (fun h1 hr => ?_) (fun h1 hr => ?_)
   ·(try cbv)
    refine ⟨(by have h := bindO_ex hr; first | exact h | (simp only [K0, K1]; exact h)), obl.2 (by have h := bindO_ex hr; first | exact h | (simp only [K0, K1]; exact h)), (by rintro (_) _ <;> cbv), ?_⟩
    intro y4 hx5
    (try simp only [K0, K1] at hx5)
    replace hr := bindO_of hx5 hr
    all_goals ((try dsimp only at hr); constructor; (try cbv))
    refine guard_go hr (fun g => by first | (simp only [K0, K1, R.len, R.sub]; exact g) | exact g) (fun hr => ?_)
    refine guard_go hr (fun g => by first | (simp only [K0, K1, R.len, R.sub]; exact g) | exact g) (fun hr => ?_)
    apply Hidden.out
    obtain rfl := Option.some.inj hr
    constructor
    refine ⟨⟨_, rfl⟩, ?_⟩
    rintro ⟨u0, u1⟩ e
    replace e := Sum.inl.inj e
    simp only [Prod.mk.injEq] at e
    obtain ⟨e0, e1⟩ := e
    refine le_auto hk ?_
    (try cbv); (try simp only [K0, K1, and_self, and_true, true_and]); (try first | exact e | exact e.symm | (and_intros <;> first | assumption | rfl | exact Eq.symm (by assumption)))
   ·(try cbv)
    apply Hidden.out
    obtain rfl := Option.some.inj hr
    have e := ht1 _ rfl
    constructor
    refine ⟨_, hF, ?_⟩
    (try cbv); (try simp only [K0, K1, and_self, and_true, true_and]); (try first | exact e | exact e.symm | (and_intros <;> first | assumption | rfl | exact Eq.symm (by assumption)))
end Go.Proofs.Ytojbpjcfdjakkaa
end
section
/-
  The walk of (*tollbar/shaper.Shaper).queues (printed by a program of ours).
-/
set_option linter.unusedVariables false
set_option linter.unusedSimpArgs false
namespace Go.Proofs.Ytojbpjcfdjakkaa
open Go.RowKit
noncomputable def tab_shaper_Shaper_queues : Nat → Option Con := look [(66, con_fifo_Queue_All)]
set_option maxHeartbeats 20000000 in
set_option maxRecDepth 100000 in
theorem vc_shaper_Shaper_queues (P : Program) (T : Tab P tab_shaper_Shaper_queues) (hm : P.follows .mixedOrders = true) : FnVC P tab_shaper_Shaper_queues ic_36 [.t 2] 25 con_shaper_Shaper_queues := by
 intro cargs ccks ce hce hob C hk
 apply Hidden.out
 replace hce : con_shaper_Shaper_queues_1 cargs ccks = some ce := hce
 ·unfold con_shaper_Shaper_queues_1 at hce
  split at hce; rotate_left; cases hce
  split at hce; rotate_left; cases hce
  split at hce; rotate_left; cases hce; rename_i s1 b1 x1 x2
  split at hce; rotate_left; cases hce; rename_i r1
  split at hce; rotate_left; cases hce; rename_i r2
  split at hce; rotate_left; cases hce; rename_i w1 n1
  split at hce; rotate_left; cases hce; rename_i x3 b2
  split at hce; rotate_left; cases hce; rename_i w2 r3
  split at hce; rotate_left; cases hce; rename_i l1
  split at hce; rotate_left; cases hce; rename_i l2
  split at hce
  ·cases hce
  obtain rfl := Option.some.inj hce
  rename_i _ htm
  simp only [Bool.and_eq_true] at htm
  obtain ⟨h1, h2⟩ := htm
  obtain rfl := eq_of_tmeq _ _ h1
  obtain rfl := eq_of_tmeq _ _ h2
  clear h1 h2
  have hb1 := hob _ (List.mem_singleton.2 rfl)
  have hb2 := obl.1 hb1
  clear hb1 hob hce
  refine hb2.elim fun r hF => ?_
  clear hb2
  simp only [List.length_cons, List.length_nil, Nat.zero_add, Nat.reduceAdd] at hk
  have hr : F_shaper_Shaper_queues s1 b1 x1 x2 r1 r2 n1 x3 b2 r3 l1 l2 = some r := by rw [lock_eq] at hF; exact hF
  unfold F_shaper_Shaper_queues at hr
  constructor
  (try cbv)
  refine LoopOK.iter T (drawOK T hm) hr (fun | (i1, r4, r5) => ⟨mkFr [(3, (.wsl 8)), (9, (.wsl 3)), (10, (.v (.int .i64 (lock ofN n1)))), (11, (.v (.int .i64 i1)))] 25 0, [(0, .blk 92 [(.str s1), (.v (.bool b1)), (.wsl 1), (.wsl 2), (.v (.int .i64 x1)), (.v (.int .u64 x2)), (.wsl 3), (.ptr 4 0)]), (1, .row (.row 83 (.st [.str, (.int .u64), (.int .u64), (.int .u64), (.int .i64), .bool]) r1)), (2, .row (.row 96 (.st [(.int .i64), (.int .i64), (.int .i64)]) r2)), (3, .prow 98 tm98 n1 9), (4, .blk 169 [(.wsl 6), (.v (.int .i64 x3)), (.v (.bool b2)), (.wsl 7)]), (6, .row (.ints 46 .u64 l1)), (7, .row (.ints 46 .u64 l2)), (8, .row (.row 72 (.row 75 (.st [(.int .u64), (.int .i64), (.int .i64)])) r4)), (9, .gho tm98 r5 none)], 10⟩) ?_ ?_
  ·rintro ⟨u0, u1, u2⟩ e
   simp only [Prod.mk.injEq] at e
   obtain ⟨e0, e1, e2⟩ := e
   refine le_auto hk ?_
   (try cbv); (try simp only [K0, K1, and_self, and_true, true_and]); (try first | exact e | exact e.symm | (and_intros <;> first | assumption | rfl | exact Eq.symm (by assumption)))
  ·clear hr
   intro x bb1 hr ht1
   obtain ⟨i1, r4, r5⟩ := x
   as_aux_lemma =>
   constructor
   unfold F_shaper_Shaper_queues_L1 at hr
   (try dsimp only at hr)
   (try cbv)
   refine sel_if (by first | rfl | (simp only [K0, K1]; done) | (simp only [K0, K1]; rfl)) hr (fun h1 hr => ?_) (fun h1 hr => ?_)
   ·(try cbv)
    refine guard_go hr (fun g => by first | (simp only [K0, K1, R.len, R.sub]; exact g) | exact g) (fun hr => ?_)
    refine ⟨obl.2 (by have h := bindO_ex hr; first | exact h | (simp only [K0, K1]; exact h)), (by rintro (_) _ <;> cbv), ?_⟩
    intro q4 hx4
    (try simp only [K0, K1] at hx4)
    replace hr := bindO_of hx4 hr
    all_goals ((try dsimp only at hr); constructor; (try cbv))
    refine guard_go hr (fun g => by first | (simp only [K0, K1, R.len, R.sub]; exact g) | exact g) (fun hr => ?_)
    apply Hidden.out
    obtain rfl := Option.some.inj hr
    constructor
    refine ⟨⟨_, rfl⟩, ?_⟩
    rintro ⟨u0, u1, u2⟩ e
    replace e := Sum.inl.inj e
    simp only [Prod.mk.injEq] at e
    obtain ⟨e0, e1, e2⟩ := e
    refine le_auto hk ?_
    (try cbv); (try simp only [K0, K1, and_self, and_true, true_and]); (try first | exact e | exact e.symm | (and_intros <;> first | assumption | rfl | exact Eq.symm (by assumption)))
   ·(try cbv)
    apply Hidden.out
    obtain rfl := Option.some.inj hr
    have e := ht1 _ rfl
    obtain ⟨u0, u1⟩ := r
    simp only [Prod.mk.injEq] at e
    obtain ⟨e0, e1⟩ := e
    constructor
    refine ⟨_, hF, ?_⟩
    (try cbv); (try simp only [K0, K1, and_self, and_true, true_and]); (try first | exact e | exact e.symm | (and_intros <;> first | assumption | rfl | exact Eq.symm (by assumption)))
end Go.Proofs.Ytojbpjcfdjakkaa
end
section
/-
  The walk of (*tollbar/shaper.Shaper).Snap (printed by a program of ours).
-/
set_option linter.unusedVariables false
set_option linter.unusedSimpArgs false
namespace Go.Proofs.Ytojbpjcfdjakkaa
open Go.RowKit
noncomputable def tab_shaper_Shaper_Snap : Nat → Option Con := look [(48, con_drr_Ring_State), (36, con_shaper_Shaper_queues)]
set_option maxHeartbeats 20000000 in
set_option maxRecDepth 100000 in
theorem vc_shaper_Shaper_Snap (P : Program) (T : Tab P tab_shaper_Shaper_Snap) (hm : P.follows .mixedOrders = true) : FnVC P tab_shaper_Shaper_Snap ic_21 [.c 2 6 true] 42 con_shaper_Shaper_Snap := by
 intro cargs ccks ce hce hob C hk
 apply Hidden.out
 replace hce : con_shaper_Shaper_Snap_1 cargs ccks = some ce := hce
 ·unfold con_shaper_Shaper_Snap_1 at hce
  split at hce; rotate_left; cases hce
  split at hce; rotate_left; cases hce
  split at hce; rotate_left; cases hce; rename_i s1 b1 x1 x2
  split at hce; rotate_left; cases hce; rename_i r1
  split at hce; rotate_left; cases hce; rename_i r2
  split at hce; rotate_left; cases hce; rename_i w1 n1
  split at hce; rotate_left; cases hce; rename_i x3 b2
  split at hce; rotate_left; cases hce; rename_i w2 r3
  split at hce; rotate_left; cases hce; rename_i l1
  split at hce; rotate_left; cases hce; rename_i l2
  split at hce
  ·cases hce
  obtain rfl := Option.some.inj hce
  rename_i _ htm
  simp only [Bool.and_eq_true] at htm
  obtain ⟨h1, h2⟩ := htm
  obtain rfl := eq_of_tmeq _ _ h1
  obtain rfl := eq_of_tmeq _ _ h2
  clear h1 h2
  have hb1 := hob _ (List.mem_singleton.2 rfl)
  have hb2 := obl.1 hb1
  clear hb1 hob hce
  refine hb2.elim fun r hF => ?_
  clear hb2
  simp only [List.length_cons, List.length_nil, Nat.zero_add, Nat.reduceAdd] at hk
  have hr : F_shaper_Shaper_Snap s1 b1 x1 x2 r1 r2 n1 x3 b2 r3 l1 l2 = some r := by rw [lock_eq] at hF; exact hF
  unfold F_shaper_Shaper_Snap at hr
  constructor
  (try cbv)
  refine ⟨(by have h := bindO_ex hr; first | exact h | (simp only [K0, K1]; exact h)), obl.2 (by have h := bindO_ex hr; first | exact h | (simp only [K0, K1]; exact h)), (by rintro (_) _ <;> cbv), ?_⟩
  intro m1 hx1
  (try simp only [K0, K1] at hx1)
  replace hr := bindO_of hx1 hr
  all_goals ((try dsimp only at hr); constructor; (try cbv))
  refine ⟨(by have h := bindO_ex hr; first | exact h | (simp only [K0, K1]; exact h)), obl.2 (by have h := bindO_ex hr; first | exact h | (simp only [K0, K1]; exact h)), (by rintro (⟨_, _⟩) _ <;> cbv), ?_⟩
  intro qq hx2
  (try simp only [K0, K1] at hx2)
  replace hr := bindO_of hx2 hr
  rcases qq with ⟨q1, q2⟩
  all_goals ((try dsimp only at hr); constructor; (try cbv))
  refine LoopOK.iter T (drawOK T hm) hr (fun | (i1, r4, l3) => ⟨mkFr [(2, (.ptr 8 0)), (3, (.ptr 9 0)), (24, (.wsl 3)), (25, (.v (.int .i64 (lock ofN n1)))), (26, (.v (.int .i64 i1)))] 42 0, [(0, .blk 92 [(.str s1), (.v (.bool b1)), (.wsl 1), (.wsl 2), (.v (.int .i64 x1)), (.v (.int .u64 x2)), (.wsl 3), (.ptr 4 0)]), (1, .row (.row 83 (.st [.str, (.int .u64), (.int .u64), (.int .u64), (.int .i64), .bool]) r1)), (2, .row (.row 96 (.st [(.int .i64), (.int .i64), (.int .i64)]) r2)), (3, .prow 98 tm98 n1 10), (4, .blk 169 [(.wsl 6), (.v (.int .i64 x3)), (.v (.bool b2)), (.wsl 7)]), (6, .row (.ints 46 .u64 l1)), (7, .row (.ints 46 .u64 l2)), (8, .blk 67 [(.v (.int .u64 (0 : Int))), .nsl, (.v (.int .i64 (0 : Int))), (.v (.bool false)), .nsl, .nsl]), (9, .blk 67 [(.v (.int .u64 x2)), (.wsl 11), (.v (.int .i64 x3)), (.v (.bool b2)), (.wsl 12), (.wsl 13)]), (10, .gho tm98 r4 none), (11, .row (.ints 46 .u64 l3)), (12, .row (.ints 46 .u64 m1)), (13, .row (.row 72 (.row 75 (.st [(.int .u64), (.int .i64), (.int .i64)])) q1))], 14⟩) ?_ ?_
  ·rintro ⟨u0, u1, u2⟩ e
   simp only [Prod.mk.injEq] at e
   obtain ⟨e0, e1, e2⟩ := e
   refine le_auto hk ?_
   (try cbv); (try simp only [K0, K1, and_self, and_true, true_and]); (try first | exact e | exact e.symm | (and_intros <;> first | assumption | rfl | exact Eq.symm (by assumption)))
  ·clear hr
   intro x bb1 hr ht1
   obtain ⟨i1, r4, l3⟩ := x
   as_aux_lemma =>
   constructor
   unfold F_shaper_Shaper_Snap_L1 at hr
   (try dsimp only at hr)
   (try cbv)
   refine sel_if (by first | rfl | (simp only [K0, K1]; done) | (simp only [K0, K1]; rfl)) hr (fun h1 hr => ?_) (fun h1 hr => ?_)
   ·(try cbv)
    refine guard_go hr (fun g => by first | (simp only [K0, K1, R.len, R.sub]; exact g) | exact g) (fun hr => ?_)
    refine guard_go hr (fun g => by first | (simp only [K0, K1, R.len, R.sub]; exact g) | exact g) (fun hr => ?_)
    apply Hidden.out
    obtain rfl := Option.some.inj hr
    constructor
    refine ⟨⟨_, rfl⟩, ?_⟩
    rintro ⟨u0, u1, u2⟩ e
    replace e := Sum.inl.inj e
    simp only [Prod.mk.injEq] at e
    obtain ⟨e0, e1, e2⟩ := e
    refine le_auto hk ?_
    (try cbv); (try simp only [K0, K1, and_self, and_true, true_and]); (try first | exact e | exact e.symm | (and_intros <;> first | assumption | rfl | exact Eq.symm (by assumption)))
   ·(try cbv)
    apply Hidden.out
    obtain rfl := Option.some.inj hr
    have e := ht1 _ rfl
    obtain ⟨u0, u1, u2, u3⟩ := r
    simp only [Prod.mk.injEq] at e
    obtain ⟨e0, e1, e2, e3⟩ := e
    constructor
    refine ⟨_, hF, ?_⟩
    (try cbv); (try simp only [K0, K1, and_self, and_true, true_and]); (try first | exact e | exact e.symm | (and_intros <;> first | assumption | rfl | exact Eq.symm (by assumption)))
end Go.Proofs.Ytojbpjcfdjakkaa
end
section
/-
  The walk of slices.Equal[[]tollbar/plan.Class,tollbar/plan.Class] (printed by a program of ours).
-/
set_option linter.unusedVariables false
set_option linter.unusedSimpArgs false
namespace Go.Proofs.Ytojbpjcfdjakkaa
open Go.RowKit
noncomputable def tab_slices_EqualC : Nat → Option Con := look []
set_option maxHeartbeats 20000000 in
set_option maxRecDepth 100000 in
theorem vc_slices_EqualC (P : Program) (T : Tab P tab_slices_EqualC) (hm : P.follows .mixedOrders = true) : FnVC P tab_slices_EqualC ic_63 [.t 4] 26 con_slices_EqualC := by
 intro cargs ccks ce hce hob C hk
 apply Hidden.out
 replace hce : con_slices_EqualC_1 cargs ccks = some ce := hce
 ·unfold con_slices_EqualC_1 at hce
  split at hce; rotate_left; cases hce
  obtain rfl := Option.some.inj hce
  rename_i r1 r2
  have hb1 := hob _ (List.mem_singleton.2 rfl)
  have hb2 := obl.1 hb1
  clear hb1 hob hce
  refine hb2.elim fun r hF => ?_
  clear hb2
  simp only [List.length_cons, List.length_nil, Nat.zero_add, Nat.reduceAdd] at hk
  have hr : F_slices_EqualC r1 r2 = some r := by rw [lock_eq] at hF; exact hF
  unfold F_slices_EqualC at hr
  constructor
  (try cbv)
  refine sel_ifn (by first | rfl | (simp only [K0, K1]; done) | (simp only [K0, K1]; rfl)) hr (fun h1 hr => ?_) (fun h1 hr => ?_)
  ·(try cbv)
   apply Hidden.out
   have e := Option.some.inj hr
   constructor
   refine ⟨_, hF, ?_⟩
   (try cbv); (try simp only [K0, K1, and_self, and_true, true_and]); (try first | exact e | exact e.symm | (and_intros <;> first | assumption | rfl | exact Eq.symm (by assumption)))
  ·(try cbv)
   refine LoopOK.iter T (drawOK T hm) hr (fun | i1 => ⟨mkFr [(0, (.rsl (.row 83 (.st [.str, (.int .u64), (.int .u64), (.int .u64), (.int .i64), .bool]) r1))), (1, (.rsl (.row 83 (.st [.str, (.int .u64), (.int .u64), (.int .u64), (.int .i64), .bool]) r2))), (12, (.v (.int .i64 (lock ofN (lock (@xlen D) r1))))), (13, (.v (.int .i64 i1)))] 26 0, [], 0⟩) ?_ ?_
   ·rintro u0 e
    refine le_auto hk ?_
    (try cbv); (try simp only [K0, K1, and_self, and_true, true_and]); (try first | exact e | exact e.symm | (and_intros <;> first | assumption | rfl | exact Eq.symm (by assumption)))
   ·clear hr
    intro x bb1 hr ht1
    obtain ⟨i1, hz⟩ : ∃ z, z = x := ⟨x, rfl⟩
    subst hz
    as_aux_lemma =>
    constructor
    unfold F_slices_EqualC_L1 at hr
    (try dsimp only at hr)
    (try cbv)
    refine sel_if (by first | rfl | (simp only [K0, K1]; done) | (simp only [K0, K1]; rfl)) hr (fun h1 hr => ?_) (fun h1 hr => ?_)
    ·(try cbv)
     refine guard_go hr (fun g => by first | (simp only [K0, K1, R.len, R.sub]; exact g) | exact g) (fun hr => ?_)
     refine guard_go hr (fun g => by first | (simp only [K0, K1, R.len, R.sub]; exact g) | exact g) (fun hr => ?_)
     refine sel_ifn (by first | rfl | (simp only [K0, K1]; done) | (simp only [K0, K1]; rfl)) hr (fun h1 hr => ?_) (fun h1 hr => ?_)
     ·(try cbv)
      apply Hidden.out
      obtain rfl := Option.some.inj hr
      have e := ht1 _ rfl
      constructor
      refine ⟨_, hF, ?_⟩
      (try cbv); (try simp only [K0, K1, and_self, and_true, true_and]); (try first | exact e | exact e.symm | (and_intros <;> first | assumption | rfl | exact Eq.symm (by assumption)))
     ·(try cbv)
      apply Hidden.out
      obtain rfl := Option.some.inj hr
      constructor
      refine ⟨⟨_, rfl⟩, ?_⟩
      rintro u0 e
      replace e := Sum.inl.inj e
      refine le_auto hk ?_
      (try cbv); (try simp only [K0, K1, and_self, and_true, true_and]); (try first | exact e | exact e.symm | (and_intros <;> first | assumption | rfl | exact Eq.symm (by assumption)))
    ·(try cbv)
     apply Hidden.out
     obtain rfl := Option.some.inj hr
     have e := ht1 _ rfl
     constructor
     refine ⟨_, hF, ?_⟩
     (try cbv); (try simp only [K0, K1, and_self, and_true, true_and]); (try first | exact e | exact e.symm | (and_intros <;> first | assumption | rfl | exact Eq.symm (by assumption)))
end Go.Proofs.Ytojbpjcfdjakkaa
end
section
/-
  The walk of slices.Equal[[]tollbar/flow.Rule,tollbar/flow.Rule] (printed by a program of ours).
-/
set_option linter.unusedVariables false
set_option linter.unusedSimpArgs false
namespace Go.Proofs.Ytojbpjcfdjakkaa
open Go.RowKit
noncomputable def tab_slices_EqualR : Nat → Option Con := look []
set_option maxHeartbeats 20000000 in
set_option maxRecDepth 100000 in
theorem vc_slices_EqualR (P : Program) (T : Tab P tab_slices_EqualR) (hm : P.follows .mixedOrders = true) : FnVC P tab_slices_EqualR ic_64 [.t 4] 26 con_slices_EqualR := by
 intro cargs ccks ce hce hob C hk
 apply Hidden.out
 replace hce : con_slices_EqualR_1 cargs ccks = some ce := hce
 ·unfold con_slices_EqualR_1 at hce
  split at hce; rotate_left; cases hce
  obtain rfl := Option.some.inj hce
  rename_i r1 r2
  have hb1 := hob _ (List.mem_singleton.2 rfl)
  have hb2 := obl.1 hb1
  clear hb1 hob hce
  refine hb2.elim fun r hF => ?_
  clear hb2
  simp only [List.length_cons, List.length_nil, Nat.zero_add, Nat.reduceAdd] at hk
  have hr : F_slices_EqualR r1 r2 = some r := by rw [lock_eq] at hF; exact hF
  unfold F_slices_EqualR at hr
  constructor
  (try cbv)
  refine sel_ifn (by first | rfl | (simp only [K0, K1]; done) | (simp only [K0, K1]; rfl)) hr (fun h1 hr => ?_) (fun h1 hr => ?_)
  ·(try cbv)
   apply Hidden.out
   have e := Option.some.inj hr
   constructor
   refine ⟨_, hF, ?_⟩
   (try cbv); (try simp only [K0, K1, and_self, and_true, true_and]); (try first | exact e | exact e.symm | (and_intros <;> first | assumption | rfl | exact Eq.symm (by assumption)))
  ·(try cbv)
   refine LoopOK.iter T (drawOK T hm) hr (fun | i1 => ⟨mkFr [(0, (.rsl (.row 96 (.st [(.int .i64), (.int .i64), (.int .i64)]) r1))), (1, (.rsl (.row 96 (.st [(.int .i64), (.int .i64), (.int .i64)]) r2))), (12, (.v (.int .i64 (lock ofN (lock (@xlen D) r1))))), (13, (.v (.int .i64 i1)))] 26 0, [], 0⟩) ?_ ?_
   ·rintro u0 e
    refine le_auto hk ?_
    (try cbv); (try simp only [K0, K1, and_self, and_true, true_and]); (try first | exact e | exact e.symm | (and_intros <;> first | assumption | rfl | exact Eq.symm (by assumption)))
   ·clear hr
    intro x bb1 hr ht1
    obtain ⟨i1, hz⟩ : ∃ z, z = x := ⟨x, rfl⟩
    subst hz
    as_aux_lemma =>
    constructor
    unfold F_slices_EqualR_L1 at hr
    (try dsimp only at hr)
    (try cbv)
    refine sel_if (by first | rfl | (simp only [K0, K1]; done) | (simp only [K0, K1]; rfl)) hr (fun h1 hr => ?_) (fun h1 hr => ?_)
    ·(try cbv)
     refine guard_go hr (fun g => by first | (simp only [K0, K1, R.len, R.sub]; exact g) | exact g) (fun hr => ?_)
     refine guard_go hr (fun g => by first | (simp only [K0, K1, R.len, R.sub]; exact g) | exact g) (fun hr => ?_)
     refine sel_ifn (by first | rfl | (simp only [K0, K1]; done) | (simp only [K0, K1]; rfl)) hr (fun h1 hr => ?_) (fun h1 hr => ?_)
     ·(try cbv)
      apply Hidden.out
      obtain rfl := Option.some.inj hr
      have e := ht1 _ rfl
      constructor
      refine ⟨_, hF, ?_⟩
      (try cbv); (try simp only [K0, K1, and_self, and_true, true_and]); (try first | exact e | exact e.symm | (and_intros <;> first | assumption | rfl | exact Eq.symm (by assumption)))
     ·(try cbv)
      apply Hidden.out
      obtain rfl := Option.some.inj hr
      constructor
      refine ⟨⟨_, rfl⟩, ?_⟩
      rintro u0 e
      replace e := Sum.inl.inj e
      refine le_auto hk ?_
      (try cbv); (try simp only [K0, K1, and_self, and_true, true_and]); (try first | exact e | exact e.symm | (and_intros <;> first | assumption | rfl | exact Eq.symm (by assumption)))
    ·(try cbv)
     apply Hidden.out
     obtain rfl := Option.some.inj hr
     have e := ht1 _ rfl
     constructor
     refine ⟨_, hF, ?_⟩
     (try cbv); (try simp only [K0, K1, and_self, and_true, true_and]); (try first | exact e | exact e.symm | (and_intros <;> first | assumption | rfl | exact Eq.symm (by assumption)))
end Go.Proofs.Ytojbpjcfdjakkaa
end
section
/-
  The walk of tollbar/plan.Same (printed by a program of ours).
-/
set_option linter.unusedVariables false
set_option linter.unusedSimpArgs false
namespace Go.Proofs.Ytojbpjcfdjakkaa
open Go.RowKit
noncomputable def tab_plan_Same : Nat → Option Con := look [(63, con_slices_EqualC), (64, con_slices_EqualR)]
set_option maxHeartbeats 20000000 in
set_option maxRecDepth 100000 in
theorem vc_plan_Same (P : Program) (T : Tab P tab_plan_Same) (hm : P.follows .mixedOrders = true) : FnVC P tab_plan_Same ic_34 [.t 4] 42 con_plan_Same := by
 intro cargs ccks ce hce hob C hk
 apply Hidden.out
 replace hce : con_plan_Same_1 cargs ccks = some ce := hce
 ·unfold con_plan_Same_1 at hce
  split at hce; rotate_left; cases hce
  obtain rfl := Option.some.inj hce
  rename_i s1 b1 x1 s2 b2 x2 r1 r2 r3
  have hb1 := hob _ (List.mem_singleton.2 rfl)
  have hb2 := obl.1 hb1
  clear hb1 hob hce
  refine hb2.elim fun r hF => ?_
  clear hb2
  simp only [List.length_cons, List.length_nil, Nat.zero_add, Nat.reduceAdd] at hk
  have hr : F_plan_Same s1 b1 x1 s2 b2 x2 r1 r2 r3 = some r := by rw [lock_eq] at hF; exact hF
  unfold F_plan_Same at hr
  constructor
  (try cbv)
  refine sel_if (by first | rfl | (simp only [K0, K1]; done) | (simp only [K0, K1]; rfl)) hr (fun h1 hr => ?_) (fun h1 hr => ?_)
  ·(try cbv)
   refine sel_if (by first | rfl | (simp only [K0, K1]; done) | (simp only [K0, K1]; rfl)) hr (fun h1 hr => ?_) (fun h1 hr => ?_)
   ·(try cbv)
    refine ⟨obl.2 (by have h := bindO_ex hr; first | exact h | (simp only [K0, K1]; exact h)), (by rintro (_) _ <;> cbv), ?_⟩
    intro c1 hx1
    (try simp only [K0, K1] at hx1)
    replace hr := bindO_of hx1 hr
    all_goals ((try dsimp only at hr); constructor; (try cbv))
    refine sel_if (by first | rfl | (simp only [K0, K1]; done) | (simp only [K0, K1]; rfl)) hr (fun h1 hr => ?_) (fun h1 hr => ?_)
    ·(try cbv)
     refine ⟨obl.2 (by have h := bindO_ex hr; first | exact h | (simp only [K0, K1]; exact h)), (by rintro (_) _ <;> cbv), ?_⟩
     intro c2 hx2
     (try simp only [K0, K1] at hx2)
     replace hr := bindO_of hx2 hr
     all_goals ((try dsimp only at hr); constructor; (try cbv))
     refine sel_if (by first | rfl | (simp only [K0, K1]; done) | (simp only [K0, K1]; rfl)) hr (fun h1 hr => ?_) (fun h1 hr => ?_)
     ·(try cbv)
      apply Hidden.out
      have e := Option.some.inj hr
      constructor
      refine ⟨_, hF, ?_⟩
      (try cbv); (try simp only [K0, K1, and_self, and_true, true_and]); (try first | exact e | exact e.symm | (and_intros <;> first | assumption | rfl | exact Eq.symm (by assumption)))
     ·(try cbv)
      apply Hidden.out
      have e := Option.some.inj hr
      constructor
      refine ⟨_, hF, ?_⟩
      (try cbv); (try simp only [K0, K1, and_self, and_true, true_and]); (try first | exact e | exact e.symm | (and_intros <;> first | assumption | rfl | exact Eq.symm (by assumption)))
    ·(try cbv)
     apply Hidden.out
     have e := Option.some.inj hr
     constructor
     refine ⟨_, hF, ?_⟩
     (try cbv); (try simp only [K0, K1, and_self, and_true, true_and]); (try first | exact e | exact e.symm | (and_intros <;> first | assumption | rfl | exact Eq.symm (by assumption)))
   ·(try cbv)
    apply Hidden.out
    have e := Option.some.inj hr
    constructor
    refine ⟨_, hF, ?_⟩
    (try cbv); (try simp only [K0, K1, and_self, and_true, true_and]); (try first | exact e | exact e.symm | (and_intros <;> first | assumption | rfl | exact Eq.symm (by assumption)))
  ·(try cbv)
   apply Hidden.out
   have e := Option.some.inj hr
   constructor
   refine ⟨_, hF, ?_⟩
   (try cbv); (try simp only [K0, K1, and_self, and_true, true_and]); (try first | exact e | exact e.symm | (and_intros <;> first | assumption | rfl | exact Eq.symm (by assumption)))
end Go.Proofs.Ytojbpjcfdjakkaa
end
section
/-
  The walk of (*tollbar/shaper.Shaper).Apply (printed by a program of ours).
-/
set_option linter.unusedVariables false
set_option linter.unusedSimpArgs false
namespace Go.Proofs.Ytojbpjcfdjakkaa
open Go.RowKit
noncomputable def tab_shaper_Shaper_Apply : Nat → Option Con := look [(13, con_shaper_Right), (34, con_plan_Same)]
set_option maxHeartbeats 20000000 in
set_option maxRecDepth 100000 in
theorem vc_shaper_Shaper_Apply (P : Program) (T : Tab P tab_shaper_Shaper_Apply) (hm : P.follows .mixedOrders = true) : FnVC P tab_shaper_Shaper_Apply ic_15 [.t 6] 118 con_shaper_Shaper_Apply := by
 intro cargs ccks ce hce hob C hk
 apply Hidden.out
 replace hce : con_shaper_Shaper_Apply_1 cargs ccks = some ce := hce
 ·unfold con_shaper_Shaper_Apply_1 at hce
  split at hce; rotate_left; cases hce; rename_i s1 b1 x1 b2
  split at hce; rotate_left; cases hce
  split at hce; rotate_left; cases hce; rename_i s2 b3 x2 x3
  split at hce; rotate_left; cases hce; rename_i r1
  split at hce; rotate_left; cases hce; rename_i r2
  split at hce; rotate_left; cases hce; rename_i r3
  split at hce; rotate_left; cases hce; rename_i w1 n1
  split at hce; rotate_left; cases hce; rename_i x4 b4
  split at hce; rotate_left; cases hce; rename_i w2 r4
  split at hce; rotate_left; cases hce; rename_i l1
  split at hce; rotate_left; cases hce; rename_i l2
  split at hce
  ·cases hce
  obtain rfl := Option.some.inj hce
  rename_i _ htm
  simp only [Bool.and_eq_true] at htm
  obtain ⟨h1, h2⟩ := htm
  obtain rfl := eq_of_tmeq _ _ h1
  obtain rfl := eq_of_tmeq _ _ h2
  clear h1 h2
  have hb1 := hob _ (List.mem_singleton.2 rfl)
  have hb2 := obl.1 hb1
  clear hb1 hob hce
  refine hb2.elim fun r hF => ?_
  clear hb2
  simp only [List.length_cons, List.length_nil, Nat.zero_add, Nat.reduceAdd] at hk
  have hr : F_shaper_Shaper_Apply s1 b1 x1 b2 s2 b3 x2 x3 r1 r2 r3 n1 x4 b4 r4 l1 l2 = some r := by rw [lock_eq] at hF; exact hF
  unfold F_shaper_Shaper_Apply at hr
  constructor
  (try cbv)
  refine ⟨obl.2 (by have h := bindO_ex hr; first | exact h | (simp only [K0, K1]; exact h)), (by rintro (_) _ <;> cbv), ?_⟩
  intro c1 hx1
  (try simp only [K0, K1] at hx1)
  replace hr := bindO_of hx1 hr
  all_goals ((try dsimp only at hr); constructor; (try cbv))
  refine sel_ifn (by first | rfl | (simp only [K0, K1]; done) | (simp only [K0, K1]; rfl)) hr (fun h1 hr => ?_) (fun h1 hr => ?_)
  ·(try cbv)
   apply Hidden.out
   have e := Option.some.inj hr
   constructor
   refine ⟨_, hF, ?_⟩
   (try cbv); (try simp only [K0, K1, and_self, and_true, true_and]); (try first | exact e | exact e.symm | (and_intros <;> first | assumption | rfl | exact Eq.symm (by assumption)))
  ·(try cbv)
   refine ⟨(by have h := bindO_ex hr; first | exact h | (simp only [K0, K1]; exact h)), obl.2 (by have h := bindO_ex hr; first | exact h | (simp only [K0, K1]; exact h)), (by rintro (_) _ <;> cbv), ?_⟩
   intro c2 hx2
   (try simp only [K0, K1] at hx2)
   replace hr := bindO_of hx2 hr
   all_goals ((try dsimp only at hr); constructor; (try cbv))
   refine sel_if (by first | rfl | (simp only [K0, K1]; done) | (simp only [K0, K1]; rfl)) hr (fun h1 hr => ?_) (fun h1 hr => ?_)
   ·(try cbv)
    apply Hidden.out
    have e := Option.some.inj hr
    constructor
    refine ⟨_, hF, ?_⟩
    (try cbv); (try simp only [K0, K1, and_self, and_true, true_and]); (try first | exact e | exact e.symm | (and_intros <;> first | assumption | rfl | exact Eq.symm (by assumption)))
   ·(try cbv)
    cases hr
end Go.Proofs.Ytojbpjcfdjakkaa
end
section
/-
  The walk of (*tollbar/shaper.Shaper).Port (printed by a program of ours).
-/
set_option linter.unusedVariables false
set_option linter.unusedSimpArgs false
namespace Go.Proofs.Ytojbpjcfdjakkaa
open Go.RowKit
noncomputable def tab_shaper_Shaper_Port : Nat → Option Con := look [(50, con_shaper_own)]
set_option maxHeartbeats 20000000 in
set_option maxRecDepth 100000 in
theorem vc_shaper_Shaper_Port (P : Program) (T : Tab P tab_shaper_Shaper_Port) (hm : P.follows .mixedOrders = true) : FnVC P tab_shaper_Shaper_Port ic_24 [.c 2 5 true] 11 con_shaper_Shaper_Port := by
 intro cargs ccks ce hce hob C hk
 apply Hidden.out
 replace hce : con_shaper_Shaper_Port_1 cargs ccks = some ce := hce
 ·unfold con_shaper_Shaper_Port_1 at hce
  split at hce; rotate_left; cases hce
  split at hce; rotate_left; cases hce
  split at hce; rotate_left; cases hce; rename_i s1 b1 x1 x2
  split at hce; rotate_left; cases hce; rename_i r1
  split at hce; rotate_left; cases hce; rename_i r2
  split at hce; rotate_left; cases hce; rename_i w1 n1
  split at hce; rotate_left; cases hce; rename_i x3 b2
  split at hce; rotate_left; cases hce; rename_i w2 r3
  split at hce; rotate_left; cases hce; rename_i l1
  split at hce; rotate_left; cases hce; rename_i l2
  split at hce
  ·cases hce
  obtain rfl := Option.some.inj hce
  rename_i _ htm
  simp only [Bool.and_eq_true] at htm
  obtain ⟨h1, h2⟩ := htm
  obtain rfl := eq_of_tmeq _ _ h1
  obtain rfl := eq_of_tmeq _ _ h2
  clear h1 h2
  have hb1 := hob _ (List.mem_singleton.2 rfl)
  have hb2 := obl.1 hb1
  clear hb1 hob hce
  refine hb2.elim fun r hF => ?_
  clear hb2
  simp only [List.length_cons, List.length_nil, Nat.zero_add, Nat.reduceAdd] at hk
  have hr : F_shaper_Shaper_Port s1 b1 x1 x2 r1 r2 n1 x3 b2 r3 l1 l2 = some r := by rw [lock_eq] at hF; exact hF
  unfold F_shaper_Shaper_Port at hr
  constructor
  (try cbv)
  refine ⟨obl.2 (by have h := bindO_ex hr; first | exact h | (simp only [K0, K1]; exact h)), (by rintro (⟨_, _⟩) _ <;> cbv), ?_⟩
  intro qq hx1
  (try simp only [K0, K1] at hx1)
  replace hr := bindO_of hx1 hr
  rcases qq with ⟨q1, q2⟩
  all_goals ((try dsimp only at hr); constructor; (try cbv))
  apply Hidden.out
  have e := Option.some.inj hr
  obtain ⟨u0, u1⟩ := r
  simp only [Prod.mk.injEq] at e
  obtain ⟨e0, e1⟩ := e
  constructor
  refine ⟨_, hF, ?_⟩
  (try cbv); (try simp only [K0, K1, and_self, and_true, true_and]); (try first | exact e | exact e.symm | (and_intros <;> first | assumption | rfl | exact Eq.symm (by assumption)))
end Go.Proofs.Ytojbpjcfdjakkaa
end
section
/-
  The walk of (tollbar/snap.Snap).queue (printed by a program of ours).
-/
set_option linter.unusedVariables false
set_option linter.unusedSimpArgs false
namespace Go.Proofs.Ytojbpjcfdjakkaa
open Go.RowKit
noncomputable def tab_snap_Snap_queue : Nat → Option Con := look []
set_option maxHeartbeats 20000000 in
set_option maxRecDepth 100000 in
theorem vc_snap_Snap_queue (P : Program) (T : Tab P tab_snap_Snap_queue) (hm : P.follows .mixedOrders = true) : FnVC P tab_snap_Snap_queue ic_88 [.t 4] 48 con_snap_Snap_queue := by
 intro cargs ccks ce hce hob C hk
 apply Hidden.out
 replace hce : con_snap_Snap_queue_1 cargs ccks = some ce := hce
 ·unfold con_snap_Snap_queue_1 at hce
  split at hce; rotate_left; cases hce
  obtain rfl := Option.some.inj hce
  rename_i x1 x2 b1 r1
  have hb1 := hob _ (List.mem_singleton.2 rfl)
  have hb2 := obl.1 hb1
  clear hb1 hob hce
  refine hb2.elim fun r hF => ?_
  clear hb2
  simp only [List.length_cons, List.length_nil, Nat.zero_add, Nat.reduceAdd] at hk
  have hr : F_snap_Snap_queue x1 x2 b1 r1 = some r := by rw [lock_eq] at hF; exact hF
  unfold F_snap_Snap_queue at hr
  constructor
  (try cbv)
  refine LoopOK.iter T (drawOK T hm) hr (fun | (i1, i2) => ⟨mkFr [(2, (.ptr 0 0)), (5, (.v (.int .u64 i1))), (8, (.rsl (.row 75 (.st [(.int .u64), (.int .i64), (.int .i64)]) r1))), (9, (.v (.int .i64 (lock ofN (lock (@xlen D) r1))))), (10, (.v (.int .i64 i2)))] 48 0, [(0, .blk 67 [(.v (.int .u64 x1)), .nsl, (.v (.int .i64 x2)), (.v (.bool b1)), .nsl, .nsl])], 1⟩) ?_ ?_
  ·rintro ⟨u0, u1⟩ e
   simp only [Prod.mk.injEq] at e
   obtain ⟨e0, e1⟩ := e
   refine le_auto hk ?_
   (try cbv); (try simp only [K0, K1, and_self, and_true, true_and]); (try first | exact e | exact e.symm | (and_intros <;> first | assumption | rfl | exact Eq.symm (by assumption)))
  ·clear hr
   intro x bb1 hr ht1
   obtain ⟨i1, i2⟩ := x
   as_aux_lemma =>
   constructor
   unfold F_snap_Snap_queue_L1 at hr
   (try dsimp only at hr)
   (try cbv)
   refine sel_if (by first | rfl | (simp only [K0, K1]; done) | (simp only [K0, K1]; rfl)) hr (fun h1 hr => ?_) (fun h1 hr => ?_)
   ·as_aux_lemma =>
    (try cbv)
    refine guard_go hr (fun g => by first | (simp only [K0, K1, R.len, R.sub]; exact g) | exact g) (fun hr => ?_)
    refine sel_if (by first | rfl | (simp only [K0, K1]; done) | (simp only [K0, K1]; rfl)) hr (fun h1 hr => ?_) (fun h1 hr => ?_)
    ·(try cbv)
     apply Hidden.out
     obtain rfl := Option.some.inj hr
     have e := ht1 _ rfl
     constructor
     refine ⟨_, hF, ?_⟩
     (try cbv); (try simp only [K0, K1, and_self, and_true, true_and]); (try first | exact e | exact e.symm | (and_intros <;> first | assumption | rfl | exact Eq.symm (by assumption)))
    ·(try cbv)
     refine sel_if (by first | rfl | (simp only [K0, K1]; done) | (simp only [K0, K1]; rfl)) hr (fun h1 hr => ?_) (fun h1 hr => ?_)
     ·(try cbv)
      apply Hidden.out
      obtain rfl := Option.some.inj hr
      have e := ht1 _ rfl
      constructor
      refine ⟨_, hF, ?_⟩
      (try cbv); (try simp only [K0, K1, and_self, and_true, true_and]); (try first | exact e | exact e.symm | (and_intros <;> first | assumption | rfl | exact Eq.symm (by assumption)))
     ·(try cbv)
      refine sel_if (by first | rfl | (simp only [K0, K1]; done) | (simp only [K0, K1]; rfl)) hr (fun h1 hr => ?_) (fun h1 hr => ?_)
      ·(try cbv)
       apply Hidden.out
       obtain rfl := Option.some.inj hr
       have e := ht1 _ rfl
       constructor
       refine ⟨_, hF, ?_⟩
       (try cbv); (try simp only [K0, K1, and_self, and_true, true_and]); (try first | exact e | exact e.symm | (and_intros <;> first | assumption | rfl | exact Eq.symm (by assumption)))
      ·(try cbv)
       refine sel_if (by first | rfl | (simp only [K0, K1]; done) | (simp only [K0, K1]; rfl)) hr (fun h1 hr => ?_) (fun h1 hr => ?_)
       ·(try cbv)
        apply Hidden.out
        obtain rfl := Option.some.inj hr
        have e := ht1 _ rfl
        constructor
        refine ⟨_, hF, ?_⟩
        (try cbv); (try simp only [K0, K1, and_self, and_true, true_and]); (try first | exact e | exact e.symm | (and_intros <;> first | assumption | rfl | exact Eq.symm (by assumption)))
       ·(try cbv)
        refine sel_if (by first | rfl | (simp only [K0, K1]; done) | (simp only [K0, K1]; rfl)) hr (fun h1 hr => ?_) (fun h1 hr => ?_)
        ·(try cbv)
         apply Hidden.out
         obtain rfl := Option.some.inj hr
         have e := ht1 _ rfl
         constructor
         refine ⟨_, hF, ?_⟩
         (try cbv); (try simp only [K0, K1, and_self, and_true, true_and]); (try first | exact e | exact e.symm | (and_intros <;> first | assumption | rfl | exact Eq.symm (by assumption)))
        ·(try cbv)
         refine sel_if (by first | rfl | (simp only [K0, K1]; done) | (simp only [K0, K1]; rfl)) hr (fun h1 hr => ?_) (fun h1 hr => ?_)
         ·(try cbv)
          apply Hidden.out
          obtain rfl := Option.some.inj hr
          have e := ht1 _ rfl
          constructor
          refine ⟨_, hF, ?_⟩
          (try cbv); (try simp only [K0, K1, and_self, and_true, true_and]); (try first | exact e | exact e.symm | (and_intros <;> first | assumption | rfl | exact Eq.symm (by assumption)))
         ·(try cbv)
          apply Hidden.out
          obtain rfl := Option.some.inj hr
          constructor
          refine ⟨⟨_, rfl⟩, ?_⟩
          rintro ⟨u0, u1⟩ e
          replace e := Sum.inl.inj e
          simp only [Prod.mk.injEq] at e
          obtain ⟨e0, e1⟩ := e
          refine le_auto hk ?_
          (try cbv); (try simp only [K0, K1, and_self, and_true, true_and]); (try first | exact e | exact e.symm | (and_intros <;> first | assumption | rfl | exact Eq.symm (by assumption)))
   ·(try cbv)
    apply Hidden.out
    obtain rfl := Option.some.inj hr
    have e := ht1 _ rfl
    constructor
    refine ⟨_, hF, ?_⟩
    (try cbv); (try simp only [K0, K1, and_self, and_true, true_and]); (try first | exact e | exact e.symm | (and_intros <;> first | assumption | rfl | exact Eq.symm (by assumption)))
end Go.Proofs.Ytojbpjcfdjakkaa
end
section
/-
  The walk of tollbar/snap.Right$1 (printed by a program of ours).
-/
set_option linter.unusedVariables false
set_option linter.unusedSimpArgs false
namespace Go.Proofs.Ytojbpjcfdjakkaa
open Go.RowKit
noncomputable def tab_snap_RightIn : Nat → Option Con := look [(88, con_snap_Snap_queue)]
set_option maxHeartbeats 20000000 in
set_option maxRecDepth 100000 in
theorem vc_snap_RightIn (P : Program) (T : Tab P tab_snap_RightIn) (hm : P.follows .mixedOrders = true) : FnVC P tab_snap_RightIn ic_87 [.t 3] 8 con_snap_RightIn := by
 intro cargs ccks ce hce hob C hk
 apply Hidden.out
 replace hce : con_snap_RightIn_1 cargs ccks = some ce := hce
 ·unfold con_snap_RightIn_1 at hce
  split at hce; rotate_left; cases hce
  obtain rfl := Option.some.inj hce
  rename_i r1 x1 x2 b1
  have hb1 := hob _ (List.mem_singleton.2 rfl)
  have hb2 := obl.1 hb1
  clear hb1 hob hce
  refine hb2.elim fun r hF => ?_
  clear hb2
  simp only [List.length_cons, List.length_nil, Nat.zero_add, Nat.reduceAdd] at hk
  have hr : F_snap_RightIn r1 x1 x2 b1 = some r := by rw [lock_eq] at hF; exact hF
  unfold F_snap_RightIn at hr
  constructor
  (try cbv)
  refine ⟨obl.2 (by have h := bindO_ex hr; first | exact h | (simp only [K0, K1]; exact h)), (by rintro (_) _ <;> cbv), ?_⟩
  intro c1 hx1
  (try simp only [K0, K1] at hx1)
  replace hr := bindO_of hx1 hr
  all_goals ((try dsimp only at hr); constructor; (try cbv))
  apply Hidden.out
  have e := Option.some.inj hr
  constructor
  refine ⟨_, hF, ?_⟩
  (try cbv); (try simp only [K0, K1, and_self, and_true, true_and]); (try first | exact e | exact e.symm | (and_intros <;> first | assumption | rfl | exact Eq.symm (by assumption)))
end Go.Proofs.Ytojbpjcfdjakkaa
end
section
/-
  The walk of slices.IndexFunc[[][]tollbar/api.Packet,[]tollbar/api.Packet] (printed by a program of ours).
-/
set_option linter.unusedVariables false
set_option linter.unusedSimpArgs false
namespace Go.Proofs.Ytojbpjcfdjakkaa
open Go.RowKit
noncomputable def tab_slices_IndexFuncQ : Nat → Option Con := look [(87, con_snap_RightIn)]
set_option maxHeartbeats 20000000 in
set_option maxRecDepth 100000 in
theorem vc_slices_IndexFuncQ (P : Program) (T : Tab P tab_slices_IndexFuncQ) (hm : P.follows .mixedOrders = true) : FnVC P tab_slices_IndexFuncQ ic_100 [.t 4] 19 con_slices_IndexFuncQ := by
 intro cargs ccks ce hce hob C hk
 apply Hidden.out
 replace hce : con_slices_IndexFuncQ_1 cargs ccks = some ce := hce
 ·unfold con_slices_IndexFuncQ_1 at hce
  split at hce; rotate_left; cases hce
  obtain rfl := Option.some.inj hce
  rename_i r1 x1 x2 b1
  have hb1 := hob _ (List.mem_singleton.2 rfl)
  have hb2 := obl.1 hb1
  clear hb1 hob hce
  refine hb2.elim fun r hF => ?_
  clear hb2
  simp only [List.length_cons, List.length_nil, Nat.zero_add, Nat.reduceAdd] at hk
  have hr : F_slices_IndexFuncQ r1 x1 x2 b1 = some r := by rw [lock_eq] at hF; exact hF
  unfold F_slices_IndexFuncQ at hr
  constructor
  (try cbv)
  refine LoopOK.iter T (drawOK T hm) hr (fun | i1 => ⟨mkFr [(0, (.rsl (.row 72 (.row 75 (.st [(.int .u64), (.int .i64), (.int .i64)])) r1))), (1, (.fn 87 [(.ptr 0 0)])), (7, (.v (.int .i64 (lock ofN (lock (@xlen D) r1))))), (8, (.v (.int .i64 i1)))] 19 0, [(0, .blk 67 [(.v (.int .u64 x1)), .nsl, (.v (.int .i64 x2)), (.v (.bool b1)), .nsl, .nsl])], 1⟩) ?_ ?_
  ·rintro u0 e
   refine le_auto hk ?_
   (try cbv); (try simp only [K0, K1, and_self, and_true, true_and]); (try first | exact e | exact e.symm | (and_intros <;> first | assumption | rfl | exact Eq.symm (by assumption)))
  ·clear hr
   intro x bb1 hr ht1
   obtain ⟨i1, hz⟩ : ∃ z, z = x := ⟨x, rfl⟩
   subst hz
   as_aux_lemma =>
   constructor
   unfold F_slices_IndexFuncQ_L1 at hr
   (try dsimp only at hr)
   (try cbv)
   refine sel_if (by first | rfl | (simp only [K0, K1]; done) | (simp only [K0, K1]; rfl)) hr (fun h1 hr => ?_) (fun h1 hr => ?_)
   ·(try cbv)
    refine guard_go hr (fun g => by first | (simp only [K0, K1, R.len, R.sub]; exact g) | exact g) (fun hr => ?_)
    refine ⟨obl.2 (by have h := bindO_ex hr; first | exact h | (simp only [K0, K1]; exact h)), (by rintro (_) _ <;> cbv), ?_⟩
    intro c3 hx3
    (try simp only [K0, K1] at hx3)
    replace hr := bindO_of hx3 hr
    all_goals ((try dsimp only at hr); constructor; (try cbv))
    refine sel_if (by first | rfl | (simp only [K0, K1]; done) | (simp only [K0, K1]; rfl)) hr (fun h1 hr => ?_) (fun h1 hr => ?_)
    ·(try cbv)
     apply Hidden.out
     obtain rfl := Option.some.inj hr
     have e := ht1 _ rfl
     constructor
     refine ⟨_, hF, ?_⟩
     (try cbv); (try simp only [K0, K1, and_self, and_true, true_and]); (try first | exact e | exact e.symm | (and_intros <;> first | assumption | rfl | exact Eq.symm (by assumption)))
    ·(try cbv)
     apply Hidden.out
     obtain rfl := Option.some.inj hr
     constructor
     refine ⟨⟨_, rfl⟩, ?_⟩
     rintro u0 e
     replace e := Sum.inl.inj e
     refine le_auto hk ?_
     (try cbv); (try simp only [K0, K1, and_self, and_true, true_and]); (try first | exact e | exact e.symm | (and_intros <;> first | assumption | rfl | exact Eq.symm (by assumption)))
   ·(try cbv)
    apply Hidden.out
    obtain rfl := Option.some.inj hr
    have e := ht1 _ rfl
    constructor
    refine ⟨_, hF, ?_⟩
    (try cbv); (try simp only [K0, K1, and_self, and_true, true_and]); (try first | exact e | exact e.symm | (and_intros <;> first | assumption | rfl | exact Eq.symm (by assumption)))
end Go.Proofs.Ytojbpjcfdjakkaa
end
section
/-
  The walk of slices.ContainsFunc[[][]tollbar/api.Packet,[]tollbar/api.Packet] (printed by a program of ours).
-/
set_option linter.unusedVariables false
set_option linter.unusedSimpArgs false
namespace Go.Proofs.Ytojbpjcfdjakkaa
open Go.RowKit
noncomputable def tab_slices_ContainsFunc : Nat → Option Con := look [(100, con_slices_IndexFuncQ)]
set_option maxHeartbeats 20000000 in
set_option maxRecDepth 100000 in
theorem vc_slices_ContainsFunc (P : Program) (T : Tab P tab_slices_ContainsFunc) (hm : P.follows .mixedOrders = true) : FnVC P tab_slices_ContainsFunc ic_86 [.t 4] 9 con_slices_ContainsFunc := by
 intro cargs ccks ce hce hob C hk
 apply Hidden.out
 replace hce : con_slices_ContainsFunc_1 cargs ccks = some ce := hce
 ·unfold con_slices_ContainsFunc_1 at hce
  split at hce; rotate_left; cases hce
  obtain rfl := Option.some.inj hce
  rename_i r1 x1 x2 b1
  have hb1 := hob _ (List.mem_singleton.2 rfl)
  have hb2 := obl.1 hb1
  clear hb1 hob hce
  refine hb2.elim fun r hF => ?_
  clear hb2
  simp only [List.length_cons, List.length_nil, Nat.zero_add, Nat.reduceAdd] at hk
  have hr : F_slices_ContainsFunc r1 x1 x2 b1 = some r := by rw [lock_eq] at hF; exact hF
  unfold F_slices_ContainsFunc at hr
  constructor
  (try cbv)
  refine ⟨obl.2 (by have h := bindO_ex hr; first | exact h | (simp only [K0, K1]; exact h)), (by rintro (_) _ <;> cbv), ?_⟩
  intro y1 hx1
  (try simp only [K0, K1] at hx1)
  replace hr := bindO_of hx1 hr
  all_goals ((try dsimp only at hr); constructor; (try cbv))
  apply Hidden.out
  have e := Option.some.inj hr
  constructor
  refine ⟨_, hF, ?_⟩
  (try cbv); (try simp only [K0, K1, and_self, and_true, true_and]); (try first | exact e | exact e.symm | (and_intros <;> first | assumption | rfl | exact Eq.symm (by assumption)))
end Go.Proofs.Ytojbpjcfdjakkaa
end
section
/-
  The walk of tollbar/snap.Right (printed by a program of ours).
-/
set_option linter.unusedVariables false
set_option linter.unusedSimpArgs false
namespace Go.Proofs.Ytojbpjcfdjakkaa
open Go.RowKit
noncomputable def tab_snap_Right : Nat → Option Con := look [(86, con_slices_ContainsFunc)]
set_option maxHeartbeats 20000000 in
set_option maxRecDepth 100000 in
theorem vc_snap_Right (P : Program) (T : Tab P tab_snap_Right) (hm : P.follows .mixedOrders = true) : FnVC P tab_snap_Right ic_58 [.t 2] 43 con_snap_Right := by
 intro cargs ccks ce hce hob C hk
 apply Hidden.out
 replace hce : con_snap_Right_1 cargs ccks = some ce := hce
 ·unfold con_snap_Right_1 at hce
  split at hce; rotate_left; cases hce
  obtain rfl := Option.some.inj hce
  rename_i x1 x2 b1
  have hb1 := hob _ (List.mem_singleton.2 rfl)
  have hb2 := obl.1 hb1
  clear hb1 hob hce
  refine hb2.elim fun r hF => ?_
  clear hb2
  simp only [List.length_cons, List.length_nil, Nat.zero_add, Nat.reduceAdd] at hk
  have hr : F_snap_Right x1 x2 b1 = some r := by rw [lock_eq] at hF; exact hF
  unfold F_snap_Right at hr
  constructor
  (try cbv)
  refine sel_if (by first | rfl | (simp only [K0, K1]; done) | (simp only [K0, K1]; rfl)) hr (fun h1 hr => ?_) (fun h1 hr => ?_)
  ·(try cbv)
   apply Hidden.out
   have e := Option.some.inj hr
   constructor
   refine ⟨_, hF, ?_⟩
   (try cbv); (try simp only [K0, K1, and_self, and_true, true_and]); (try first | exact e | exact e.symm | (and_intros <;> first | assumption | rfl | exact Eq.symm (by assumption)))
  ·(try cbv)
   refine sel_ifn (by first | rfl | (simp only [K0, K1]; done) | (simp only [K0, K1]; rfl)) hr (fun h1 hr => ?_) (fun h1 hr => ?_)
   ·(try cbv)
    apply Hidden.out
    have e := Option.some.inj hr
    constructor
    refine ⟨_, hF, ?_⟩
    (try cbv); (try simp only [K0, K1, and_self, and_true, true_and]); (try first | exact e | exact e.symm | (and_intros <;> first | assumption | rfl | exact Eq.symm (by assumption)))
   ·(try cbv)
    refine sel_ifn (by first | rfl | (simp only [K0, K1]; done) | (simp only [K0, K1]; rfl)) hr (fun h1 hr => ?_) (fun h1 hr => ?_)
    ·(try cbv)
     cases hr
    ·(try cbv)
     refine sel_if (by first | rfl | (simp only [K0, K1]; done) | (simp only [K0, K1]; rfl)) hr (fun h1 hr => ?_) (fun h1 hr => ?_)
     ·(try cbv)
      apply Hidden.out
      have e := Option.some.inj hr
      constructor
      refine ⟨_, hF, ?_⟩
      (try cbv); (try simp only [K0, K1, and_self, and_true, true_and]); (try first | exact e | exact e.symm | (and_intros <;> first | assumption | rfl | exact Eq.symm (by assumption)))
     ·(try cbv)
      refine sel_if (by first | rfl | (simp only [K0, K1]; done) | (simp only [K0, K1]; rfl)) hr (fun h1 hr => ?_) (fun h1 hr => ?_)
      ·(try cbv)
       apply Hidden.out
       have e := Option.some.inj hr
       constructor
       refine ⟨_, hF, ?_⟩
       (try cbv); (try simp only [K0, K1, and_self, and_true, true_and]); (try first | exact e | exact e.symm | (and_intros <;> first | assumption | rfl | exact Eq.symm (by assumption)))
      ·(try cbv)
       refine ⟨obl.2 (by have h := bindO_ex hr; first | exact h | (simp only [K0, K1]; exact h)), (by rintro (_) _ <;> cbv), ?_⟩
       intro c1 hx1
       (try simp only [K0, K1] at hx1)
       replace hr := bindO_of hx1 hr
       all_goals ((try dsimp only at hr); constructor; (try cbv))
       apply Hidden.out
       have e := Option.some.inj hr
       constructor
       refine ⟨_, hF, ?_⟩
       (try cbv); (try simp only [K0, K1, and_self, and_true, true_and]); (try first | exact e | exact e.symm | (and_intros <;> first | assumption | rfl | exact Eq.symm (by assumption)))
end Go.Proofs.Ytojbpjcfdjakkaa
end
section
/-
  The walk of (*tollbar/drr.Ring).Restore (printed by a program of ours).
-/
set_option linter.unusedVariables false
set_option linter.unusedSimpArgs false
namespace Go.Proofs.Ytojbpjcfdjakkaa
open Go.RowKit
noncomputable def tab_drr_Ring_Restore : Nat → Option Con := look [(77, con_drr_copied)]
set_option maxHeartbeats 20000000 in
set_option maxRecDepth 100000 in
theorem vc_drr_Ring_Restore (P : Program) (T : Tab P tab_drr_Ring_Restore) (hm : P.follows .mixedOrders = true) : FnVC P tab_drr_Ring_Restore ic_59 [.t 4] 37 con_drr_Ring_Restore := by
 intro cargs ccks ce hce hob C hk
 apply Hidden.out
 replace hce : con_drr_Ring_Restore_1 cargs ccks = some ce := hce
 ·unfold con_drr_Ring_Restore_1 at hce
  split at hce; rotate_left; cases hce
  obtain rfl := Option.some.inj hce
  rename_i x1 b1 x2 b2 l1 l2
  have hb1 := hob _ (List.mem_singleton.2 rfl)
  have hb2 := obl.1 hb1
  clear hb1 hob hce
  refine hb2.elim fun r hF => ?_
  clear hb2
  simp only [List.length_cons, List.length_nil, Nat.zero_add, Nat.reduceAdd] at hk
  have hr : F_drr_Ring_Restore x1 b1 x2 b2 l1 l2 = some r := by rw [lock_eq] at hF; exact hF
  unfold F_drr_Ring_Restore at hr
  constructor
  (try cbv)
  rcases Bool.eq_false_or_eq_true (ieq (ofN 0) (ofN (xlen l1))) with h1 | h1
  ·rw [if_pos h1] at hr
   have h2 : (lock ieq (lock ofN 0) (lock ofN (lock (@xlen Int) l1))) = true := by simp only [lock_eq]; exact h1
   simp only [relock, h2]
   (try cbv)
   rcases Bool.eq_false_or_eq_true (ilt x1 (0 : Int)) with h1 | h1
   ·rw [if_pos h1] at hr
    have h2 : (lock ilt x1 (0 : Int)) = true := by simp only [lock_eq]; exact h1
    simp only [relock, h2]
    (try cbv)
    apply Hidden.out
    have e := Option.some.inj hr
    obtain ⟨u0, u1, u2, u3⟩ := r
    simp only [Prod.mk.injEq] at e
    obtain ⟨e0, e1, e2, e3⟩ := e
    constructor
    refine ⟨_, hF, ?_⟩
    (try cbv); (try simp only [K0, K1, and_self, and_true, true_and]); (try first | exact e | exact e.symm | (and_intros <;> first | assumption | rfl | exact Eq.symm (by assumption)))
   ·rw [if_neg (by rw [h1]; exact Bool.false_ne_true)] at hr
    have h2 : (lock ilt x1 (0 : Int)) = false := by simp only [lock_eq]; exact h1
    simp only [relock, h2]
    (try cbv)
    refine sel_if (by first | rfl | (simp only [K0, K1]; done) | (simp only [K0, K1]; rfl)) hr (fun h1 hr => ?_) (fun h1 hr => ?_)
    ·(try cbv)
     apply Hidden.out
     have e := Option.some.inj hr
     obtain ⟨u0, u1, u2, u3⟩ := r
     simp only [Prod.mk.injEq] at e
     obtain ⟨e0, e1, e2, e3⟩ := e
     constructor
     refine ⟨_, hF, ?_⟩
     (try cbv); (try simp only [K0, K1, and_self, and_true, true_and]); (try first | exact e | exact e.symm | (and_intros <;> first | assumption | rfl | exact Eq.symm (by assumption)))
    ·(try cbv)
     refine ⟨obl.2 (by have h := bindO_ex hr; first | exact h | (simp only [K0, K1]; exact h)), (by rintro (_) _ <;> cbv), ?_⟩
     intro m1 hx1
     (try simp only [K0, K1] at hx1)
     replace hr := bindO_of hx1 hr
     all_goals ((try dsimp only at hr); constructor; (try cbv))
     apply Hidden.out
     have e := Option.some.inj hr
     obtain ⟨u0, u1, u2, u3⟩ := r
     simp only [Prod.mk.injEq] at e
     obtain ⟨e0, e1, e2, e3⟩ := e
     constructor
     refine ⟨_, hF, ?_⟩
     (try cbv); (try simp only [K0, K1, and_self, and_true, true_and]); (try first | exact e | exact e.symm | (and_intros <;> first | assumption | rfl | exact Eq.symm (by assumption)))
  ·rw [if_neg (by rw [h1]; exact Bool.false_ne_true)] at hr
   have h2 : (lock ieq (lock ofN 0) (lock ofN (lock (@xlen Int) l1))) = false := by simp only [lock_eq]; exact h1
   simp only [relock, h2]
   (try cbv)
   apply Hidden.out
   have e := Option.some.inj hr
   obtain ⟨u0, u1, u2, u3⟩ := r
   simp only [Prod.mk.injEq] at e
   obtain ⟨e0, e1, e2, e3⟩ := e
   constructor
   refine ⟨_, hF, ?_⟩
   (try cbv); (try simp only [K0, K1, and_self, and_true, true_and]); (try first | exact e | exact e.symm | (and_intros <;> first | assumption | rfl | exact Eq.symm (by assumption)))
end Go.Proofs.Ytojbpjcfdjakkaa
end
section
/-
  The walk of (*tollbar/shaper.Shaper).Restore (printed by a program of ours).
-/
set_option linter.unusedVariables false
set_option linter.unusedSimpArgs false
namespace Go.Proofs.Ytojbpjcfdjakkaa
open Go.RowKit
noncomputable def tab_shaper_Shaper_Restore : Nat → Option Con := look [(58, con_snap_Right), (59, con_drr_Ring_Restore)]
set_option maxHeartbeats 20000000 in
set_option maxRecDepth 100000 in
theorem vc_shaper_Shaper_Restore (P : Program) (T : Tab P tab_shaper_Shaper_Restore) (hm : P.follows .mixedOrders = true) : FnVC P tab_shaper_Shaper_Restore ic_30 [.t 4] 67 con_shaper_Shaper_Restore := by
 intro cargs ccks ce hce hob C hk
 apply Hidden.out
 replace hce : con_shaper_Shaper_Restore_1 cargs ccks = some ce := hce
 ·unfold con_shaper_Shaper_Restore_1 at hce
  split at hce; rotate_left; cases hce; rename_i x1 x2 b1
  split at hce; rotate_left; cases hce
  split at hce; rotate_left; cases hce; rename_i s1 b2 x3 x4
  split at hce; rotate_left; cases hce; rename_i r1
  split at hce; rotate_left; cases hce; rename_i r2
  split at hce; rotate_left; cases hce; rename_i w1 n1
  split at hce; rotate_left; cases hce; rename_i x5 b3
  split at hce; rotate_left; cases hce; rename_i w2 r3
  split at hce; rotate_left; cases hce; rename_i l1
  split at hce; rotate_left; cases hce; rename_i l2
  split at hce
  ·cases hce
  obtain rfl := Option.some.inj hce
  rename_i _ htm
  simp only [Bool.and_eq_true] at htm
  obtain ⟨h1, h2⟩ := htm
  obtain rfl := eq_of_tmeq _ _ h1
  obtain rfl := eq_of_tmeq _ _ h2
  clear h1 h2
  have hb1 := hob _ (List.mem_singleton.2 rfl)
  have hb2 := obl.1 hb1
  clear hb1 hob hce
  refine hb2.elim fun r hF => ?_
  clear hb2
  simp only [List.length_cons, List.length_nil, Nat.zero_add, Nat.reduceAdd] at hk
  have hr : F_shaper_Shaper_Restore x1 x2 b1 s1 b2 x3 x4 r1 r2 n1 x5 b3 r3 l1 l2 = some r := by rw [lock_eq] at hF; exact hF
  unfold F_shaper_Shaper_Restore at hr
  constructor
  (try cbv)
  refine ⟨(by have h := bindO_ex hr; first | exact h | (simp only [K0, K1]; exact h)), obl.2 (by have h := bindO_ex hr; first | exact h | (simp only [K0, K1]; exact h)), (by rintro (_) _ <;> cbv), ?_⟩
  intro c1 hx1
  (try simp only [K0, K1] at hx1)
  replace hr := bindO_of hx1 hr
  all_goals ((try dsimp only at hr); constructor; (try cbv))
  rcases Bool.eq_false_or_eq_true c1 with h1 | h1
  ·rw [if_pos h1] at hr
   subst h1
   (try cbv)
   refine sel_ifn (by first | rfl | (simp only [K0, K1]; done) | (simp only [K0, K1]; rfl)) hr (fun h1 hr => ?_) (fun h1 hr => ?_)
   ·(try cbv)
    apply Hidden.out
    have e := Option.some.inj hr
    obtain ⟨u0, u1, u2, u3, u4⟩ := r
    simp only [Prod.mk.injEq] at e
    obtain ⟨e0, e1, e2, e3, e4⟩ := e
    constructor
    refine ⟨_, hF, ?_⟩
    (try cbv); (try simp only [K0, K1, and_self, and_true, true_and]); (try first | exact e | exact e.symm | (and_intros <;> first | assumption | rfl | exact Eq.symm (by assumption)))
   ·(try cbv)
    refine ⟨(by have h := bindO_ex hr; first | exact h | (simp only [K0, K1]; exact h)), obl.2 (by have h := bindO_ex hr; first | exact h | (simp only [K0, K1]; exact h)), (by rintro (⟨_, _, _, _⟩) _ <;> cbv), ?_⟩
    intro qq hx2
    (try simp only [K0, K1] at hx2)
    replace hr := bindO_of hx2 hr
    rcases qq with ⟨c2, y1, c3, m1⟩
    all_goals ((try dsimp only at hr); constructor; (try cbv))
    refine LoopOK.iter T (drawOK T hm) hr (fun | _ => ⟨mkFr [(3, (.ptr 8 0)), (40, (.wsl 3)), (41, (.v (.int .i64 (lock ofN n1)))), (42, (.v (.int .i64 (0 : Int))))] 67 0, [(0, .blk 92 [(.str s1), (.v (.bool b2)), (.wsl 1), (.wsl 2), (.v (.int .i64 x3)), (.v (.int .u64 x1)), (.wsl 3), (.ptr 4 0)]), (1, .row (.row 83 (.st [.str, (.int .u64), (.int .u64), (.int .u64), (.int .i64), .bool]) r1)), (2, .row (.row 96 (.st [(.int .i64), (.int .i64), (.int .i64)]) r2)), (3, .prow 98 tm98 n1 5), (4, .blk 169 [(.wsl 6), (.v (.int .i64 y1)), (.v (.bool c3)), (.wsl 9)]), (5, .gho tm98 r3 none), (6, .row (.ints 46 .u64 l1)), (8, .blk 67 [(.v (.int .u64 x1)), .nsl, (.v (.int .i64 x2)), (.v (.bool b1)), .nsl, .nsl]), (9, .row (.ints 46 .u64 m1))], 10⟩) ?_ ?_
    ·rintro _ e
     refine le_auto hk ?_
     (try cbv); (try simp only [K0, K1, and_self, and_true, true_and]); (try first | exact e | exact e.symm | (and_intros <;> first | assumption | rfl | exact Eq.symm (by assumption)))
    ·clear hr
     intro x bb1 hr ht1
     as_aux_lemma =>
     constructor
     unfold F_shaper_Shaper_Restore_L1 at hr
     (try dsimp only at hr)
     (try cbv)
     refine sel_if (by first | rfl | (simp only [K0, K1]; done) | (simp only [K0, K1]; rfl)) hr (fun h1 hr => ?_) (fun h1 hr => ?_)
     ·(try cbv)
      cases hr
     ·(try cbv)
      apply Hidden.out
      obtain rfl := Option.some.inj hr
      have e := ht1 _ rfl
      obtain ⟨u0, u1, u2, u3, u4⟩ := r
      simp only [Prod.mk.injEq] at e
      obtain ⟨e0, e1, e2, e3, e4⟩ := e
      constructor
      refine ⟨_, hF, ?_⟩
      (try cbv); (try simp only [K0, K1, and_self, and_true, true_and]); (try first | exact e | exact e.symm | (and_intros <;> first | assumption | rfl | exact Eq.symm (by assumption)))
  ·rw [if_neg (by rw [h1]; exact Bool.false_ne_true)] at hr
   subst h1
   (try cbv)
   apply Hidden.out
   have e := Option.some.inj hr
   obtain ⟨u0, u1, u2, u3, u4⟩ := r
   simp only [Prod.mk.injEq] at e
   obtain ⟨e0, e1, e2, e3, e4⟩ := e
   constructor
   refine ⟨_, hF, ?_⟩
   (try cbv); (try simp only [K0, K1, and_self, and_true, true_and]); (try first | exact e | exact e.symm | (and_intros <;> first | assumption | rfl | exact Eq.symm (by assumption)))
end Go.Proofs.Ytojbpjcfdjakkaa
end
section
/-
  The walk of tollbar/tollbarlaw27.awake (printed by a program of ours).
-/
set_option linter.unusedVariables false
set_option linter.unusedSimpArgs false
namespace Go.Proofs.Ytojbpjcfdjakkaa
open Go.RowKit
noncomputable def tab_tollbarlaw27_awake : Nat → Option Con := look [(10, con_shaper_New), (26, con_shaper_Shaper_Arrive), (29, con_shaper_Shaper_Next), (28, con_shaper_Shaper_Tick), (14, con_shaper_Shaper_Len), (21, con_shaper_Shaper_Snap), (15, con_shaper_Shaper_Apply), (24, con_shaper_Shaper_Port), (13, con_shaper_Right), (30, con_shaper_Shaper_Restore)]
set_option maxHeartbeats 20000000 in
set_option maxRecDepth 100000 in
theorem vc_tollbarlaw27_awake (P : Program) (T : Tab P tab_tollbarlaw27_awake) (hm : P.follows .mixedOrders = true) : FnVC P tab_tollbarlaw27_awake ic_8 [.t 0] 138 con_tollbarlaw27_awake := by
 intro cargs ccks ce hce hob C hk
 apply Hidden.out
 replace hce : con_tollbarlaw27_awake_1 cargs ccks = some ce := hce
 ·unfold con_tollbarlaw27_awake_1 at hce
  split at hce; rotate_left; cases hce
  obtain rfl := Option.some.inj hce
  have hb1 := hob _ (List.mem_singleton.2 rfl)
  have hb2 := obl.1 hb1
  clear hb1 hob hce
  refine hb2.elim fun r hF => ?_
  clear hb2
  simp only [List.length_cons, List.length_nil, Nat.zero_add, Nat.reduceAdd] at hk
  have hr : F_tollbarlaw27_awake = some r := by rw [lock_eq] at hF; exact hF
  unfold F_tollbarlaw27_awake at hr
  constructor
  (try cbv)
  refine ⟨obl.2 (by have h := bindO_ex hr; first | exact h | (simp only [K0, K1]; exact h)), (by rintro (_ | ⟨_, _, _, _, _, _⟩) _ <;> cbv), ?_⟩
  intro qq hx1
  (try simp only [K0, K1] at hx1)
  replace hr := bindO_of hx1 hr
  rcases qq with _ | ⟨q1, q2, k1, q3, m1, m2⟩
  all_goals ((try dsimp only at hr); constructor; (try cbv))
  ·apply Hidden.out
   have e := Option.some.inj hr
   constructor
   refine ⟨_, hF, ?_⟩
   (try cbv); (try simp only [K0, K1, and_self, and_true, true_and]); (try first | exact e | exact e.symm | (and_intros <;> first | assumption | rfl | exact Eq.symm (by assumption)))
  ·refine ⟨obl.2 (by have h := bindO_ex hr; first | exact h | (simp only [K0, K1]; exact h)), (by rintro (⟨_, _, _, _, _, _⟩) _ <;> cbv), ?_⟩
   intro qq hx2
   (try simp only [K0, K1] at hx2)
   replace hr := bindO_of hx2 hr
   rcases qq with ⟨y1, y2, y3, y4, y5, q4⟩
   all_goals ((try dsimp only at hr); constructor; (try cbv))
   refine ⟨obl.2 (by have h := bindO_ex hr; first | exact h | (simp only [K0, K1]; exact h)), (by rintro (⟨_, _, _, _, _, _⟩) _ <;> cbv), ?_⟩
   intro qq hx3
   (try simp only [K0, K1] at hx3)
   replace hr := bindO_of hx3 hr
   rcases qq with ⟨y6, y7, y8, y9, y10, q5⟩
   all_goals ((try dsimp only at hr); constructor; (try cbv))
   refine ⟨obl.2 (by have h := bindO_ex hr; first | exact h | (simp only [K0, K1]; exact h)), (by rintro (⟨_, _, _, _, _, _⟩) _ <;> cbv), ?_⟩
   intro qq hx4
   (try simp only [K0, K1] at hx4)
   replace hr := bindO_of hx4 hr
   rcases qq with ⟨y11, y12, y13, y14, y15, q6⟩
   all_goals ((try dsimp only at hr); constructor; (try cbv))
   refine ⟨obl.2 (by have h := bindO_ex hr; first | exact h | (simp only [K0, K1]; exact h)), (by rintro (⟨_, _, _, _, _, _, _, _, _⟩) _ <;> cbv), ?_⟩
   intro qq hx5
   (try simp only [K0, K1] at hx5)
   replace hr := bindO_of hx5 hr
   rcases qq with ⟨y16, y17, y18, t1, c1, y19, c2, m3, q7⟩
   all_goals ((try dsimp only at hr); constructor; (try cbv))
   refine ⟨obl.2 (by have h := bindO_ex hr; first | exact h | (simp only [K0, K1]; exact h)), (by rintro (⟨_, _, _, _, _, _, _, _, _⟩) _ <;> cbv), ?_⟩
   intro qq hx6
   (try simp only [K0, K1] at hx6)
   replace hr := bindO_of hx6 hr
   rcases qq with ⟨y20, y21, y22, t2, c3, y23, c4, m4, q8⟩
   all_goals ((try dsimp only at hr); constructor; (try cbv))
   refine ⟨obl.2 (by have h := bindO_ex hr; first | exact h | (simp only [K0, K1]; exact h)), (by rintro (_) _ <;> cbv), ?_⟩
   intro q9 hx7
   (try simp only [K0, K1] at hx7)
   replace hr := bindO_of hx7 hr
   all_goals ((try dsimp only at hr); constructor; (try cbv))
   refine ⟨obl.2 (by have h := bindO_ex hr; first | exact h | (simp only [K0, K1]; exact h)), (by rintro (⟨_, _, _, _, _, _, _, _, _⟩) _ <;> cbv), ?_⟩
   intro qq hx8
   (try simp only [K0, K1] at hx8)
   replace hr := bindO_of hx8 hr
   rcases qq with ⟨y24, y25, y26, t3, c5, y27, c6, m5, q10⟩
   all_goals ((try dsimp only at hr); constructor; (try cbv))
   refine sel_if (by first | rfl | (simp only [K0, K1]; done) | (simp only [K0, K1]; rfl)) hr (fun h1 hr => ?_) (fun h1 hr => ?_)
   ·as_aux_lemma =>
    (try cbv)
    refine sel_if (by first | rfl | (simp only [K0, K1]; done) | (simp only [K0, K1]; rfl)) hr (fun h1 hr => ?_) (fun h1 hr => ?_)
    ·as_aux_lemma =>
     (try cbv)
     refine sel_if (by first | rfl | (simp only [K0, K1]; done) | (simp only [K0, K1]; rfl)) hr (fun h1 hr => ?_) (fun h1 hr => ?_)
     ·as_aux_lemma =>
      (try cbv)
      refine sel_if (by first | rfl | (simp only [K0, K1]; done) | (simp only [K0, K1]; rfl)) hr (fun h1 hr => ?_) (fun h1 hr => ?_)
      ·as_aux_lemma =>
       (try cbv)
       refine sel_if (by first | rfl | (simp only [K0, K1]; done) | (simp only [K0, K1]; rfl)) hr (fun h1 hr => ?_) (fun h1 hr => ?_)
       ·as_aux_lemma =>
        (try cbv)
        refine sel_if (by first | rfl | (simp only [K0, K1]; done) | (simp only [K0, K1]; rfl)) hr (fun h1 hr => ?_) (fun h1 hr => ?_)
        ·as_aux_lemma =>
         (try cbv)
         refine sel_if (by first | rfl | (simp only [K0, K1]; done) | (simp only [K0, K1]; rfl)) hr (fun h1 hr => ?_) (fun h1 hr => ?_)
         ·as_aux_lemma =>
          (try cbv)
          refine sel_ifn (by first | rfl | (simp only [K0, K1]; done) | (simp only [K0, K1]; rfl)) hr (fun h1 hr => ?_) (fun h1 hr => ?_)
          ·as_aux_lemma =>
           (try cbv)
           refine sel_if (by first | rfl | (simp only [K0, K1]; done) | (simp only [K0, K1]; rfl)) hr (fun h1 hr => ?_) (fun h1 hr => ?_)
           ·as_aux_lemma =>
            (try cbv)
            refine sel_if (by first | rfl | (simp only [K0, K1]; done) | (simp only [K0, K1]; rfl)) hr (fun h1 hr => ?_) (fun h1 hr => ?_)
            ·as_aux_lemma =>
             (try cbv)
             refine ⟨obl.2 (by have h := bindO_ex hr; first | exact h | (simp only [K0, K1]; exact h)), (by rintro (⟨_, _⟩) _ <;> cbv), ?_⟩
             intro qq hx9
             (try simp only [K0, K1] at hx9)
             replace hr := bindO_of hx9 hr
             rcases qq with ⟨y28, q11⟩
             all_goals ((try dsimp only at hr); constructor; (try cbv))
             refine sel_if (by first | rfl | (simp only [K0, K1]; done) | (simp only [K0, K1]; rfl)) hr (fun h1 hr => ?_) (fun h1 hr => ?_)
             ·as_aux_lemma =>
              (try cbv)
              refine ⟨obl.2 (by have h := bindO_ex hr; first | exact h | (simp only [K0, K1]; exact h)), (by rintro (⟨_, _, _, _⟩) _ <;> cbv), ?_⟩
              intro qq hx10
              (try simp only [K0, K1] at hx10)
              replace hr := bindO_of hx10 hr
              rcases qq with ⟨m6, m7, q12, q13⟩
              all_goals ((try dsimp only at hr); constructor; (try cbv))
              refine sel_if (by first | rfl | (simp only [K0, K1]; done) | (simp only [K0, K1]; rfl)) hr (fun h1 hr => ?_) (fun h1 hr => ?_)
              ·as_aux_lemma =>
               (try cbv)
               refine ⟨obl.2 (by have h := bindO_ex hr; first | exact h | (simp only [K0, K1]; exact h)), (by rintro (_) _ <;> cbv), ?_⟩
               intro y29 hx11
               (try simp only [K0, K1] at hx11)
               replace hr := bindO_of hx11 hr
               all_goals ((try dsimp only at hr); constructor; (try cbv))
               refine sel_if (by first | rfl | (simp only [K0, K1]; done) | (simp only [K0, K1]; rfl)) hr (fun h1 hr => ?_) (fun h1 hr => ?_)
               ·(try cbv)
                refine ⟨obl.2 (by have h := bindO_ex hr; first | exact h | (simp only [K0, K1]; exact h)), (by rintro (⟨_, _⟩) _ <;> cbv), ?_⟩
                intro qq hx12
                (try simp only [K0, K1] at hx12)
                replace hr := bindO_of hx12 hr
                rcases qq with ⟨q14, q15⟩
                all_goals ((try dsimp only at hr); constructor; (try cbv))
                refine sel_if (by first | rfl | (simp only [K0, K1]; done) | (simp only [K0, K1]; rfl)) hr (fun h1 hr => ?_) (fun h1 hr => ?_)
                ·(try cbv)
                 refine ⟨obl.2 (by have h := bindO_ex hr; first | exact h | (simp only [K0, K1]; exact h)), (by rintro (_) _ <;> cbv), ?_⟩
                 intro c7 hx13
                 (try simp only [K0, K1] at hx13)
                 replace hr := bindO_of hx13 hr
                 all_goals ((try dsimp only at hr); constructor; (try cbv))
                 refine sel_if (by first | rfl | (simp only [K0, K1]; done) | (simp only [K0, K1]; rfl)) hr (fun h1 hr => ?_) (fun h1 hr => ?_)
                 ·(try cbv)
                  refine ⟨obl.2 (by have h := bindO_ex hr; first | exact h | (simp only [K0, K1]; exact h)), (by rintro (_) _ <;> cbv), ?_⟩
                  intro c8 hx14
                  (try simp only [K0, K1] at hx14)
                  replace hr := bindO_of hx14 hr
                  all_goals ((try dsimp only at hr); constructor; (try cbv))
                  refine sel_ifn (by first | rfl | (simp only [K0, K1]; done) | (simp only [K0, K1]; rfl)) hr (fun h1 hr => ?_) (fun h1 hr => ?_)
                  ·(try cbv)
                   refine ⟨obl.2 (by have h := bindO_ex hr; first | exact h | (simp only [K0, K1]; exact h)), (by rintro (⟨_, _, _, _, _⟩) _ <;> cbv), ?_⟩
                   intro qq hx15
                   (try simp only [K0, K1] at hx15)
                   replace hr := bindO_of hx15 hr
                   rcases qq with ⟨y30, y31, y32, c9, m8⟩
                   all_goals ((try dsimp only at hr); constructor; (try cbv))
                   apply Hidden.out
                   have e := Option.some.inj hr
                   constructor
                   refine ⟨_, hF, ?_⟩
                   (try cbv); (try simp only [K0, K1, and_self, and_true, true_and]); (try first | exact e | exact e.symm | (and_intros <;> first | assumption | rfl | exact Eq.symm (by assumption)))
                  ·(try cbv)
                   apply Hidden.out
                   have e := Option.some.inj hr
                   constructor
                   refine ⟨_, hF, ?_⟩
                   (try cbv); (try simp only [K0, K1, and_self, and_true, true_and]); (try first | exact e | exact e.symm | (and_intros <;> first | assumption | rfl | exact Eq.symm (by assumption)))
                 ·(try cbv)
                  apply Hidden.out
                  have e := Option.some.inj hr
                  constructor
                  refine ⟨_, hF, ?_⟩
                  (try cbv); (try simp only [K0, K1, and_self, and_true, true_and]); (try first | exact e | exact e.symm | (and_intros <;> first | assumption | rfl | exact Eq.symm (by assumption)))
                ·(try cbv)
                 apply Hidden.out
                 have e := Option.some.inj hr
                 constructor
                 refine ⟨_, hF, ?_⟩
                 (try cbv); (try simp only [K0, K1, and_self, and_true, true_and]); (try first | exact e | exact e.symm | (and_intros <;> first | assumption | rfl | exact Eq.symm (by assumption)))
               ·(try cbv)
                apply Hidden.out
                have e := Option.some.inj hr
                constructor
                refine ⟨_, hF, ?_⟩
                (try cbv); (try simp only [K0, K1, and_self, and_true, true_and]); (try first | exact e | exact e.symm | (and_intros <;> first | assumption | rfl | exact Eq.symm (by assumption)))
              ·(try cbv)
               apply Hidden.out
               have e := Option.some.inj hr
               constructor
               refine ⟨_, hF, ?_⟩
               (try cbv); (try simp only [K0, K1, and_self, and_true, true_and]); (try first | exact e | exact e.symm | (and_intros <;> first | assumption | rfl | exact Eq.symm (by assumption)))
             ·(try cbv)
              apply Hidden.out
              have e := Option.some.inj hr
              constructor
              refine ⟨_, hF, ?_⟩
              (try cbv); (try simp only [K0, K1, and_self, and_true, true_and]); (try first | exact e | exact e.symm | (and_intros <;> first | assumption | rfl | exact Eq.symm (by assumption)))
            ·(try cbv)
             apply Hidden.out
             have e := Option.some.inj hr
             constructor
             refine ⟨_, hF, ?_⟩
             (try cbv); (try simp only [K0, K1, and_self, and_true, true_and]); (try first | exact e | exact e.symm | (and_intros <;> first | assumption | rfl | exact Eq.symm (by assumption)))
           ·(try cbv)
            apply Hidden.out
            have e := Option.some.inj hr
            constructor
            refine ⟨_, hF, ?_⟩
            (try cbv); (try simp only [K0, K1, and_self, and_true, true_and]); (try first | exact e | exact e.symm | (and_intros <;> first | assumption | rfl | exact Eq.symm (by assumption)))
          ·(try cbv)
           apply Hidden.out
           have e := Option.some.inj hr
           constructor
           refine ⟨_, hF, ?_⟩
           (try cbv); (try simp only [K0, K1, and_self, and_true, true_and]); (try first | exact e | exact e.symm | (and_intros <;> first | assumption | rfl | exact Eq.symm (by assumption)))
         ·(try cbv)
          apply Hidden.out
          have e := Option.some.inj hr
          constructor
          refine ⟨_, hF, ?_⟩
          (try cbv); (try simp only [K0, K1, and_self, and_true, true_and]); (try first | exact e | exact e.symm | (and_intros <;> first | assumption | rfl | exact Eq.symm (by assumption)))
        ·(try cbv)
         apply Hidden.out
         have e := Option.some.inj hr
         constructor
         refine ⟨_, hF, ?_⟩
         (try cbv); (try simp only [K0, K1, and_self, and_true, true_and]); (try first | exact e | exact e.symm | (and_intros <;> first | assumption | rfl | exact Eq.symm (by assumption)))
       ·(try cbv)
        apply Hidden.out
        have e := Option.some.inj hr
        constructor
        refine ⟨_, hF, ?_⟩
        (try cbv); (try simp only [K0, K1, and_self, and_true, true_and]); (try first | exact e | exact e.symm | (and_intros <;> first | assumption | rfl | exact Eq.symm (by assumption)))
      ·(try cbv)
       apply Hidden.out
       have e := Option.some.inj hr
       constructor
       refine ⟨_, hF, ?_⟩
       (try cbv); (try simp only [K0, K1, and_self, and_true, true_and]); (try first | exact e | exact e.symm | (and_intros <;> first | assumption | rfl | exact Eq.symm (by assumption)))
     ·(try cbv)
      apply Hidden.out
      have e := Option.some.inj hr
      constructor
      refine ⟨_, hF, ?_⟩
      (try cbv); (try simp only [K0, K1, and_self, and_true, true_and]); (try first | exact e | exact e.symm | (and_intros <;> first | assumption | rfl | exact Eq.symm (by assumption)))
    ·(try cbv)
     apply Hidden.out
     have e := Option.some.inj hr
     constructor
     refine ⟨_, hF, ?_⟩
     (try cbv); (try simp only [K0, K1, and_self, and_true, true_and]); (try first | exact e | exact e.symm | (and_intros <;> first | assumption | rfl | exact Eq.symm (by assumption)))
   ·(try cbv)
    apply Hidden.out
    have e := Option.some.inj hr
    constructor
    refine ⟨_, hF, ?_⟩
    (try cbv); (try simp only [K0, K1, and_self, and_true, true_and]); (try first | exact e | exact e.symm | (and_intros <;> first | assumption | rfl | exact Eq.symm (by assumption)))
end Go.Proofs.Ytojbpjcfdjakkaa
end
section
/-
  The walk of tollbar/tollbarlaw27.few (printed by a program of ours).
-/
set_option linter.unusedVariables false
set_option linter.unusedSimpArgs false
namespace Go.Proofs.Ytojbpjcfdjakkaa
open Go.RowKit
noncomputable def tab_tollbarlaw27_few : Nat → Option Con := look []
set_option maxHeartbeats 20000000 in
set_option maxRecDepth 100000 in
theorem vc_tollbarlaw27_few (P : Program) (T : Tab P tab_tollbarlaw27_few) (hm : P.follows .mixedOrders = true) : FnVC P tab_tollbarlaw27_few ic_9 [.t 4] 42 con_tollbarlaw27_few := by
 intro cargs ccks ce hce hob C hk
 apply Hidden.out
 replace hce : con_tollbarlaw27_few_1 cargs ccks = some ce := hce
 ·unfold con_tollbarlaw27_few_1 at hce
  split at hce; rotate_left; cases hce
  obtain rfl := Option.some.inj hce
  rename_i r1 r2
  have hb1 := hob _ (List.mem_singleton.2 rfl)
  have hb2 := obl.1 hb1
  clear hb1 hob hce
  refine hb2.elim fun r hF => ?_
  clear hb2
  simp only [List.length_cons, List.length_nil, Nat.zero_add, Nat.reduceAdd] at hk
  have hr : F_tollbarlaw27_few r1 r2 = some r := by rw [lock_eq] at hF; exact hF
  unfold F_tollbarlaw27_few at hr
  constructor
  (try cbv)
  refine LoopOK.iter T (drawOK T hm) hr (fun | i1 => ⟨mkFr [(0, (.rsl (.row 33 (.st [.str, .bool, (.row 83 (.st [.str, (.int .u64), (.int .u64), (.int .u64), (.int .i64), .bool])), (.st [(.row 96 (.st [(.int .i64), (.int .i64), (.int .i64)])), (.int .i64)])]) r1))), (1, (.rsl (.row 58 (.st [(.int .i64), (.int .i64), (.int .i64), (.int .u64), (.int .u8)]) r2))), (5, (.v (.int .i64 i1)))] 42 0, [], 0⟩) ?_ ?_
  ·rintro u0 e
   refine le_auto hk ?_
   (try cbv); (try simp only [K0, K1, and_self, and_true, true_and]); (try first | exact e | exact e.symm | (and_intros <;> first | assumption | rfl | exact Eq.symm (by assumption)))
  ·clear hr
   intro x bb1 hr ht1
   obtain ⟨i1, hz⟩ : ∃ z, z = x := ⟨x, rfl⟩
   subst hz
   as_aux_lemma =>
   constructor
   unfold F_tollbarlaw27_few_L1 at hr
   (try dsimp only at hr)
   (try cbv)
   refine sel_if (by first | rfl | (simp only [K0, K1]; done) | (simp only [K0, K1]; rfl)) hr (fun h1 hr => ?_) (fun h1 hr => ?_)
   ·(try cbv)
    refine guard_go hr (fun g => by first | (simp only [K0, K1, R.len, R.sub]; exact g) | exact g) (fun hr => ?_)
    refine sel_if (by first | rfl | (simp only [K0, K1]; done) | (simp only [K0, K1]; rfl)) hr (fun h1 hr => ?_) (fun h1 hr => ?_)
    ·(try cbv)
     apply Hidden.out
     obtain rfl := Option.some.inj hr
     have e := ht1 _ rfl
     constructor
     refine ⟨_, hF, ?_⟩
     (try cbv); (try simp only [K0, K1, and_self, and_true, true_and]); (try first | exact e | exact e.symm | (and_intros <;> first | assumption | rfl | exact Eq.symm (by assumption)))
    ·(try cbv)
     refine guard_go hr (fun g => by first | (simp only [K0, K1, R.len, R.sub]; exact g) | exact g) (fun hr => ?_)
     refine sel_if (by first | rfl | (simp only [K0, K1]; done) | (simp only [K0, K1]; rfl)) hr (fun h1 hr => ?_) (fun h1 hr => ?_)
     ·(try cbv)
      apply Hidden.out
      obtain rfl := Option.some.inj hr
      have e := ht1 _ rfl
      constructor
      refine ⟨_, hF, ?_⟩
      (try cbv); (try simp only [K0, K1, and_self, and_true, true_and]); (try first | exact e | exact e.symm | (and_intros <;> first | assumption | rfl | exact Eq.symm (by assumption)))
     ·(try cbv)
      apply Hidden.out
      obtain rfl := Option.some.inj hr
      constructor
      refine ⟨⟨_, rfl⟩, ?_⟩
      rintro u0 e
      replace e := Sum.inl.inj e
      refine le_auto hk ?_
      (try cbv); (try simp only [K0, K1, and_self, and_true, true_and]); (try first | exact e | exact e.symm | (and_intros <;> first | assumption | rfl | exact Eq.symm (by assumption)))
   ·(try cbv)
    refine sel_if (by first | rfl | (simp only [K0, K1]; done) | (simp only [K0, K1]; rfl)) hr (fun h1 hr => ?_) (fun h1 hr => ?_)
    ·(try cbv)
     refine sel_if (by first | rfl | (simp only [K0, K1]; done) | (simp only [K0, K1]; rfl)) hr (fun h1 hr => ?_) (fun h1 hr => ?_)
     ·(try cbv)
      apply Hidden.out
      obtain rfl := Option.some.inj hr
      have e := ht1 _ rfl
      constructor
      refine ⟨_, hF, ?_⟩
      (try cbv); (try simp only [K0, K1, and_self, and_true, true_and]); (try first | exact e | exact e.symm | (and_intros <;> first | assumption | rfl | exact Eq.symm (by assumption)))
     ·(try cbv)
      apply Hidden.out
      obtain rfl := Option.some.inj hr
      have e := ht1 _ rfl
      constructor
      refine ⟨_, hF, ?_⟩
      (try cbv); (try simp only [K0, K1, and_self, and_true, true_and]); (try first | exact e | exact e.symm | (and_intros <;> first | assumption | rfl | exact Eq.symm (by assumption)))
    ·(try cbv)
     apply Hidden.out
     obtain rfl := Option.some.inj hr
     have e := ht1 _ rfl
     constructor
     refine ⟨_, hF, ?_⟩
     (try cbv); (try simp only [K0, K1, and_self, and_true, true_and]); (try first | exact e | exact e.symm | (and_intros <;> first | assumption | rfl | exact Eq.symm (by assumption)))
end Go.Proofs.Ytojbpjcfdjakkaa
end
section
/-
  The walk of tollbar/tollbarlaw27.ShaperRates (printed by a program of ours).
-/
set_option linter.unusedVariables false
set_option linter.unusedSimpArgs false
namespace Go.Proofs.Ytojbpjcfdjakkaa
open Go.RowKit
noncomputable def tab_tollbarlaw27_ShaperRates : Nat → Option Con := look [(8, con_tollbarlaw27_awake), (9, con_tollbarlaw27_few), (10, con_shaper_New), (26, con_shaper_Shaper_Arrive), (28, con_shaper_Shaper_Tick), (29, con_shaper_Shaper_Next)]
set_option maxHeartbeats 20000000 in
set_option maxRecDepth 100000 in
theorem vc_tollbarlaw27_ShaperRates (P : Program) (T : Tab P tab_tollbarlaw27_ShaperRates) (hm : P.follows .mixedOrders = true) : FnVC P tab_tollbarlaw27_ShaperRates ic_6 [.t 6] 158 con_tollbarlaw27_ShaperRates := by
 intro cargs ccks ce hce hob C hk
 apply Hidden.out
 replace hce : con_tollbarlaw27_ShaperRates_1 cargs ccks = some ce := hce
 ·unfold con_tollbarlaw27_ShaperRates_1 at hce
  split at hce; rotate_left; cases hce
  obtain rfl := Option.some.inj hce
  rename_i r1 r2 x1
  have hb1 := hob _ (List.mem_singleton.2 rfl)
  have hb2 := obl.1 hb1
  clear hb1 hob hce
  refine hb2.elim fun r hF => ?_
  clear hb2
  simp only [List.length_cons, List.length_nil, Nat.zero_add, Nat.reduceAdd] at hk
  have hr : F_tollbarlaw27_ShaperRates r1 r2 x1 = some r := by rw [lock_eq] at hF; exact hF
  unfold F_tollbarlaw27_ShaperRates at hr
  constructor
  (try cbv)
  refine ⟨obl.2 (by have h := bindO_ex hr; first | exact h | (simp only [K0, K1]; exact h)), (by rintro (_) _ <;> cbv), ?_⟩
  intro c1 hx1
  (try simp only [K0, K1] at hx1)
  replace hr := bindO_of hx1 hr
  all_goals ((try dsimp only at hr); constructor; (try cbv))
  refine sel_ifn (by first | rfl | (simp only [K0, K1]; done) | (simp only [K0, K1]; rfl)) hr (fun h1 hr => ?_) (fun h1 hr => ?_)
  ·(try cbv)
   apply Hidden.out
   have e := Option.some.inj hr
   constructor
   refine ⟨_, hF, ?_⟩
   (try cbv); (try simp only [K0, K1, and_self, and_true, true_and]); (try first | exact e | exact e.symm | (and_intros <;> first | assumption | rfl | exact Eq.symm (by assumption)))
  ·as_aux_lemma =>
   (try cbv)
   refine ⟨obl.2 (by have h := bindO_ex hr; first | exact h | (simp only [K0, K1]; exact h)), (by rintro (_) _ <;> cbv), ?_⟩
   intro c2 hx2
   (try simp only [K0, K1] at hx2)
   replace hr := bindO_of hx2 hr
   all_goals ((try dsimp only at hr); constructor; (try cbv))
   refine sel_ifn (by first | rfl | (simp only [K0, K1]; done) | (simp only [K0, K1]; rfl)) hr (fun h1 hr => ?_) (fun h1 hr => ?_)
   ·(try cbv)
    apply Hidden.out
    have e := Option.some.inj hr
    constructor
    refine ⟨_, hF, ?_⟩
    (try cbv); (try simp only [K0, K1, and_self, and_true, true_and]); (try first | exact e | exact e.symm | (and_intros <;> first | assumption | rfl | exact Eq.symm (by assumption)))
   ·as_aux_lemma =>
    (try cbv)
    refine sel_if (by first | rfl | (simp only [K0, K1]; done) | (simp only [K0, K1]; rfl)) hr (fun h1 hr => ?_) (fun h1 hr => ?_)
    ·(try cbv)
     apply Hidden.out
     have e := Option.some.inj hr
     constructor
     refine ⟨_, hF, ?_⟩
     (try cbv); (try simp only [K0, K1, and_self, and_true, true_and]); (try first | exact e | exact e.symm | (and_intros <;> first | assumption | rfl | exact Eq.symm (by assumption)))
    ·as_aux_lemma =>
     (try cbv)
     refine guard_go hr (fun g => by first | (simp only [K0, K1, R.len, R.sub]; exact g) | exact g) (fun hr => ?_)
     refine ⟨obl.2 (by have h := bindO_ex hr; first | exact h | (simp only [K0, K1]; exact h)), (by rintro (_ | ⟨_, _, _, _, _, _⟩) _ <;> cbv), ?_⟩
     intro qq hx3
     (try simp only [K0, K1] at hx3)
     replace hr := bindO_of hx3 hr
     rcases qq with _ | ⟨q1, q2, k1, q3, m1, m2⟩
     all_goals ((try dsimp only at hr); constructor; (try cbv))
     ·apply Hidden.out
      have e := Option.some.inj hr
      constructor
      refine ⟨_, hF, ?_⟩
      (try cbv); (try simp only [K0, K1, and_self, and_true, true_and]); (try first | exact e | exact e.symm | (and_intros <;> first | assumption | rfl | exact Eq.symm (by assumption)))
     ·refine guard_go hr (fun g => by first | (simp only [K0, K1, R.len, R.sub]; exact g) | exact g) (fun hr => ?_)
      refine guard_go hr (fun g => by first | (simp only [K0, K1, R.len, R.sub]; exact g) | exact g) (fun hr => ?_)
      refine guard_gr hr (fun g => by first | (simp only [K0, K1, R.len, R.sub]; exact g) | exact g) (fun hr => ?_)
      refine guard_go hr (fun g => by first | (simp only [K0, K1, R.len, R.sub]; exact g) | exact g) (fun hr => ?_)
      refine sel_ifn (by first | rfl | (simp only [K0, K1]; done) | (simp only [K0, K1]; rfl)) hr (fun h1 hr => ?_) (fun h1 hr => ?_)
      ·(try cbv)
       apply Hidden.out
       have e := Option.some.inj hr
       constructor
       refine ⟨_, hF, ?_⟩
       (try cbv); (try simp only [K0, K1, and_self, and_true, true_and]); (try first | exact e | exact e.symm | (and_intros <;> first | assumption | rfl | exact Eq.symm (by assumption)))
      ·as_aux_lemma =>
       (try cbv)
       refine sel_if (by first | rfl | (simp only [K0, K1]; done) | (simp only [K0, K1]; rfl)) hr (fun h1 hr => ?_) (fun h1 hr => ?_)
       ·(try cbv)
        apply Hidden.out
        have e := Option.some.inj hr
        constructor
        refine ⟨_, hF, ?_⟩
        (try cbv); (try simp only [K0, K1, and_self, and_true, true_and]); (try first | exact e | exact e.symm | (and_intros <;> first | assumption | rfl | exact Eq.symm (by assumption)))
       ·as_aux_lemma =>
        (try cbv)
        refine sel_if (by first | rfl | (simp only [K0, K1]; done) | (simp only [K0, K1]; rfl)) hr (fun h1 hr => ?_) (fun h1 hr => ?_)
        ·(try cbv)
         apply Hidden.out
         have e := Option.some.inj hr
         constructor
         refine ⟨_, hF, ?_⟩
         (try cbv); (try simp only [K0, K1, and_self, and_true, true_and]); (try first | exact e | exact e.symm | (and_intros <;> first | assumption | rfl | exact Eq.symm (by assumption)))
        ·as_aux_lemma =>
         (try cbv)
         refine LoopOK.iter T (drawOK T hm) hr (fun | (i1, i2, l1, l2, i3, b1, r3, l3) => ⟨mkFr [(1, (.rsl (.row 58 (.st [(.int .i64), (.int .i64), (.int .i64), (.int .u64), (.int .u8)]) r2))), (9, (.ptr 0 0)), (10, (.ptr 1 0)), (11, (.wsl 2)), (12, (.wsl 3)), (13, (.v (.int .i64 i1)))] 158 0, [(0, .blk 92 [(.str (lock D.toS (lock D.fld (lock getD r1 (lock toN (0 : Int))) 0))), (.v (.bool (lock D.toB (lock D.fld (lock getD r1 (lock toN (0 : Int))) 1)))), (.wsl 4), (.wsl 5), (.v (.int .i64 (lock D.toI (lock D.fld (lock D.fld (lock getD r1 (lock toN (0 : Int))) 3) 1)))), (.v (.int .u64 i2)), (.wsl 6), (.ptr 7 0)]), (1, .blk 83 [(.str (lock D.toS (lock D.fld (lock getD (lock D.toL (lock D.fld (lock getD r1 (lock toN (0 : Int))) 2)) (lock toN (lock irem (lock iconv .i64 x1) (lock ofN (lock (@xlen D) (lock D.toL (lock D.fld (lock getD r1 (lock toN (0 : Int))) 2))))))) 0))), (.v (.int .u64 (lock D.toI (lock D.fld (lock getD (lock D.toL (lock D.fld (lock getD r1 (lock toN (0 : Int))) 2)) (lock toN (lock irem (lock iconv .i64 x1) (lock ofN (lock (@xlen D) (lock D.toL (lock D.fld (lock getD r1 (lock toN (0 : Int))) 2))))))) 1)))), (.v (.int .u64 (lock D.toI (lock D.fld (lock getD (lock D.toL (lock D.fld (lock getD r1 (lock toN (0 : Int))) 2)) (lock toN (lock irem (lock iconv .i64 x1) (lock ofN (lock (@xlen D) (lock D.toL (lock D.fld (lock getD r1 (lock toN (0 : Int))) 2))))))) 2)))), (.v (.int .u64 (lock D.toI (lock D.fld (lock getD (lock D.toL (lock D.fld (lock getD r1 (lock toN (0 : Int))) 2)) (lock toN (lock irem (lock iconv .i64 x1) (lock ofN (lock (@xlen D) (lock D.toL (lock D.fld (lock getD r1 (lock toN (0 : Int))) 2))))))) 3)))), (.v (.int .i64 (lock D.toI (lock D.fld (lock getD (lock D.toL (lock D.fld (lock getD r1 (lock toN (0 : Int))) 2)) (lock toN (lock irem (lock iconv .i64 x1) (lock ofN (lock (@xlen D) (lock D.toL (lock D.fld (lock getD r1 (lock toN (0 : Int))) 2))))))) 4)))), (.v (.bool (lock D.toB (lock D.fld (lock getD (lock D.toL (lock D.fld (lock getD r1 (lock toN (0 : Int))) 2)) (lock toN (lock irem (lock iconv .i64 x1) (lock ofN (lock (@xlen D) (lock D.toL (lock D.fld (lock getD r1 (lock toN (0 : Int))) 2))))))) 5))))]), (2, .row (.ints 46 .u64 l1)), (3, .row (.ints 46 .u64 l2)), (4, .row (.row 83 (.st [.str, (.int .u64), (.int .u64), (.int .u64), (.int .i64), .bool]) q1)), (5, .row (.row 96 (.st [(.int .i64), (.int .i64), (.int .i64)]) q2)), (6, .prow 98 tm98 k1 8), (7, .blk 169 [(.wsl 9), (.v (.int .i64 i3)), (.v (.bool b1)), (.wsl 10)]), (8, .gho tm98 r3 none), (9, .row (.ints 46 .u64 m1)), (10, .row (.ints 46 .u64 l3))], 11⟩) ?_ ?_
         ·rintro ⟨u0, u1, u2, u3, u4, u5, u6, u7⟩ e
          simp only [Prod.mk.injEq] at e
          obtain ⟨e0, e1, e2, e3, e4, e5, e6, e7⟩ := e
          refine le_auto hk ?_
          (try cbv); (try simp only [K0, K1, and_self, and_true, true_and]); (try first | exact e | exact e.symm | (and_intros <;> first | assumption | rfl | exact Eq.symm (by assumption)))
         ·clear hr
          intro x bb1 hr ht1
          obtain ⟨i1, i2, l1, l2, i3, b1, r3, l3⟩ := x
          as_aux_lemma =>
          constructor
          unfold F_tollbarlaw27_ShaperRates_L1 at hr
          (try dsimp only at hr)
          (try cbv)
          refine sel_if (by first | rfl | (simp only [K0, K1]; done) | (simp only [K0, K1]; rfl)) hr (fun h1 hr => ?_) (fun h1 hr => ?_)
          ·as_aux_lemma =>
           (try cbv)
           refine guard_go hr (fun g => by first | (simp only [K0, K1, R.len, R.sub]; exact g) | exact g) (fun hr => ?_)
           refine sel_if (by first | rfl | (simp only [K0, K1]; done) | (simp only [K0, K1]; rfl)) hr (fun h1 hr => ?_) (fun h1 hr => ?_)
           ·(try cbv)
            refine ⟨obl.2 (by have h := bindO_ex hr; first | exact h | (simp only [K0, K1]; exact h)), (by rintro (⟨_, _, _, _, _, _⟩) _ <;> cbv), ?_⟩
            intro qq hx13
            (try simp only [K0, K1] at hx13)
            replace hr := bindO_of hx13 hr
            rcases qq with ⟨y28, y29, y30, y31, y32, q13⟩
            all_goals ((try dsimp only at hr); constructor; (try cbv))
            refine guard_go hr (fun g => by first | (simp only [K0, K1, R.len, R.sub]; exact g) | exact g) (fun hr => ?_)
            refine guard_go hr (fun g => by first | (simp only [K0, K1, R.len, R.sub]; exact g) | exact g) (fun hr => ?_)
            apply Hidden.out
            obtain rfl := Option.some.inj hr
            constructor
            refine ⟨⟨_, rfl⟩, ?_⟩
            rintro ⟨u0, u1, u2, u3, u4, u5, u6, u7⟩ e
            replace e := Sum.inl.inj e
            simp only [Prod.mk.injEq] at e
            obtain ⟨e0, e1, e2, e3, e4, e5, e6, e7⟩ := e
            refine le_auto hk ?_
            (try cbv); (try simp only [K0, K1, and_self, and_true, true_and]); (try first | exact e | exact e.symm | (and_intros <;> first | assumption | rfl | exact Eq.symm (by assumption)))
           ·as_aux_lemma =>
            (try cbv)
            refine sel_if (by first | rfl | (simp only [K0, K1]; done) | (simp only [K0, K1]; rfl)) hr (fun h1 hr => ?_) (fun h1 hr => ?_)
            ·(try cbv)
             refine ⟨obl.2 (by have h := bindO_ex hr; first | exact h | (simp only [K0, K1]; exact h)), (by rintro (_) _ <;> cbv), ?_⟩
             intro q14 hx14
             (try simp only [K0, K1] at hx14)
             replace hr := bindO_of hx14 hr
             all_goals ((try dsimp only at hr); constructor; (try cbv))
             refine guard_go hr (fun g => by first | (simp only [K0, K1, R.len, R.sub]; exact g) | exact g) (fun hr => ?_)
             refine guard_go hr (fun g => by first | (simp only [K0, K1, R.len, R.sub]; exact g) | exact g) (fun hr => ?_)
             apply Hidden.out
             obtain rfl := Option.some.inj hr
             constructor
             refine ⟨⟨_, rfl⟩, ?_⟩
             rintro ⟨u0, u1, u2, u3, u4, u5, u6, u7⟩ e
             replace e := Sum.inl.inj e
             simp only [Prod.mk.injEq] at e
             obtain ⟨e0, e1, e2, e3, e4, e5, e6, e7⟩ := e
             refine le_auto hk ?_
             (try cbv); (try simp only [K0, K1, and_self, and_true, true_and]); (try first | exact e | exact e.symm | (and_intros <;> first | assumption | rfl | exact Eq.symm (by assumption)))
            ·as_aux_lemma =>
             (try cbv)
             refine sel_if (by first | rfl | (simp only [K0, K1]; done) | (simp only [K0, K1]; rfl)) hr (fun h1 hr => ?_) (fun h1 hr => ?_)
             ·(try cbv)
              refine ⟨obl.2 (by have h := bindO_ex hr; first | exact h | (simp only [K0, K1]; exact h)), (by rintro (⟨_, _, _, _, _, _, _, _, _⟩) _ <;> cbv), ?_⟩
              intro qq hx15
              (try simp only [K0, K1] at hx15)
              replace hr := bindO_of hx15 hr
              rcases qq with ⟨y33, y34, y35, t4, c9, y36, c10, m6, q15⟩
              all_goals ((try dsimp only at hr); constructor; (try cbv))
              refine sel_if (by first | rfl | (simp only [K0, K1]; done) | (simp only [K0, K1]; rfl)) hr (fun h1 hr => ?_) (fun h1 hr => ?_)
              ·(try cbv)
               refine sel_if (by first | rfl | (simp only [K0, K1]; done) | (simp only [K0, K1]; rfl)) hr (fun h1 hr => ?_) (fun h1 hr => ?_)
               ·(try cbv)
                refine guard_go hr (fun g => by first | (simp only [K0, K1, R.len, R.sub]; exact g) | exact g) (fun hr => ?_)
                refine guard_go hr (fun g => by first | (simp only [K0, K1, R.len, R.sub]; exact g) | exact g) (fun hr => ?_)
                apply Hidden.out
                obtain rfl := Option.some.inj hr
                constructor
                refine ⟨⟨_, rfl⟩, ?_⟩
                rintro ⟨u0, u1, u2, u3, u4, u5, u6, u7⟩ e
                replace e := Sum.inl.inj e
                simp only [Prod.mk.injEq] at e
                obtain ⟨e0, e1, e2, e3, e4, e5, e6, e7⟩ := e
                refine le_auto hk ?_
                (try cbv); (try simp only [K0, K1, and_self, and_true, true_and]); (try first | exact e | exact e.symm | (and_intros <;> first | assumption | rfl | exact Eq.symm (by assumption)))
               ·(try cbv)
                refine guard_go hr (fun g => by first | (simp only [K0, K1, R.len, R.sub]; exact g) | exact g) (fun hr => ?_)
                refine guard_go hr (fun g => by first | (simp only [K0, K1, R.len, R.sub]; exact g) | exact g) (fun hr => ?_)
                apply Hidden.out
                obtain rfl := Option.some.inj hr
                constructor
                refine ⟨⟨_, rfl⟩, ?_⟩
                rintro ⟨u0, u1, u2, u3, u4, u5, u6, u7⟩ e
                replace e := Sum.inl.inj e
                simp only [Prod.mk.injEq] at e
                obtain ⟨e0, e1, e2, e3, e4, e5, e6, e7⟩ := e
                refine le_auto hk ?_
                (try cbv); (try simp only [K0, K1, and_self, and_true, true_and]); (try first | exact e | exact e.symm | (and_intros <;> first | assumption | rfl | exact Eq.symm (by assumption)))
              ·(try cbv)
               refine guard_go hr (fun g => by first | (simp only [K0, K1, R.len, R.sub]; exact g) | exact g) (fun hr => ?_)
               refine guard_go hr (fun g => by first | (simp only [K0, K1, R.len, R.sub]; exact g) | exact g) (fun hr => ?_)
               apply Hidden.out
               obtain rfl := Option.some.inj hr
               constructor
               refine ⟨⟨_, rfl⟩, ?_⟩
               rintro ⟨u0, u1, u2, u3, u4, u5, u6, u7⟩ e
               replace e := Sum.inl.inj e
               simp only [Prod.mk.injEq] at e
               obtain ⟨e0, e1, e2, e3, e4, e5, e6, e7⟩ := e
               refine le_auto hk ?_
               (try cbv); (try simp only [K0, K1, and_self, and_true, true_and]); (try first | exact e | exact e.symm | (and_intros <;> first | assumption | rfl | exact Eq.symm (by assumption)))
             ·(try cbv)
              refine guard_go hr (fun g => by first | (simp only [K0, K1, R.len, R.sub]; exact g) | exact g) (fun hr => ?_)
              refine guard_go hr (fun g => by first | (simp only [K0, K1, R.len, R.sub]; exact g) | exact g) (fun hr => ?_)
              apply Hidden.out
              obtain rfl := Option.some.inj hr
              constructor
              refine ⟨⟨_, rfl⟩, ?_⟩
              rintro ⟨u0, u1, u2, u3, u4, u5, u6, u7⟩ e
              replace e := Sum.inl.inj e
              simp only [Prod.mk.injEq] at e
              obtain ⟨e0, e1, e2, e3, e4, e5, e6, e7⟩ := e
              refine le_auto hk ?_
              (try cbv); (try simp only [K0, K1, and_self, and_true, true_and]); (try first | exact e | exact e.symm | (and_intros <;> first | assumption | rfl | exact Eq.symm (by assumption)))
          ·as_aux_lemma =>
           (try cbv)
           apply Hidden.out
           obtain ⟨t, hr2, hw⟩ := map_inv hr
           clear hr
           subst hw
           have e := (ht1 _ rfl).symm
           subst e
           have hr := hr2
           clear hr2
           constructor
           refine LoopOK.iter T (drawOK T hm) hr (fun | i7 => ⟨mkFr [(1, (.rsl (.row 58 (.st [(.int .i64), (.int .i64), (.int .i64), (.int .u64), (.int .u8)]) r2))), (10, (.ptr 0 0)), (11, (.wsl 1)), (12, (.wsl 2)), (20, (.v (.int .i64 i7)))] 158 0, [(0, .blk 83 [(.str (lock D.toS (lock D.fld (lock getD (lock D.toL (lock D.fld (lock getD r1 (lock toN (0 : Int))) 2)) (lock toN (lock irem (lock iconv .i64 x1) (lock ofN (lock (@xlen D) (lock D.toL (lock D.fld (lock getD r1 (lock toN (0 : Int))) 2))))))) 0))), (.v (.int .u64 (lock D.toI (lock D.fld (lock getD (lock D.toL (lock D.fld (lock getD r1 (lock toN (0 : Int))) 2)) (lock toN (lock irem (lock iconv .i64 x1) (lock ofN (lock (@xlen D) (lock D.toL (lock D.fld (lock getD r1 (lock toN (0 : Int))) 2))))))) 1)))), (.v (.int .u64 (lock D.toI (lock D.fld (lock getD (lock D.toL (lock D.fld (lock getD r1 (lock toN (0 : Int))) 2)) (lock toN (lock irem (lock iconv .i64 x1) (lock ofN (lock (@xlen D) (lock D.toL (lock D.fld (lock getD r1 (lock toN (0 : Int))) 2))))))) 2)))), (.v (.int .u64 (lock D.toI (lock D.fld (lock getD (lock D.toL (lock D.fld (lock getD r1 (lock toN (0 : Int))) 2)) (lock toN (lock irem (lock iconv .i64 x1) (lock ofN (lock (@xlen D) (lock D.toL (lock D.fld (lock getD r1 (lock toN (0 : Int))) 2))))))) 3)))), (.v (.int .i64 (lock D.toI (lock D.fld (lock getD (lock D.toL (lock D.fld (lock getD r1 (lock toN (0 : Int))) 2)) (lock toN (lock irem (lock iconv .i64 x1) (lock ofN (lock (@xlen D) (lock D.toL (lock D.fld (lock getD r1 (lock toN (0 : Int))) 2))))))) 4)))), (.v (.bool (lock D.toB (lock D.fld (lock getD (lock D.toL (lock D.fld (lock getD r1 (lock toN (0 : Int))) 2)) (lock toN (lock irem (lock iconv .i64 x1) (lock ofN (lock (@xlen D) (lock D.toL (lock D.fld (lock getD r1 (lock toN (0 : Int))) 2))))))) 5))))]), (1, .row (.ints 46 .u64 l1)), (2, .row (.ints 46 .u64 l2))], 3⟩) ?_ ?_
           ·rintro u0 e
            refine le_auto hk ?_
            (try cbv); (try simp only [K0, K1, and_self, and_true, true_and]); (try first | exact e | exact e.symm | (and_intros <;> first | assumption | rfl | exact Eq.symm (by assumption)))
           ·clear hr
            intro x bb1 hr ht1
            obtain ⟨i7, hz⟩ : ∃ z, z = x := ⟨x, rfl⟩
            subst hz
            as_aux_lemma =>
            constructor
            unfold F_tollbarlaw27_ShaperRates_L2 at hr
            (try dsimp only at hr)
            (try cbv)
            refine sel_if (by first | rfl | (simp only [K0, K1]; done) | (simp only [K0, K1]; rfl)) hr (fun h1 hr => ?_) (fun h1 hr => ?_)
            ·(try cbv)
             refine LoopOK.iter T (drawOK T hm) hr (fun | (i11, i12, i13) => ⟨mkFr [(1, (.rsl (.row 58 (.st [(.int .i64), (.int .i64), (.int .i64), (.int .u64), (.int .u8)]) r2))), (10, (.ptr 0 0)), (11, (.wsl 1)), (12, (.wsl 2)), (20, (.v (.int .i64 i7))), (21, (.v (.int .u64 i11))), (22, (.v (.int .u64 i12))), (23, (.v (.int .i64 i13)))] 158 0, [(0, .blk 83 [(.str (lock D.toS (lock D.fld (lock getD (lock D.toL (lock D.fld (lock getD r1 (lock toN (0 : Int))) 2)) (lock toN (lock irem (lock iconv .i64 x1) (lock ofN (lock (@xlen D) (lock D.toL (lock D.fld (lock getD r1 (lock toN (0 : Int))) 2))))))) 0))), (.v (.int .u64 (lock D.toI (lock D.fld (lock getD (lock D.toL (lock D.fld (lock getD r1 (lock toN (0 : Int))) 2)) (lock toN (lock irem (lock iconv .i64 x1) (lock ofN (lock (@xlen D) (lock D.toL (lock D.fld (lock getD r1 (lock toN (0 : Int))) 2))))))) 1)))), (.v (.int .u64 (lock D.toI (lock D.fld (lock getD (lock D.toL (lock D.fld (lock getD r1 (lock toN (0 : Int))) 2)) (lock toN (lock irem (lock iconv .i64 x1) (lock ofN (lock (@xlen D) (lock D.toL (lock D.fld (lock getD r1 (lock toN (0 : Int))) 2))))))) 2)))), (.v (.int .u64 (lock D.toI (lock D.fld (lock getD (lock D.toL (lock D.fld (lock getD r1 (lock toN (0 : Int))) 2)) (lock toN (lock irem (lock iconv .i64 x1) (lock ofN (lock (@xlen D) (lock D.toL (lock D.fld (lock getD r1 (lock toN (0 : Int))) 2))))))) 3)))), (.v (.int .i64 (lock D.toI (lock D.fld (lock getD (lock D.toL (lock D.fld (lock getD r1 (lock toN (0 : Int))) 2)) (lock toN (lock irem (lock iconv .i64 x1) (lock ofN (lock (@xlen D) (lock D.toL (lock D.fld (lock getD r1 (lock toN (0 : Int))) 2))))))) 4)))), (.v (.bool (lock D.toB (lock D.fld (lock getD (lock D.toL (lock D.fld (lock getD r1 (lock toN (0 : Int))) 2)) (lock toN (lock irem (lock iconv .i64 x1) (lock ofN (lock (@xlen D) (lock D.toL (lock D.fld (lock getD r1 (lock toN (0 : Int))) 2))))))) 5))))]), (1, .row (.ints 46 .u64 l1)), (2, .row (.ints 46 .u64 l2))], 3⟩) ?_ ?_
             ·rintro ⟨u0, u1, u2⟩ e
              simp only [Prod.mk.injEq] at e
              obtain ⟨e0, e1, e2⟩ := e
              refine le_auto hk ?_
              (try cbv); (try simp only [K0, K1, and_self, and_true, true_and]); (try first | exact e | exact e.symm | (and_intros <;> first | assumption | rfl | exact Eq.symm (by assumption)))
             ·clear hr
              intro x bb2 hr ht2
              obtain ⟨i11, i12, i13⟩ := x
              as_aux_lemma =>
              constructor
              unfold F_tollbarlaw27_ShaperRates_L3 at hr
              (try dsimp only at hr)
              (try cbv)
              refine sel_if (by first | rfl | (simp only [K0, K1]; done) | (simp only [K0, K1]; rfl)) hr (fun h1 hr => ?_) (fun h1 hr => ?_)
              ·(try cbv)
               refine guard_go hr (fun g => by first | (simp only [K0, K1, R.len, R.sub]; exact g) | exact g) (fun hr => ?_)
               refine guard_go hr (fun g => by first | (simp only [K0, K1, R.len, R.sub]; exact g) | exact g) (fun hr => ?_)
               refine sel_if (by first | rfl | (simp only [K0, K1]; done) | (simp only [K0, K1]; rfl)) hr (fun h1 hr => ?_) (fun h1 hr => ?_)
               ·(try cbv)
                apply Hidden.out
                obtain rfl := Option.some.inj hr
                have e := (ht2 _ rfl).symm
                subst e
                have e := ht1 _ rfl
                constructor
                refine ⟨_, hF, ?_⟩
                (try cbv); (try simp only [K0, K1, and_self, and_true, true_and]); (try first | exact e | exact e.symm | (and_intros <;> first | assumption | rfl | exact Eq.symm (by assumption)))
               ·(try cbv)
                apply Hidden.out
                obtain rfl := Option.some.inj hr
                constructor
                refine ⟨⟨_, rfl⟩, ?_⟩
                rintro ⟨u0, u1, u2⟩ e
                replace e := Sum.inl.inj e
                simp only [Prod.mk.injEq] at e
                obtain ⟨e0, e1, e2⟩ := e
                refine le_auto hk ?_
                (try cbv); (try simp only [K0, K1, and_self, and_true, true_and]); (try first | exact e | exact e.symm | (and_intros <;> first | assumption | rfl | exact Eq.symm (by assumption)))
              ·(try cbv)
               apply Hidden.out
               obtain rfl := Option.some.inj hr
               have e := (ht2 _ rfl).symm
               subst e
               constructor
               refine ⟨⟨_, rfl⟩, ?_⟩
               rintro u0 e
               replace e := Sum.inl.inj e
               refine le_auto hk ?_
               (try cbv); (try simp only [K0, K1, and_self, and_true, true_and]); (try first | exact e | exact e.symm | (and_intros <;> first | assumption | rfl | exact Eq.symm (by assumption)))
            ·(try cbv)
             apply Hidden.out
             obtain rfl := Option.some.inj hr
             have e := ht1 _ rfl
             constructor
             refine ⟨_, hF, ?_⟩
             (try cbv); (try simp only [K0, K1, and_self, and_true, true_and]); (try first | exact e | exact e.symm | (and_intros <;> first | assumption | rfl | exact Eq.symm (by assumption)))
end Go.Proofs.Ytojbpjcfdjakkaa
end
section
/-
  A walk that reckons: from a contract to what a row asks for.
-/
set_option linter.unusedVariables false
set_option linter.unusedSimpArgs false
namespace Go.Proofs.Ytojbpjcfdjakkaa
open Go.RowKit
theorem law_calls {P : Program} {f : FuncId} {con : Con} (h : FnOK P f con) {cargs : List SV} {obs : List Prop} {sm : List Bool} (hc : con.f cargs [] = some ⟨obs, .one (.v (.bool true)) [], sm⟩) (hob : ∀ p ∈ obs, p) {W : World} {args : List Value} (hd : DensA (fun _ => none) W (fun _ => False) cargs args) (hG : ∀ g r, (g, r) ∈ globs → Den (fun _ => none) W (fun _ => False) (.rsl r) (.slice (some ⟨g, 0, none⟩) (rlen r) (rlen r)) := by intro g r h; simp [globs] at h) :
  Calls P f args.toArray W fun e W' => e = .returned (.bool true) ∧ Below W.heap.size W W' := by
 have hO : ∀ b, ¬ Own (fun _ => none) (canon 0 ([] : List Ck)) b := by
  rintro b ⟨id, c, p, h1, h2, h3⟩
  cases h2
 have hS : HSat (ctxOf W (fun _ => False) (fun _ => none) []) (fun _ => none) (canon 0 []) (fun i => ([] : List Ck).length ≤ i) W := by
  refine ⟨fun id c hc => by simp [canon, hget] at hc, fun i j c d p q b h1 => by simp [canon, hget] at h1, fun b hb => absurd hb (hO b), rfl, rfl, rfl, Nat.le_refl _, fun _ _ _ => rfl, ⟨fun b hb => hb.elim, fun g r hg => (hG g r hg).mono (fun _ _ h => h) (Nat.le_refl _) (fun _ _ _ => rfl) (fun b _ hb => by rcases hb with hz | ho; exact hz; exact hO b ho)⟩, fun _ _ => rfl, fun id hid => rfl⟩
 have hA : Avo (ctxOf W (fun _ => False) (fun _ => none) []) (fun _ => none) (canon 0 []) = fun _ => False := by
  funext b
  simp only [Avo, ctxOf, false_or, eq_iff_iff, iff_false]
  exact hO b
 have key := h cargs [] _ hc hob (fun _ => False) (fun _ => none) W args hS (by rw [hA]; exact hd)
 refine key.mono ?_
 rintro e W' ⟨u, PL', rfl, H, D⟩
 cases D
 refine ⟨rfl, ?_⟩
 exact ⟨H.os, H.tape, H.output, H.size, fun k hk => H.old k hk (hO k)⟩
theorem law_many {P : Program} {f : FuncId} {con : Con} (h : FnOK P f con) {cargs : List SV} {obs : List Prop} {X : Type} {Pr : X → Prop} {v : X → SV} {post : X → List PostC} {sm : List Bool} (hc : con.f cargs [] = some ⟨obs, .many X Pr v post, sm⟩) (hob : ∀ p ∈ obs, p) (hv : ∀ x, Pr x → v x = .v (.bool true) ∧ post x = []) {W : World} {args : List Value} (hd : DensA (fun _ => none) W (fun _ => False) cargs args) (hG : ∀ g r, (g, r) ∈ globs → Den (fun _ => none) W (fun _ => False) (.rsl r) (.slice (some ⟨g, 0, none⟩) (rlen r) (rlen r)) := by intro g r h; simp [globs] at h) :
  Calls P f args.toArray W fun e W' => e = .returned (.bool true) ∧ Below W.heap.size W W' := by
 have hO : ∀ b, ¬ Own (fun _ => none) (canon 0 ([] : List Ck)) b := by
  rintro b ⟨id, c, p, h1, h2, h3⟩
  cases h2
 have hS : HSat (ctxOf W (fun _ => False) (fun _ => none) []) (fun _ => none) (canon 0 []) (fun i => ([] : List Ck).length ≤ i) W := by
  refine ⟨fun id c hc => by simp [canon, hget] at hc, fun i j c d p q b h1 => by simp [canon, hget] at h1, fun b hb => absurd hb (hO b), rfl, rfl, rfl, Nat.le_refl _, fun _ _ _ => rfl, ⟨fun b hb => hb.elim, fun g r hg => (hG g r hg).mono (fun _ _ h => h) (Nat.le_refl _) (fun _ _ _ => rfl) (fun b _ hb => by rcases hb with hz | ho; exact hz; exact hO b ho)⟩, fun _ _ => rfl, fun id hid => rfl⟩
 have hA : Avo (ctxOf W (fun _ => False) (fun _ => none) []) (fun _ => none) (canon 0 []) = fun _ => False := by
  funext b
  simp only [Avo, ctxOf, false_or, eq_iff_iff, iff_false]
  exact hO b
 have key := h cargs [] _ hc hob (fun _ => False) (fun _ => none) W args hS (by rw [hA]; exact hd)
 refine key.mono ?_
 rintro e W' ⟨u, PL', rfl, x, hx, H, D⟩
 obtain ⟨e1, e2⟩ := hv x hx
 rw [e1] at D
 cases D
 refine ⟨rfl, ?_⟩
 exact ⟨H.os, H.tape, H.output, H.size, fun k hk => H.old k hk (hO k)⟩
theorem densA_nil {PL : Nat → Option Pl} {w : World} {Av : Nat → Prop} : DensA PL w Av [] [] := ⟨rfl, fun j h1 _ => absurd h1 (by simp)⟩
theorem densA_cons {PL : Nat → Option Pl} {w : World} {Av : Nat → Prop} {x : SV} {l : List SV} {c : Value} {cs : List Value} (h : Den PL w Av x c) (k : DensA PL w Av l cs) : DensA PL w Av (x :: l) (c :: cs) :=
 ⟨by simp [k.1], fun j h1 h2 => by
  cases j with
  | zero => exact h
  | succ j => exact k.2 j (by simpa using h1) (by simpa using h2)⟩
theorem den_str {PL : Nat → Option Pl} {w : World} {Av : Nat → Prop} (b : ByteArray) : Den PL w Av (.str b.data.toList) (.string b) := by
 have := Den.str (PL := PL) (w := w) (Av := Av) b.data.toList
 simpa using this
end Go.Proofs.Ytojbpjcfdjakkaa
end
section
/-
  The walks of the functions that tollbar/tollbarlaw27.ShaperRates reaches, tied to the program (printed by a program of ours).
-/
set_option linter.unusedVariables false
set_option linter.unusedSimpArgs false
namespace Go.Proofs.Ytojbpjcfdjakkaa
open Go.RowKit
theorem mixed : Try.prog.follows .mixedOrders = true := by kernel_rfl
theorem tabok_shaper_RightIn : Tab Try.prog tab_shaper_RightIn := Tab.nil _
theorem ok_shaper_RightIn : FnOK Try.prog 32 con_shaper_RightIn := FnOK.of tabok_shaper_RightIn mixed Try.func32 comp_32 (vc_shaper_RightIn _ tabok_shaper_RightIn mixed)
theorem tabok_shaper_Right : Tab Try.prog tab_shaper_Right := Tab.cons (Tab.nil _) ok_shaper_RightIn Try.func32 rfl rfl
theorem ok_shaper_Right : FnOK Try.prog 13 con_shaper_Right := FnOK.of tabok_shaper_Right mixed Try.func13 comp_13 (vc_shaper_Right _ tabok_shaper_Right mixed)
theorem tabok_slices_CloneC : Tab Try.prog tab_slices_CloneC := Tab.nil _
theorem ok_slices_CloneC : FnOK Try.prog 78 con_slices_CloneC := FnOK.of tabok_slices_CloneC mixed Try.func78 comp_78 (vc_slices_CloneC _ tabok_slices_CloneC mixed)
theorem tabok_slices_CloneR : Tab Try.prog tab_slices_CloneR := Tab.nil _
theorem ok_slices_CloneR : FnOK Try.prog 79 con_slices_CloneR := FnOK.of tabok_slices_CloneR mixed Try.func79 comp_79 (vc_slices_CloneR _ tabok_slices_CloneR mixed)
theorem tabok_shaper_own : Tab Try.prog tab_shaper_own := Tab.cons (Tab.cons (Tab.nil _) ok_slices_CloneR Try.func79 rfl rfl) ok_slices_CloneC Try.func78 rfl rfl
theorem ok_shaper_own : FnOK Try.prog 50 con_shaper_own := FnOK.of tabok_shaper_own mixed Try.func50 comp_50 (vc_shaper_own _ tabok_shaper_own mixed)
theorem tabok_bucket_New : Tab Try.prog tab_bucket_New := Tab.nil _
theorem ok_bucket_New : FnOK Try.prog 60 con_bucket_New := FnOK.of tabok_bucket_New mixed Try.func60 comp_60 (vc_bucket_New _ tabok_bucket_New mixed)
theorem tabok_fifo_New : Tab Try.prog tab_fifo_New := Tab.nil _
theorem ok_fifo_New : FnOK Try.prog 61 con_fifo_New := FnOK.of tabok_fifo_New mixed Try.func61 comp_61 (vc_fifo_New _ tabok_fifo_New mixed)
theorem tabok_slices_Clone : Tab Try.prog tab_slices_Clone := Tab.nil _
theorem ok_slices_Clone : FnOK Try.prog 89 con_slices_Clone := FnOK.of tabok_slices_Clone mixed Try.func89 comp_89 (vc_slices_Clone _ tabok_slices_Clone mixed)
theorem tabok_drr_New : Tab Try.prog tab_drr_New := Tab.cons (Tab.nil _) ok_slices_Clone Try.func89 rfl rfl
theorem ok_drr_New : FnOK Try.prog 62 con_drr_New := FnOK.of tabok_drr_New mixed Try.func62 comp_62 (vc_drr_New _ tabok_drr_New mixed)
theorem tabok_shaper_Shaper_by : Tab Try.prog tab_shaper_Shaper_by := Tab.cons (Tab.cons (Tab.cons (Tab.cons (Tab.nil _) ok_drr_New Try.func62 rfl rfl) ok_fifo_New Try.func61 rfl rfl) ok_bucket_New Try.func60 rfl rfl) ok_shaper_own Try.func50 rfl rfl
theorem ok_shaper_Shaper_by : FnOK Try.prog 31 con_shaper_Shaper_by := FnOK.of tabok_shaper_Shaper_by mixed Try.func31 comp_31 (vc_shaper_Shaper_by _ tabok_shaper_Shaper_by mixed)
theorem tabok_shaper_New : Tab Try.prog tab_shaper_New := Tab.cons (Tab.cons (Tab.nil _) ok_shaper_Shaper_by Try.func31 rfl rfl) ok_shaper_Right Try.func13 rfl rfl
theorem ok_shaper_New : FnOK Try.prog 10 con_shaper_New := FnOK.of tabok_shaper_New mixed Try.func10 comp_10 (vc_shaper_New _ tabok_shaper_New mixed)
theorem tabok_flow_ClassIn : Tab Try.prog tab_flow_ClassIn := Tab.nil _
theorem ok_flow_ClassIn : FnOK Try.prog 81 con_flow_ClassIn := FnOK.of tabok_flow_ClassIn mixed Try.func81 comp_81 (vc_flow_ClassIn _ tabok_flow_ClassIn mixed)
theorem tabok_slices_IndexFuncR : Tab Try.prog tab_slices_IndexFuncR := Tab.cons (Tab.nil _) ok_flow_ClassIn Try.func81 rfl rfl
theorem ok_slices_IndexFuncR : FnOK Try.prog 80 con_slices_IndexFuncR := FnOK.of tabok_slices_IndexFuncR mixed Try.func80 comp_80 (vc_slices_IndexFuncR _ tabok_slices_IndexFuncR mixed)
theorem tabok_flow_Table_Class : Tab Try.prog tab_flow_Table_Class := Tab.cons (Tab.nil _) ok_slices_IndexFuncR Try.func80 rfl rfl
theorem ok_flow_Table_Class : FnOK Try.prog 51 con_flow_Table_Class := FnOK.of tabok_flow_Table_Class mixed Try.func51 comp_51 (vc_flow_Table_Class _ tabok_flow_Table_Class mixed)
theorem tabok_fifo_Queue_grow : Tab Try.prog tab_fifo_Queue_grow := Tab.nil _
theorem ok_fifo_Queue_grow : FnOK Try.prog 91 con_fifo_Queue_grow := FnOK.of tabok_fifo_Queue_grow mixed Try.func91 comp_91 (vc_fifo_Queue_grow _ tabok_fifo_Queue_grow mixed)
theorem tabok_fifo_Queue_at : Tab Try.prog tab_fifo_Queue_at := Tab.nil _
theorem ok_fifo_Queue_at : FnOK Try.prog 85 con_fifo_Queue_at := FnOK.of tabok_fifo_Queue_at mixed Try.func85 comp_85 (vc_fifo_Queue_at _ tabok_fifo_Queue_at mixed)
theorem tabok_fifo_Queue_put : Tab Try.prog tab_fifo_Queue_put := Tab.cons (Tab.cons (Tab.nil _) ok_fifo_Queue_at Try.func85 rfl rfl) ok_fifo_Queue_grow Try.func91 rfl rfl
theorem ok_fifo_Queue_put : FnOK Try.prog 67 con_fifo_Queue_put := FnOK.of tabok_fifo_Queue_put mixed Try.func67 comp_67 (vc_fifo_Queue_put _ tabok_fifo_Queue_put mixed)
theorem tabok_fifo_Queue_Push : Tab Try.prog tab_fifo_Queue_Push := Tab.cons (Tab.nil _) ok_fifo_Queue_put Try.func67 rfl rfl
theorem ok_fifo_Queue_Push : FnOK Try.prog 52 con_fifo_Queue_Push := FnOK.of tabok_fifo_Queue_Push mixed Try.func52 comp_52 (vc_fifo_Queue_Push _ tabok_fifo_Queue_Push mixed)
theorem tabok_shaper_Shaper_Arrive : Tab Try.prog tab_shaper_Shaper_Arrive := Tab.cons (Tab.cons (Tab.nil _) ok_fifo_Queue_Push Try.func52 rfl rfl) ok_flow_Table_Class Try.func51 rfl rfl
theorem ok_shaper_Shaper_Arrive : FnOK Try.prog 26 con_shaper_Shaper_Arrive := FnOK.of tabok_shaper_Shaper_Arrive mixed Try.func26 comp_26 (vc_shaper_Shaper_Arrive _ tabok_shaper_Shaper_Arrive mixed)
theorem tabok_fifo_Queue_Len : Tab Try.prog tab_fifo_Queue_Len := Tab.nil _
theorem ok_fifo_Queue_Len : FnOK Try.prog 33 con_fifo_Queue_Len := FnOK.of tabok_fifo_Queue_Len mixed Try.func33 comp_33 (vc_fifo_Queue_Len _ tabok_fifo_Queue_Len mixed)
theorem tabok_fifo_Queue_Head : Tab Try.prog tab_fifo_Queue_Head := Tab.cons (Tab.nil _) ok_fifo_Queue_Len Try.func33 rfl rfl
theorem ok_fifo_Queue_Head : FnOK Try.prog 83 con_fifo_Queue_Head := FnOK.of tabok_fifo_Queue_Head mixed Try.func83 comp_83 (vc_fifo_Queue_Head _ tabok_fifo_Queue_Head mixed)
theorem tabok_shaper_Shaper_view : Tab Try.prog tab_shaper_Shaper_view := Tab.cons (Tab.nil _) ok_fifo_Queue_Head Try.func83 rfl rfl
theorem ok_shaper_Shaper_view : FnOK Try.prog 54 con_shaper_Shaper_view := FnOK.of tabok_shaper_Shaper_view mixed Try.func54 comp_54 (vc_shaper_Shaper_view _ tabok_shaper_Shaper_view mixed)
theorem tabok_drr_Ring_on : Tab Try.prog tab_drr_Ring_on := Tab.nil _
theorem ok_drr_Ring_on : FnOK Try.prog 99 con_drr_Ring_on := FnOK.of tabok_drr_Ring_on mixed Try.func99 comp_99 (vc_drr_Ring_on _ tabok_drr_Ring_on mixed)
theorem tabok_sat_Add : Tab Try.prog tab_sat_Add := Tab.nil _
theorem ok_sat_Add : FnOK Try.prog 97 con_sat_Add := FnOK.of tabok_sat_Add mixed Try.func97 comp_97 (vc_sat_Add _ tabok_sat_Add mixed)
theorem tabok_drr_Ring_visit : Tab Try.prog tab_drr_Ring_visit := Tab.cons (Tab.cons (Tab.nil _) ok_sat_Add Try.func97 rfl rfl) ok_drr_Ring_on Try.func99 rfl rfl
theorem ok_drr_Ring_visit : FnOK Try.prog 84 con_drr_Ring_visit := FnOK.of tabok_drr_Ring_visit mixed Try.func84 comp_84 (vc_drr_Ring_visit _ tabok_drr_Ring_visit mixed)
theorem tabok_drr_Ring_Next : Tab Try.prog tab_drr_Ring_Next := Tab.cons (Tab.nil _) ok_drr_Ring_visit Try.func84 rfl rfl
theorem ok_drr_Ring_Next : FnOK Try.prog 55 con_drr_Ring_Next := FnOK.of tabok_drr_Ring_Next mixed Try.func55 comp_55 (vc_drr_Ring_Next _ tabok_drr_Ring_Next mixed)
theorem tabok_fifo_Queue_Pop : Tab Try.prog tab_fifo_Queue_Pop := Tab.cons (Tab.cons (Tab.nil _) ok_fifo_Queue_at Try.func85 rfl rfl) ok_fifo_Queue_Head Try.func83 rfl rfl
theorem ok_fifo_Queue_Pop : FnOK Try.prog 56 con_fifo_Queue_Pop := FnOK.of tabok_fifo_Queue_Pop mixed Try.func56 comp_56 (vc_fifo_Queue_Pop _ tabok_fifo_Queue_Pop mixed)
theorem tabok_bucket_Bucket_Take : Tab Try.prog tab_bucket_Bucket_Take := Tab.nil _
theorem ok_bucket_Bucket_Take : FnOK Try.prog 57 con_bucket_Bucket_Take := FnOK.of tabok_bucket_Bucket_Take mixed Try.func57 comp_57 (vc_bucket_Bucket_Take _ tabok_bucket_Bucket_Take mixed)
theorem tabok_shaper_Shaper_Next : Tab Try.prog tab_shaper_Shaper_Next := Tab.cons (Tab.cons (Tab.cons (Tab.cons (Tab.nil _) ok_bucket_Bucket_Take Try.func57 rfl rfl) ok_fifo_Queue_Pop Try.func56 rfl rfl) ok_drr_Ring_Next Try.func55 rfl rfl) ok_shaper_Shaper_view Try.func54 rfl rfl
theorem ok_shaper_Shaper_Next : FnOK Try.prog 29 con_shaper_Shaper_Next := FnOK.of tabok_shaper_Shaper_Next mixed Try.func29 comp_29 (vc_shaper_Shaper_Next _ tabok_shaper_Shaper_Next mixed)
theorem tabok_sat_Mul : Tab Try.prog tab_sat_Mul := Tab.nil _
theorem ok_sat_Mul : FnOK Try.prog 98 con_sat_Mul := FnOK.of tabok_sat_Mul mixed Try.func98 comp_98 (vc_sat_Mul _ tabok_sat_Mul mixed)
theorem tabok_sat_Fill : Tab Try.prog tab_sat_Fill := Tab.cons (Tab.cons (Tab.nil _) ok_sat_Add Try.func97 rfl rfl) ok_sat_Mul Try.func98 rfl rfl
theorem ok_sat_Fill : FnOK Try.prog 82 con_sat_Fill := FnOK.of tabok_sat_Fill mixed Try.func82 comp_82 (vc_sat_Fill _ tabok_sat_Fill mixed)
theorem tabok_bucket_Bucket_Tick : Tab Try.prog tab_bucket_Bucket_Tick := Tab.cons (Tab.nil _) ok_sat_Fill Try.func82 rfl rfl
theorem ok_bucket_Bucket_Tick : FnOK Try.prog 53 con_bucket_Bucket_Tick := FnOK.of tabok_bucket_Bucket_Tick mixed Try.func53 comp_53 (vc_bucket_Bucket_Tick _ tabok_bucket_Bucket_Tick mixed)
theorem tabok_shaper_Shaper_Tick : Tab Try.prog tab_shaper_Shaper_Tick := Tab.cons (Tab.nil _) ok_bucket_Bucket_Tick Try.func53 rfl rfl
theorem ok_shaper_Shaper_Tick : FnOK Try.prog 28 con_shaper_Shaper_Tick := FnOK.of tabok_shaper_Shaper_Tick mixed Try.func28 comp_28 (vc_shaper_Shaper_Tick _ tabok_shaper_Shaper_Tick mixed)
theorem tabok_shaper_Shaper_Len : Tab Try.prog tab_shaper_Shaper_Len := Tab.cons (Tab.nil _) ok_fifo_Queue_Len Try.func33 rfl rfl
theorem ok_shaper_Shaper_Len : FnOK Try.prog 14 con_shaper_Shaper_Len := FnOK.of tabok_shaper_Shaper_Len mixed Try.func14 comp_14 (vc_shaper_Shaper_Len _ tabok_shaper_Shaper_Len mixed)
theorem tabok_drr_copied : Tab Try.prog tab_drr_copied := Tab.nil _
theorem ok_drr_copied : FnOK Try.prog 77 con_drr_copied := FnOK.of tabok_drr_copied mixed Try.func77 comp_77 (vc_drr_copied _ tabok_drr_copied mixed)
theorem tabok_drr_Ring_State : Tab Try.prog tab_drr_Ring_State := Tab.cons (Tab.nil _) ok_drr_copied Try.func77 rfl rfl
theorem ok_drr_Ring_State : FnOK Try.prog 48 con_drr_Ring_State := FnOK.of tabok_drr_Ring_State mixed Try.func48 comp_48 (vc_drr_Ring_State _ tabok_drr_Ring_State mixed)
theorem tabok_fifo_Queue_All : Tab Try.prog tab_fifo_Queue_All := Tab.cons (Tab.cons (Tab.nil _) ok_fifo_Queue_at Try.func85 rfl rfl) ok_fifo_Queue_Len Try.func33 rfl rfl
theorem ok_fifo_Queue_All : FnOK Try.prog 66 con_fifo_Queue_All := FnOK.of tabok_fifo_Queue_All mixed Try.func66 comp_66 (vc_fifo_Queue_All _ tabok_fifo_Queue_All mixed)
theorem tabok_shaper_Shaper_queues : Tab Try.prog tab_shaper_Shaper_queues := Tab.cons (Tab.nil _) ok_fifo_Queue_All Try.func66 rfl rfl
theorem ok_shaper_Shaper_queues : FnOK Try.prog 36 con_shaper_Shaper_queues := FnOK.of tabok_shaper_Shaper_queues mixed Try.func36 comp_36 (vc_shaper_Shaper_queues _ tabok_shaper_Shaper_queues mixed)
theorem tabok_shaper_Shaper_Snap : Tab Try.prog tab_shaper_Shaper_Snap := Tab.cons (Tab.cons (Tab.nil _) ok_shaper_Shaper_queues Try.func36 rfl rfl) ok_drr_Ring_State Try.func48 rfl rfl
theorem ok_shaper_Shaper_Snap : FnOK Try.prog 21 con_shaper_Shaper_Snap := FnOK.of tabok_shaper_Shaper_Snap mixed Try.func21 comp_21 (vc_shaper_Shaper_Snap _ tabok_shaper_Shaper_Snap mixed)
theorem tabok_slices_EqualC : Tab Try.prog tab_slices_EqualC := Tab.nil _
theorem ok_slices_EqualC : FnOK Try.prog 63 con_slices_EqualC := FnOK.of tabok_slices_EqualC mixed Try.func63 comp_63 (vc_slices_EqualC _ tabok_slices_EqualC mixed)
theorem tabok_slices_EqualR : Tab Try.prog tab_slices_EqualR := Tab.nil _
theorem ok_slices_EqualR : FnOK Try.prog 64 con_slices_EqualR := FnOK.of tabok_slices_EqualR mixed Try.func64 comp_64 (vc_slices_EqualR _ tabok_slices_EqualR mixed)
theorem tabok_plan_Same : Tab Try.prog tab_plan_Same := Tab.cons (Tab.cons (Tab.nil _) ok_slices_EqualR Try.func64 rfl rfl) ok_slices_EqualC Try.func63 rfl rfl
theorem ok_plan_Same : FnOK Try.prog 34 con_plan_Same := FnOK.of tabok_plan_Same mixed Try.func34 comp_34 (vc_plan_Same _ tabok_plan_Same mixed)
theorem tabok_shaper_Shaper_Apply : Tab Try.prog tab_shaper_Shaper_Apply := Tab.cons (Tab.cons (Tab.nil _) ok_plan_Same Try.func34 rfl rfl) ok_shaper_Right Try.func13 rfl rfl
theorem ok_shaper_Shaper_Apply : FnOK Try.prog 15 con_shaper_Shaper_Apply := FnOK.of tabok_shaper_Shaper_Apply mixed Try.func15 comp_15 (vc_shaper_Shaper_Apply _ tabok_shaper_Shaper_Apply mixed)
theorem tabok_shaper_Shaper_Port : Tab Try.prog tab_shaper_Shaper_Port := Tab.cons (Tab.nil _) ok_shaper_own Try.func50 rfl rfl
theorem ok_shaper_Shaper_Port : FnOK Try.prog 24 con_shaper_Shaper_Port := FnOK.of tabok_shaper_Shaper_Port mixed Try.func24 comp_24 (vc_shaper_Shaper_Port _ tabok_shaper_Shaper_Port mixed)
theorem tabok_snap_Snap_queue : Tab Try.prog tab_snap_Snap_queue := Tab.nil _
theorem ok_snap_Snap_queue : FnOK Try.prog 88 con_snap_Snap_queue := FnOK.of tabok_snap_Snap_queue mixed Try.func88 comp_88 (vc_snap_Snap_queue _ tabok_snap_Snap_queue mixed)
theorem tabok_snap_RightIn : Tab Try.prog tab_snap_RightIn := Tab.cons (Tab.nil _) ok_snap_Snap_queue Try.func88 rfl rfl
theorem ok_snap_RightIn : FnOK Try.prog 87 con_snap_RightIn := FnOK.of tabok_snap_RightIn mixed Try.func87 comp_87 (vc_snap_RightIn _ tabok_snap_RightIn mixed)
theorem tabok_slices_IndexFuncQ : Tab Try.prog tab_slices_IndexFuncQ := Tab.cons (Tab.nil _) ok_snap_RightIn Try.func87 rfl rfl
theorem ok_slices_IndexFuncQ : FnOK Try.prog 100 con_slices_IndexFuncQ := FnOK.of tabok_slices_IndexFuncQ mixed Try.func100 comp_100 (vc_slices_IndexFuncQ _ tabok_slices_IndexFuncQ mixed)
theorem tabok_slices_ContainsFunc : Tab Try.prog tab_slices_ContainsFunc := Tab.cons (Tab.nil _) ok_slices_IndexFuncQ Try.func100 rfl rfl
theorem ok_slices_ContainsFunc : FnOK Try.prog 86 con_slices_ContainsFunc := FnOK.of tabok_slices_ContainsFunc mixed Try.func86 comp_86 (vc_slices_ContainsFunc _ tabok_slices_ContainsFunc mixed)
theorem tabok_snap_Right : Tab Try.prog tab_snap_Right := Tab.cons (Tab.nil _) ok_slices_ContainsFunc Try.func86 rfl rfl
theorem ok_snap_Right : FnOK Try.prog 58 con_snap_Right := FnOK.of tabok_snap_Right mixed Try.func58 comp_58 (vc_snap_Right _ tabok_snap_Right mixed)
theorem tabok_drr_Ring_Restore : Tab Try.prog tab_drr_Ring_Restore := Tab.cons (Tab.nil _) ok_drr_copied Try.func77 rfl rfl
theorem ok_drr_Ring_Restore : FnOK Try.prog 59 con_drr_Ring_Restore := FnOK.of tabok_drr_Ring_Restore mixed Try.func59 comp_59 (vc_drr_Ring_Restore _ tabok_drr_Ring_Restore mixed)
theorem tabok_shaper_Shaper_Restore : Tab Try.prog tab_shaper_Shaper_Restore := Tab.cons (Tab.cons (Tab.nil _) ok_drr_Ring_Restore Try.func59 rfl rfl) ok_snap_Right Try.func58 rfl rfl
theorem ok_shaper_Shaper_Restore : FnOK Try.prog 30 con_shaper_Shaper_Restore := FnOK.of tabok_shaper_Shaper_Restore mixed Try.func30 comp_30 (vc_shaper_Shaper_Restore _ tabok_shaper_Shaper_Restore mixed)
theorem tabok_tollbarlaw27_awake : Tab Try.prog tab_tollbarlaw27_awake := Tab.cons (Tab.cons (Tab.cons (Tab.cons (Tab.cons (Tab.cons (Tab.cons (Tab.cons (Tab.cons (Tab.cons (Tab.nil _) ok_shaper_Shaper_Restore Try.func30 rfl rfl) ok_shaper_Right Try.func13 rfl rfl) ok_shaper_Shaper_Port Try.func24 rfl rfl) ok_shaper_Shaper_Apply Try.func15 rfl rfl) ok_shaper_Shaper_Snap Try.func21 rfl rfl) ok_shaper_Shaper_Len Try.func14 rfl rfl) ok_shaper_Shaper_Tick Try.func28 rfl rfl) ok_shaper_Shaper_Next Try.func29 rfl rfl) ok_shaper_Shaper_Arrive Try.func26 rfl rfl) ok_shaper_New Try.func10 rfl rfl
theorem ok_tollbarlaw27_awake : FnOK Try.prog 8 con_tollbarlaw27_awake := FnOK.of tabok_tollbarlaw27_awake mixed Try.func8 comp_8 (vc_tollbarlaw27_awake _ tabok_tollbarlaw27_awake mixed)
theorem tabok_tollbarlaw27_few : Tab Try.prog tab_tollbarlaw27_few := Tab.nil _
theorem ok_tollbarlaw27_few : FnOK Try.prog 9 con_tollbarlaw27_few := FnOK.of tabok_tollbarlaw27_few mixed Try.func9 comp_9 (vc_tollbarlaw27_few _ tabok_tollbarlaw27_few mixed)
theorem tabok_tollbarlaw27_ShaperRates : Tab Try.prog tab_tollbarlaw27_ShaperRates := Tab.cons (Tab.cons (Tab.cons (Tab.cons (Tab.cons (Tab.cons (Tab.nil _) ok_shaper_Shaper_Next Try.func29 rfl rfl) ok_shaper_Shaper_Tick Try.func28 rfl rfl) ok_shaper_Shaper_Arrive Try.func26 rfl rfl) ok_shaper_New Try.func10 rfl rfl) ok_tollbarlaw27_few Try.func9 rfl rfl) ok_tollbarlaw27_awake Try.func8 rfl rfl
theorem ok_tollbarlaw27_ShaperRates : FnOK Try.prog 6 con_tollbarlaw27_ShaperRates := FnOK.of tabok_tollbarlaw27_ShaperRates mixed Try.func6 comp_6 (vc_tollbarlaw27_ShaperRates _ tabok_tollbarlaw27_ShaperRates mixed)
end Go.Proofs.Ytojbpjcfdjakkaa
end
section
/-
  A walk that reckons: arguments of any shape, opened.
-/
set_option linter.unusedVariables false
set_option linter.unusedSimpArgs false
namespace Go.Proofs.Ytojbpjcfdjakkaa
open Go.RowKit Go.ChangeShapes Go.WideShapes Go.Deep
mutual
def Ty.rng : Ty → D → Prop
 | .int k, d => (Lit.int k d.toI).wf = true
 | .bool, _ => True
 | .str, d => d.toS.length ≤ maxLen
 | .bytes _, d => d.toS.length ≤ maxLen
 | .ints _ k, d => d.toIs.length ≤ maxLen ∧ ∀ x ∈ d.toIs, (Lit.int k x).wf = true
 | .row _ e, d => d.toL.length ≤ maxLen ∧ ∀ x ∈ d.toL, e.rng x
 | .st fs, d => Ty.rngL fs d 0
 | .self _, _ => True
 | .u8s _, _ => True
def Ty.rngL : List Ty → D → Nat → Prop
 | [], _, _ => True
 | t :: ts, d, j => t.rng (d.fld j) ∧ Ty.rngL ts d (j + 1)
end
mutual
def tyChk (P : Program) : Ty → TypeId → Bool
 | .int k, t => match P.underlying t with | some (.int j) => j == k | _ => false
 | .bool, t => match P.underlying t with | some .bool => true | _ => false
 | .str, t => match P.underlying t with | some .string => true | _ => false
 | .bytes T, t => match P.underlying t, P.underlying T with | some (.slice e), some (.int .u8) => Nat.beq e T && Nat.beq (P.cellsOf T) 1 | _, _ => false
 | .ints T k, t => match P.underlying t, P.underlying T with | some (.slice e), some (.int j) => Nat.beq e T && Nat.beq (P.cellsOf T) 1 && j == k | _, _ => false
 | .row T e, t => match P.underlying t with | some (.slice e') => Nat.beq e' T && Nat.beq (P.cellsOf T) e.size && Nat.ble 1 e.size && tyChk P e T | _ => false
 | .st es, t => match P.underlying t with | some (.struct fl) => Nat.beq (P.cellsOf t) (Ty.sizes es) && tysChk P es fl.toList 0 | _ => false
 | .self _, _ => false
 | .u8s _, _ => false
def tysChk (P : Program) : List Ty → List Field → Nat → Bool
 | [], [], _ => true
 | e :: es, f :: fl, o => Nat.beq f.offset o && Nat.beq (P.cellsOf f.type) e.size && tyChk P e f.type && tysChk P es fl (o + e.size)
 | _, _, _ => false
end
section
variable {H : Type} {enc : TypeId × Value → H} {P : Program} {w : World} {base : Nat} {spare : Nat → Bool} {held : Bool}
def PN : Nat → Option Pl := fun _ => none
def AN : Nat → Prop := fun _ => False
theorem open_row {r : R} {a : Addr} {len cap : Nat} (hr : rlen r = len) (hl : len ≤ cap) (hsz : 0 < r.sz) (hrow : ∀ i, i < len → ∃ cs, cs.length = r.sz ∧ (∀ j, j < r.sz → w.cell? (a.add (i * r.sz + j)) = cs[j]?) ∧ Dens PN w AN (r.elem i) cs) :
  Den PN w AN (.rsl r) (.slice (some a) len cap) := by
 subst hr
 have : ∀ i, ∃ cs : List Value, i < rlen r → cs.length = r.sz ∧ (∀ j, j < r.sz → w.cell? (a.add (i * r.sz + j)) = cs[j]?) ∧ Dens PN w AN (r.elem i) cs := fun i => by
  by_cases h : i < rlen r
  ·obtain ⟨cs, h⟩ := hrow i h; exact ⟨cs, fun _ => h⟩
  ·exact ⟨[], fun h' => absurd h' h⟩
 obtain ⟨f, hf⟩ := Classical.axiomOfChoice this
 refine .rsl r (some a) cap (fun i j => ((f i)[j]?).getD undef) hl ?_ ?_ ?_
 ·intro h0
  obtain ⟨h1, h2, h3⟩ := hf 0 h0
  have hc := h2 0 hsz
  rw [Nat.zero_mul, Nat.zero_add, List.getElem?_eq_getElem (by omega)] at hc
  refine ⟨a, rfl, ?_, fun h => h⟩
  have := World.block_lt_of_cell? w _ hc
  rwa [add_block] at this
 ·intro i j ad e hi hj
  injection e with e; subst e
  obtain ⟨h1, h2, h3⟩ := hf i hi
  have hjl : j < (f i).length := by omega
  rw [add_add, h2 j hj, List.getElem?_eq_getElem hjl]
  have hle : (r.elem i).length = (f i).length := h3.1.symm
  exact ⟨rfl, by simpa using (h3.2 j (by omega) hjl).2⟩
 ·intro i j hi hj
  obtain ⟨h1, h2, h3⟩ := hf i hi
  have hjl : j < (f i).length := by rw [h3.1]; exact hj
  have := (h3.2 j hj hjl).1
  simpa [List.getElem?_eq_getElem hjl] using this
theorem den1 {v : SV} {c : Value} (h : Den PN w AN v c) (h1 : c.oneCell' = true) : Dens PN w AN [v] [c] := Dens.cons h h1 Dens.nil
theorem open_bytes {t T : TypeId} (hu : P.underlying t = some (.slice T)) (he : P.underlying T = some (.int .u8)) (hc : P.cellsOf T = 1) {fuel : Nat} {cs : List Value} {x : DataW H × List MemPlace} (h : DataW.trod enc P w base spare held fuel t cs = some x) :
  ∃ l : List UInt8, l.length ≤ maxLen ∧ Dens PN w AN [.rsl (.bs T l)] cs := by
 rcases open_slice1 hu hc h with ⟨rfl, _⟩ | ⟨a, len, cap, m, n, V, D, Pl, rfl, hb, hl, hm, hmm, _, hi⟩
 ·exact ⟨[], by simp, den1 (nil_den rfl .nsl) rfl⟩
 ·have hle : len ≤ m := by rw [hmm]; split <;> omega
  have each : ∀ i, ∃ b : UInt8, i < len → w.cell? (a.add i) = some (.int .u8 b.toNat) := fun i => by
   by_cases h : i < len
   ·obtain ⟨h1, h2⟩ := hi i (by omega)
    obtain ⟨y, e1, _, e2⟩ := DataW.trod_int he h2
    injection e1 with e1 _
    have hy : 0 ≤ y ∧ y ≤ 255 := by simpa [Lit.wf, IntKind.min, IntKind.max, IntKind.signed, IntKind.bits, Int.lt_add_one_iff, Int.le_sub_one_iff] using e2
    refine ⟨UInt8.ofNat y.toNat, fun _ => ?_⟩
    rw [h1, e1]
    have : ((UInt8.ofNat y.toNat).toNat : Int) = y := by simp; omega
    rw [this]
   ·exact ⟨0, fun h' => absurd h' h⟩
  obtain ⟨f, hf⟩ := Classical.axiomOfChoice each
  refine ⟨(List.range len).map f, by simp; omega, den1 (open_row (by simp [rlen]) hl (by show 0 < 1; omega) fun i hi => ⟨[.int .u8 (f i).toNat], rfl, ?_, ?_⟩) rfl⟩
  ·intro j hj
   have : j = 0 := by simp [R.sz] at hj; exact hj
   subst this
   simp only [R.sz, Nat.mul_one, Nat.add_zero]
   rw [hf i hi]
   rfl
  ·have : getB ((List.range len).map f) i = ((f i).toNat : Int) := by simp [getB, hi]
   simp only [R.elem, lock_eq, this]
   exact den1 (.v _) rfl
theorem open_intsD {t T : TypeId} {k : IntKind} (hu : P.underlying t = some (.slice T)) (he : P.underlying T = some (.int k)) (hc : P.cellsOf T = 1) {fuel : Nat} {cs : List Value} {x : DataW H × List MemPlace} (h : DataW.trod enc P w base spare held fuel t cs = some x) :
  ∃ l : List Int, l.length ≤ maxLen ∧ (∀ y ∈ l, (Lit.int k y).wf = true) ∧ Dens PN w AN [.rsl (.ints T k l)] cs := by
 rcases open_slice1 hu hc h with ⟨rfl, _⟩ | ⟨a, len, cap, m, n, V, D, Pl, rfl, hb, hl, hm, hmm, _, hi⟩
 ·exact ⟨[], by simp, by simp, den1 (nil_den rfl .nsl) rfl⟩
 ·have hle : len ≤ m := by rw [hmm]; split <;> omega
  have each : ∀ i, ∃ b : Int, i < len → w.cell? (a.add i) = some (.int k b) ∧ (Lit.int k b).wf = true := fun i => by
   by_cases h : i < len
   ·obtain ⟨h1, h2⟩ := hi i (by omega)
    obtain ⟨y, e1, _, e2⟩ := DataW.trod_int he h2
    injection e1 with e1 _
    exact ⟨y, fun _ => ⟨by rw [h1, e1], e2⟩⟩
   ·exact ⟨0, fun h' => absurd h' h⟩
  obtain ⟨f, hf⟩ := Classical.axiomOfChoice each
  refine ⟨(List.range len).map f, by simp; omega, ?_, den1 (open_row (by simp [rlen]) hl (by show 0 < 1; omega) fun i hi => ⟨[.int k (f i)], rfl, ?_, ?_⟩) rfl⟩
  ·intro y hy
   obtain ⟨i, h1, rfl⟩ := List.mem_map.1 hy
   exact (hf i (List.mem_range.1 h1)).2
  ·intro j hj
   have : j = 0 := by simp [R.sz] at hj; exact hj
   subst this
   simp only [R.sz, Nat.mul_one, Nat.add_zero]
   rw [(hf i hi).1]
   rfl
  ·have : getI ((List.range len).map f) i = f i := by simp [getI, hi]
   simp only [R.elem, lock_eq, this]
   exact den1 (.v _) rfl
theorem dens_app {a b : List SV} {c d : List Value} (h : Dens PN w AN a c) (k : Dens PN w AN b d) : Dens PN w AN (a ++ b) (c ++ d) := by
 refine ⟨by simp [h.1, k.1], fun j h1 h2 => ?_⟩
 by_cases hj : j < a.length
 ·have hc : j < c.length := by rw [h.1]; exact hj
  rw [List.getElem_append_left hj, List.getElem_append_left hc]
  exact h.2 j hj hc
 ·have hc : ¬ j < c.length := by rw [h.1]; exact hj
  rw [List.getElem_append_right (by omega), List.getElem_append_right (by omega)]
  have e := h.1
  have := k.2 (j - a.length) (by simp at h1; omega) (by simp at h2; omega)
  simpa [e] using this
theorem D.fld_l (l : List D) (j : Nat) : (D.l l).fld j = l.getD j (.i 0) := rfl
theorem open_ty : ∀ (e : Ty) (t : TypeId) (fuel : Nat) (cs : List Value) (x : DataW H × List MemPlace), tyChk P e t = true → DataW.trod enc P w base spare held fuel t cs = some x → ∃ d : D, Dens PN w AN (e.leaves d) cs ∧ e.rng d := by
 intro e
 apply Ty.rec (motive_1 := fun e => ∀ (t : TypeId) (fuel : Nat) (cs : List Value) (x : DataW H × List MemPlace), tyChk P e t = true → DataW.trod enc P w base spare held fuel t cs = some x → ∃ d : D, Dens PN w AN (e.leaves d) cs ∧ e.rng d)
  (motive_2 := fun es => ∀ (fl : List Field) (o : Nat) (cs : List Value), tysChk P es fl o = true → (∀ f ∈ fl, ∃ fuel x, DataW.trod enc P w base spare held fuel f.type ((cs.drop f.offset).take (P.cellsOf f.type)) = some x) → cs.length = o + Ty.sizes es →
   ∃ ds : List D, ds.length = es.length ∧ ∀ d j, (∀ i, i < es.length → d.fld (j + i) = ds.getD i (.i 0)) → Dens PN w AN (Ty.leavesL es d j) (cs.drop o) ∧ Ty.rngL es d j)
 ·intro k t fuel cs x hc h
  simp only [tyChk] at hc
  split at hc
  ·rename_i j hu
   have := LawfulBEq.eq_of_beq hc
   subst this
   obtain ⟨y, rfl, _, e2⟩ := DataW.trod_int hu h
   refine ⟨.i y, ?_, e2⟩
   simp only [Ty.leaves, lock_eq]
   exact den1 (.v _) rfl
  ·cases hc
 ·intro t fuel cs x hc h
  simp only [tyChk] at hc
  split at hc
  ·rename_i hu
   obtain ⟨b, rfl, _⟩ := DataW.trod_bool hu h
   refine ⟨.b b, ?_, trivial⟩
   simp only [Ty.leaves, lock_eq]
   exact den1 (.v _) rfl
  ·cases hc
 ·intro t fuel cs x hc h
  simp only [tyChk] at hc
  split at hc
  ·rename_i hu
   obtain ⟨b, rfl, _, e2⟩ := DataW.trod_string hu h
   refine ⟨.s b.data.toList, ?_, by
    show b.data.toList.length ≤ maxLen
    have : b.data.toList.length = b.size := by rw [Array.length_toList]; rfl
    rw [this]; exact e2⟩
   simp only [Ty.leaves, lock_eq, D.toS]
   have := Den.str (PL := PN) (w := w) (Av := AN) b.data.toList
   simp at this
   exact den1 this rfl
  ·cases hc
 ·intro T t fuel cs x hc h
  simp only [tyChk] at hc
  split at hc
  ·rename_i e0 hu he
   simp only [Bool.and_eq_true] at hc
   have e1 := (nbeq _ _).1 hc.1
   have e2 := (nbeq _ _).1 hc.2
   subst e1
   obtain ⟨l, h1, h2⟩ := open_bytes hu he e2 h
   exact ⟨.s l, by simp only [Ty.leaves, lock_eq]; exact h2, h1⟩
  ·cases hc
 ·intro T k t fuel cs x hc h
  simp only [tyChk] at hc
  split at hc
  ·rename_i e0 j hu he
   simp only [Bool.and_eq_true] at hc
   have e1 := (nbeq _ _).1 hc.1.1
   have e2 := (nbeq _ _).1 hc.1.2
   have e3 := LawfulBEq.eq_of_beq hc.2
   subst e1; subst e3
   obtain ⟨l, h1, h2, h3⟩ := open_intsD hu he e2 h
   exact ⟨.is l, by simp only [Ty.leaves, lock_eq]; exact h3, h1, h2⟩
  ·cases hc
 ·intro T e ih t fuel cs x hc h
  simp only [tyChk] at hc
  split at hc
  ·rename_i e0 hu
   simp only [Bool.and_eq_true] at hc
   obtain ⟨⟨⟨c1, c2⟩, c3⟩, c4⟩ := hc
   have e1 := (nbeq _ _).1 c1
   have e2 := (nbeq _ _).1 c2
   have e3 := Nat.le_of_ble_eq_true c3
   subst e1
   rcases open_slice hu h with ⟨rfl, _⟩ | ⟨a, len, cap, m, n, D0, Pl, rfl, hb, hl, hm, hmm, _, hi⟩
   ·refine ⟨.l [], ?_, by simp [Ty.rng, D.toL]⟩
    simp only [Ty.leaves, lock_eq, D.toL]
    exact den1 (nil_den rfl .nsl) rfl
   ·have hle : len ≤ m := by rw [hmm]; split <;> omega
    have each : ∀ i, ∃ q : D × List Value, i < len → q.2.length = e.size ∧ (∀ j, j < e.size → w.cell? (a.add (i * e.size + j)) = q.2[j]?) ∧ Dens PN w AN (e.leaves q.1) q.2 ∧ e.rng q.1 := fun i => by
     by_cases hil : i < len
     ·obtain ⟨cs', g1, g2⟩ := hi i (by omega)
      obtain ⟨_, g3, g4⟩ := World.cells?_some g1
      obtain ⟨d, g5, g6⟩ := ih _ n cs' _ c4 g2
      refine ⟨(d, cs'), fun _ => ⟨by rw [g3, e2], fun j hj => ?_, g5, g6⟩⟩
      have := g4 j (by omega)
      rw [add_add, e2] at this
      exact this
     ·exact ⟨(.i 0, []), fun h' => absurd h' hil⟩
    obtain ⟨f, hf⟩ := Classical.axiomOfChoice each
    refine ⟨.l ((List.range len).map fun i => (f i).1), ?_, ?_, ?_⟩
    ·simp only [Ty.leaves, lock_eq, D.toL]
     refine den1 (open_row (by simp [rlen]) hl (by show 0 < e.size; omega) fun i hi => ⟨(f i).2, (hf i hi).1, (hf i hi).2.1, ?_⟩) rfl
     have : getD ((List.range len).map fun i => (f i).1) i = (f i).1 := by simp [getD, hi]
     simp only [R.elem, lock_eq, this]
     exact (hf i hi).2.2.1
    ·simp [D.toL]; omega
    ·intro y hy
     simp only [D.toL] at hy
     obtain ⟨i, h1, rfl⟩ := List.mem_map.1 hy
     exact (hf i (List.mem_range.1 h1)).2.2.2
  ·cases hc
 ·intro es ih t fuel cs x hc h
  simp only [tyChk] at hc
  split at hc
  ·rename_i fl hu
   simp only [Bool.and_eq_true] at hc
   have e1 := (nbeq _ _).1 hc.1
   obtain ⟨xs, n, _, _, hlen, hxl, hx⟩ := DataW.trod_struct hu h
   obtain ⟨ds, h1, h2⟩ := ih fl.toList 0 cs hc.2 (fun f hf => by
    obtain ⟨i, hi, he⟩ := List.getElem_of_mem hf
    have hi' : i < fl.size := by simpa using hi
    have := hx i f (by rw [Array.getElem?_eq_getElem hi']; simpa using he)
    exact ⟨n, xs[i]'(by omega), by rw [this, List.getElem?_eq_getElem (by omega)]⟩) (by rw [hlen, e1]; omega)
   obtain ⟨g1, g2⟩ := h2 (.l ds) 0 (fun i hi => by rw [D.fld_l, Nat.zero_add])
   exact ⟨.l ds, by simp only [Ty.leaves]; simpa using g1, g2⟩
  ·cases hc
 ·intro T t fuel cs x hc h; simp [tyChk] at hc
 ·intro n t fuel cs x hc h; simp [tyChk] at hc
 ·intro fl o cs hc hf hl
  cases fl with
  | nil => exact ⟨[], rfl, fun d j _ => ⟨by simp only [Ty.leavesL]; rw [List.drop_of_length_le (by simp [Ty.sizes] at hl; omega)]; exact Dens.nil, trivial⟩⟩
  | cons f fl => simp [tysChk] at hc
 ·intro e es ih1 ih2 fl o cs hc hf hl
  cases fl with
  | nil => simp [tysChk] at hc
  | cons f fl =>
   simp only [tysChk, Bool.and_eq_true] at hc
   obtain ⟨⟨⟨c1, c2⟩, c3⟩, c4⟩ := hc
   have e1 := (nbeq _ _).1 c1
   have e2 := (nbeq _ _).1 c2
   obtain ⟨fuel, x, hx⟩ := hf f (List.mem_cons_self ..)
   obtain ⟨d1, g1, g2⟩ := ih1 _ _ _ _ c3 hx
   simp only [Ty.sizes] at hl
   obtain ⟨ds, g3, g4⟩ := ih2 fl (o + e.size) cs c4 (fun f hf' => hf f (List.mem_cons_of_mem _ hf')) (by omega)
   refine ⟨d1 :: ds, by simp [g3], fun d j hd => ?_⟩
   have hd0 : d.fld j = d1 := by simpa using hd 0 (by simp)
   obtain ⟨k1, k2⟩ := g4 d (j + 1) (fun i hi => by
    have := hd (i + 1) (by simpa using hi)
    rw [Nat.add_assoc, Nat.add_comm 1 i, this, List.getD_cons_succ])
   rw [e1, e2] at g1
   refine ⟨?_, ?_, k2⟩
   ·simp only [Ty.leavesL, lock_eq, hd0]
    have : cs.drop o = (cs.drop o).take e.size ++ cs.drop (o + e.size) := by
     rw [← List.drop_drop, List.take_append_drop]
    rw [this]
    exact dens_app g1 k1
   ·rw [hd0]; exact g2
end
end Go.Proofs.Ytojbpjcfdjakkaa
end
section
/-
  Words, as plain Lean reads them.
-/
set_option linter.unusedVariables false
set_option linter.unusedSimpArgs false
namespace Go.Proofs.Ytojbpjcfdjakkaa
theorem pieq {a b : Int} : (ieq a b = true) = (a = b) := by simp [ieq]
theorem pilt {a b : Int} : (ilt a b = true) = (a < b) := by simp [ilt]
theorem pile {a b : Int} : (ile a b = true) = (a ≤ b) := by simp [ile]
theorem pseq {a b : List UInt8} : (seq a b = true) = (a = b) := by simp [seq]
theorem pbeq2 {a b : Bool} : (beq2 a b = true) = (a = b) := by simp [beq2]
theorem pband {a b : Bool} : (band a b = true) = (a = true ∧ b = true) := by simp [band]
def U (x : Int) : Prop := 0 ≤ x ∧ x < 18446744073709551616
theorem U.lo {x : Int} (h : U x) : 0 ≤ x := h.1
theorem U.hi {x : Int} (h : U x) : x < 18446744073709551616 := h.2
theorem pwu64 (x : Int) : IntKind.u64.wrap x = x % 18446744073709551616 := by simp [IntKind.wrap, IntKind.signed, IntKind.bits]
theorem pwu32 (x : Int) : IntKind.u32.wrap x = x % 4294967296 := by simp [IntKind.wrap, IntKind.signed, IntKind.bits]
theorem pwu16 (x : Int) : IntKind.u16.wrap x = x % 65536 := by simp [IntKind.wrap, IntKind.signed, IntKind.bits]
theorem pwu8 (x : Int) : IntKind.u8.wrap x = x % 256 := by simp [IntKind.wrap, IntKind.signed, IntKind.bits]
theorem pwi64 {x : Int} (h1 : -9223372036854775808 ≤ x) (h2 : x ≤ 9223372036854775807) : IntKind.i64.wrap x = x := by
 simp only [IntKind.wrap, IntKind.signed, IntKind.bits]
 simp
 omega
theorem pu64 {x : Int} (h1 : 0 ≤ x) (h2 : x < 18446744073709551616) : IntKind.u64.wrap x = x := by rw [pwu64]; omega
theorem pu32 {x : Int} (h1 : 0 ≤ x) (h2 : x < 4294967296) : IntKind.u32.wrap x = x := by rw [pwu32]; omega
theorem pu16 {x : Int} (h1 : 0 ≤ x) (h2 : x < 65536) : IntKind.u16.wrap x = x := by rw [pwu16]; omega
theorem pu8 {x : Int} (h1 : 0 ≤ x) (h2 : x < 256) : IntKind.u8.wrap x = x := by rw [pwu8]; omega
theorem pofN (n : Nat) : ofN n = (n : Int) := rfl
theorem ptoN (n : Nat) : toN (n : Int) = n := rfl
theorem ptoN' (x : Int) : toN x = x.toNat := rfl
theorem pxlen {α : Type} (l : List α) : xlen l = l.length := rfl
theorem pnext {n : Nat} (h : n < 9223372036854775807) : iadd .i64 (n : Int) 1 = ((n + 1 : Nat) : Int) := by
 simp only [iadd]
 rw [pwi64] <;> omega
theorem pgetI {l : List Int} {n : Nat} (h : n < l.length) : getI l n = l[n] := by simp [getI, h]
theorem pgetD {l : List D} {n : Nat} (h : n < l.length) : getD l n = l[n] := by simp [getD, h]
theorem pgetB {l : List UInt8} {n : Nat} (h : n < l.length) : getB l n = ((l[n].toNat : Nat) : Int) := by simp [getB, h]
theorem pcopy {α : Type} (l : List α) (x : α) : lspl (lrep l.length x) 0 (lsub l 0 (nmin (xlen (lrep l.length x)) (xlen l))) = l := by
 simp [lspl, lrep, lsub, nmin, xlen]
theorem pimax (a b : Int) : imax a b = max a b := by
 unfold imax
 by_cases h : b > a
 ·rw [if_pos h]; omega
 ·rw [if_neg h]; omega
theorem pimin (a b : Int) : imin a b = min a b := by
 unfold imin
 by_cases h : b < a
 ·rw [if_pos h]; omega
 ·rw [if_neg h]; omega
end Go.Proofs.Ytojbpjcfdjakkaa
end
section
/-
  What the functions of package fifo do, in plain words: a queue (this began as the text for ch22).
-/
set_option linter.unusedVariables false
set_option linter.unusedSimpArgs false
namespace Go.Proofs.Ytojbpjcfdjakkaa
abbrev Pk := Int × Int × Int
def pk (d : D) : Pk := (D.toI (D.fld d 0), D.toI (D.fld d 1), D.toI (D.fld d 2))
def mkP (p : Pk) : D := .l [.i p.1, .i p.2.1, .i p.2.2]
theorem pk_mk (a b c : Int) : pk (D.l [D.i a, D.i b, D.i c]) = (a, b, c) := rfl
def zP : D := .l [.i 0, .i 0, .i 0]
structure QR (f n : Nat) (r : List D) (l : List Pk) : Prop where
 hn : l.length = n
 le : n ≤ r.length
 hf : f < r.length ∨ (r = [] ∧ f = 0)
 big : r.length ≤ 1000000
 at_ : ∀ i, (hi : i < l.length) → pk (r.getD ((f + i) % r.length) (.i 0)) = l[i]
theorem QR.nil : QR 0 0 [] [] := ⟨rfl, by simp, .inr ⟨rfl, rfl⟩, by simp, fun i h => absurd h (by simp)⟩
theorem QR.zero {r : List D} (h : 0 < r.length) (hb : r.length ≤ 1000000) : QR 0 0 r [] := ⟨rfl, by simp, .inl h, hb, fun i h => absurd h (by simp)⟩
theorem p_at {i f : Nat} {x y : Int} {r : List D} (hr : 0 < r.length) (hf : f ≤ 1000000) (hi : i ≤ 1000000) : F_fifo_Queue_at (i : Int) x (f : Int) y r = some (((f + i) % r.length : Nat) : Int) := by
 unfold F_fifo_Queue_at
 have e : iadd .i64 (f : Int) (i : Int) = ((f + i : Nat) : Int) := by simp only [iadd]; rw [pwi64 (by omega) (by omega)]; omega
 have e2 : irem ((f + i : Nat) : Int) (ofN (xlen r)) = (((f + i) % r.length : Nat) : Int) := by
  simp only [irem, ofN, xlen]
  rw [Int.tmod_eq_emod_of_nonneg (by omega)]
  exact (Int.natCast_emod _ _).symm
 rw [if_pos (by simp only [ofN, xlen]; omega), e, e2]
theorem p_grow2 {f : Nat} {x y : Int} {r : List D} (hf : f ≤ r.length) (hb : r.length ≤ 400000) : ∃ z : List D, F_fifo_Queue_grow x (f : Int) y r = some (r.drop f ++ r.take f ++ z) ∧ r.length + z.length = max 4 (2 * r.length) := by
 obtain ⟨M, hM⟩ : ∃ M : Nat, M = max 4 (2 * r.length) := ⟨_, rfl⟩
 have hm : imax (4 : Int) (imul .i64 (2 : Int) (ofN (xlen r))) = (M : Int) := by
  have : imul .i64 (2 : Int) (ofN (xlen r)) = ((2 * r.length : Nat) : Int) := by simp only [imul, ofN, xlen]; rw [pwi64 (by omega) (by omega)]; omega
  rw [this, pimax]; omega
 obtain ⟨Z, hZ⟩ : ∃ Z : List D, Z = List.replicate M zP := ⟨_, rfl⟩
 have hZl : Z.length = M := by rw [hZ]; simp
 have e0 : @lrep D (toN (M : Int)) (D.l [(D.i (0 : Int)), (D.i (0 : Int)), (D.i (0 : Int))]) = Z := by rw [hZ]; rfl
 have ea : lsub r (toN (f : Int)) (ndec (xlen r) (toN (f : Int))) = r.drop f := by
  show (r.drop f).take (r.length - f) = _
  exact List.take_of_length_le (by simp)
 have eb : lsub r 0 (toN (f : Int)) = r.take f := by show (r.drop 0).take f = _; rfl
 have hla : (r.drop f).length = r.length - f := by simp
 have hlb : (r.take f).length = f := by simp; omega
 have em1 : nmin (xlen Z) (xlen (r.drop f)) = r.length - f := by simp only [nmin, xlen]; omega
 have el1 : lsub (r.drop f) 0 (r.length - f) = r.drop f := by show ((r.drop f).drop 0).take _ = _; exact List.take_of_length_le (by simp)
 have es1 : lspl Z 0 (r.drop f) = r.drop f ++ Z.drop (r.length - f) := by
  show Z.take 0 ++ r.drop f ++ Z.drop (0 + (r.drop f).length) = _
  rw [hla, Nat.zero_add]; rfl
 have hl1 : xlen (r.drop f ++ Z.drop (r.length - f)) = M := by simp only [xlen, List.length_append, List.length_drop]; omega
 have em2 : nmin (ndec M (toN (ofN (r.length - f)))) (xlen (r.take f)) = f := by simp only [nmin, ndec, xlen, hlb]; show min (M - (r.length - f)) f = f; omega
 have el2 : lsub (r.take f) 0 f = r.take f := by show ((r.take f).drop 0).take _ = _; exact List.take_of_length_le (by rw [List.drop_zero, hlb]; exact Nat.le_refl _)
 have es2 : lspl (r.drop f ++ Z.drop (r.length - f)) (toN (ofN (r.length - f))) (r.take f) = r.drop f ++ r.take f ++ Z.drop r.length := by
  show (r.drop f ++ Z.drop (r.length - f)).take (r.length - f) ++ r.take f ++ (r.drop f ++ Z.drop (r.length - f)).drop (r.length - f + (r.take f).length) = _
  rw [List.take_left' hla, hlb]
  congr 1
  rw [List.drop_append, List.drop_of_length_le (by omega), List.nil_append, List.drop_drop, hla]
  congr 1
  omega
 refine ⟨Z.drop r.length, ?_, by simp only [List.length_drop]; omega⟩
 unfold F_fifo_Queue_grow
 rw [hm, e0, ea, em1, el1, es1, eb, hl1, em2, el2, es2]
 rw [if_pos (by omega), if_pos (by simp only [ofN, xlen]; omega), if_pos (by simp only [ofN]; omega), if_pos (by simp only [ofN, xlen]; omega)]
theorem getD_append_l {l m : List D} {i : Nat} (h : i < l.length) : (l ++ m).getD i (.i 0) = l.getD i (.i 0) := by
 rw [List.getD_eq_getElem?_getD, List.getD_eq_getElem?_getD, List.getElem?_append_left h]
theorem rot_at {r : List D} {f i : Nat} {z : List D} (hf : f < r.length) (hi : i < r.length) : (r.drop f ++ r.take f ++ z).getD i (.i 0) = r.getD ((f + i) % r.length) (.i 0) := by
 have hl : (r.drop f ++ r.take f).length = r.length := by simp; omega
 rw [getD_append_l (by omega)]
 by_cases h : f + i < r.length
 ·rw [Nat.mod_eq_of_lt h, getD_append_l (by simp; omega)]
  simp [List.getD_eq_getElem?_getD, List.getElem?_drop]
 ·have e : (f + i) % r.length = f + i - r.length := by rw [Nat.mod_eq_sub_mod (by omega), Nat.mod_eq_of_lt (by omega)]
  rw [e, List.getD_eq_getElem?_getD, List.getElem?_append_right (by simp; omega), List.getD_eq_getElem?_getD]
  simp only [List.length_drop]
  rw [List.getElem?_take_of_lt (by omega)]
  congr 2
  omega
theorem getD_set_ne {r : List D} {i j : Nat} {d : D} (h : i ≠ j) : (r.set i d).getD j (.i 0) = r.getD j (.i 0) := by
 rw [List.getD_eq_getElem?_getD, List.getD_eq_getElem?_getD, List.getElem?_set_ne h]
theorem getD_set_eq {r : List D} {i : Nat} {d : D} (h : i < r.length) : (r.set i d).getD i (.i 0) = d := by
 rw [List.getD_eq_getElem?_getD, List.getElem?_set_self h]
 rfl
theorem mod_ne {L f n i : Nat} (hn : n < L) (hi : i < n) : (f + n) % L ≠ (f + i) % L := by
 intro e
 have h1 : (f + n) % L = (f + i + (n - i)) % L := by congr 1; omega
 rw [h1] at e
 have h2 : (f + i + (n - i)) % L = ((f + i) % L + (n - i)) % L := by rw [Nat.mod_add_mod]
 rw [h2] at e
 have hL : (f + i) % L < L := Nat.mod_lt _ (by omega)
 by_cases h : (f + i) % L + (n - i) < L
 ·rw [Nat.mod_eq_of_lt h] at e; omega
 ·rw [Nat.mod_eq_sub_mod (by omega), Nat.mod_eq_of_lt (by omega)] at e; omega
theorem QR.put {f n : Nat} {r : List D} {l : List Pk} (h : QR f n r l) (hn : n < r.length) (d : D) : QR f (n + 1) (r.set ((f + n) % r.length) d) (l ++ [pk d]) := by
 have hf : f < r.length := by rcases h.hf with hf | ⟨rfl, _⟩; exact hf; simp at hn
 have hL : (f + n) % r.length < r.length := Nat.mod_lt _ (by omega)
 refine ⟨by simp [h.hn], by simp; omega, .inl (by simpa using hf), by simpa using h.big, fun i hi => ?_⟩
 simp only [List.length_set]
 have hl := h.hn
 by_cases hin : i < l.length
 ·rw [getD_set_ne (mod_ne hn (by omega)), h.at_ i hin, List.getElem_append_left hin]
 ·have : i = n := by simp at hi; omega
  subst this
  rw [getD_set_eq hL]
  simp [h.hn]
theorem p_put2 {a b c x : Int} {f n : Nat} {r : List D} {l : List Pk} (h : QR f n r l) (hn : n ≤ 400000) :
  ∃ (f' : Nat) (r' : List D), F_fifo_Queue_put a b c x (f : Int) (n : Int) r = some ((f' : Int), ((n + 1 : Nat) : Int), r') ∧ QR f' (n + 1) r' (l ++ [(a, b, c)]) := by
 have hle := h.le
 have hbig := h.big
 have hfl : f ≤ r.length := by rcases h.hf with hf | ⟨rfl, rfl⟩ <;> omega
 unfold F_fifo_Queue_put
 by_cases c1 : n = r.length
 ·rw [if_pos (by rw [pieq]; simp only [ofN, xlen]; omega)]
  obtain ⟨z, hz, hzl⟩ := p_grow2 (x := x) (f := f) (y := (n : Int)) (r := r) hfl (by omega)
  rw [hz]
  dsimp only [bindO]
  generalize hq : r.drop f ++ r.take f ++ z = q
  have hql : q.length = max 4 (2 * r.length) := by rw [← hq]; simp only [List.length_append, List.length_drop, List.length_take]; omega
  have hQ : QR 0 n q l := by
   refine ⟨h.hn, by omega, .inl (by omega), by omega, fun i hi => ?_⟩
   have hi' : i < r.length := by have := h.hn; omega
   have hf : f < r.length := by rcases h.hf with hf | ⟨rfl, _⟩; exact hf; simp at hi'
   rw [Nat.zero_add, Nat.mod_eq_of_lt (by omega), ← hq, rot_at hf hi']
   exact h.at_ i hi
  have ha := p_at (i := n) (f := 0) (x := x) (y := (n : Int)) (r := q) (by omega) (by omega) (by omega)
  rw [show ((0 : Nat) : Int) = 0 from rfl] at ha
  rw [ha]
  dsimp only [bindO]
  have hlt : (0 + n) % q.length < q.length := Nat.mod_lt _ (by omega)
  rw [if_pos (by simp only [ofN, xlen]; omega), pnext (by omega)]
  exact ⟨0, _, rfl, hQ.put (by omega) (D.l [D.i a, D.i b, D.i c])⟩
 ·rw [if_neg (by rw [pieq]; simp only [ofN, xlen]; omega), p_at (by omega) (by omega) (by omega)]
  dsimp only [bindO]
  have hlt : (f + n) % r.length < r.length := Nat.mod_lt _ (by omega)
  rw [if_pos (by simp only [ofN, xlen]; omega), pnext (by omega)]
  exact ⟨f, _, rfl, h.put (by omega) (D.l [D.i a, D.i b, D.i c])⟩
theorem p_push2 {a b c lim : Int} {f n : Nat} {r : List D} {l : List Pk} (h : QR f n r l) (hn : n ≤ 400000) :
  (lim ≤ (n : Int) ∧ F_fifo_Queue_Push a b c lim (f : Int) (n : Int) r = some (false, (f : Int), (n : Int), r)) ∨
  ((n : Int) < lim ∧ ∃ (f' : Nat) (r' : List D), F_fifo_Queue_Push a b c lim (f : Int) (n : Int) r = some (true, (f' : Int), ((n + 1 : Nat) : Int), r') ∧ QR f' (n + 1) r' (l ++ [(a, b, c)])) := by
 unfold F_fifo_Queue_Push
 by_cases c1 : lim ≤ (n : Int)
 ·exact .inl ⟨c1, by rw [if_pos (by rw [pile]; exact c1)]⟩
 ·refine .inr ⟨by omega, ?_⟩
  rw [if_neg (by rw [pile]; exact c1)]
  obtain ⟨f', r', h1, h2⟩ := p_put2 (a := a) (b := b) (c := c) (x := lim) h hn
  rw [h1]
  exact ⟨f', r', rfl, h2⟩
def headOf : List Pk → Int × Int × Int × Bool
 | [] => (0, 0, 0, false)
 | p :: _ => (p.1, p.2.1, p.2.2, true)
theorem p_head {lim : Int} {f n : Nat} {r : List D} {l : List Pk} (h : QR f n r l) : F_fifo_Queue_Head lim (f : Int) (n : Int) r = some (headOf l) := by
 unfold F_fifo_Queue_Head F_fifo_Queue_Len
 dsimp only [bindO]
 have hl := h.hn
 cases l with
 | nil =>
  have : n = 0 := by simpa using hl.symm
  subst this
  rw [if_pos (by rw [pieq]; rfl)]
  rfl
 | cons p l =>
  simp only [List.length_cons] at hl
  have hle := h.le
  have hf : f < r.length := by rcases h.hf with hf | ⟨rfl, _⟩; exact hf; simp at hle; omega
  rw [if_neg (by rw [pieq]; omega), if_pos (by simp only [ofN, xlen]; omega)]
  have := h.at_ 0 (by simp)
  rw [Nat.add_zero, Nat.mod_eq_of_lt hf] at this
  have e : pk (getD r (toN (f : Int))) = p := this
  rw [← e]
  rfl
theorem QR.pop {f n : Nat} {r : List D} {p : Pk} {l : List Pk} (h : QR f n r (p :: l)) : QR ((f + 1) % r.length) (n - 1) r l := by
 have hl := h.hn
 have hle := h.le
 simp only [List.length_cons] at hl
 refine ⟨by omega, by omega, .inl (Nat.mod_lt _ (by omega)), h.big, fun i hi => ?_⟩
 have := h.at_ (i + 1) (by simpa using hi)
 rw [Nat.mod_add_mod, show f + 1 + i = f + (i + 1) by omega, this]
 simp
theorem p_pop {lim : Int} {f n : Nat} {r : List D} {l : List Pk} (h : QR f n r l) (hn : n ≤ 400000) :
  (l = [] ∧ F_fifo_Queue_Pop lim (f : Int) (n : Int) r = some (0, 0, 0, false, (f : Int), (n : Int))) ∨
  ∃ p l' f', l = p :: l' ∧ F_fifo_Queue_Pop lim (f : Int) (n : Int) r = some (p.1, p.2.1, p.2.2, true, ((f' : Nat) : Int), ((n - 1 : Nat) : Int)) ∧ QR f' (n - 1) r l' := by
 unfold F_fifo_Queue_Pop
 rw [p_head h]
 cases l with
 | nil => exact .inl ⟨rfl, rfl⟩
 | cons p l =>
  refine .inr ⟨p, l, (f + 1) % r.length, rfl, ?_, h.pop⟩
  have hl := h.hn
  simp only [List.length_cons] at hl
  have hle := h.le
  have hbig := h.big
  have hf : f < r.length := by rcases h.hf with hf | ⟨rfl, _⟩; exact hf; simp at hle; omega
  dsimp only [bindO]
  have ha := p_at (i := 1) (f := f) (x := lim) (y := (n : Int)) (r := r) (by omega) (by omega) (by omega)
  rw [show ((1 : Nat) : Int) = 1 from rfl] at ha
  rw [show headOf (p :: l) = (p.1, p.2.1, p.2.2, true) from rfl]
  dsimp only [bindO]
  rw [if_pos rfl, ha]
  dsimp only [bindO]
  have : isub .i64 (n : Int) 1 = ((n - 1 : Nat) : Int) := by simp only [isub]; rw [pwi64 (by omega) (by omega)]; omega
  rw [this]
theorem p_all {lim : Int} {f n : Nat} {r : List D} {l : List Pk} (h : QR f n r l) (hn : n ≤ 400000) : ∃ q, F_fifo_Queue_All lim (f : Int) (n : Int) r = some q ∧ q.map pk = l := by
 unfold F_fifo_Queue_All F_fifo_Queue_Len
 dsimp only [bindO]
 have hle := h.le
 have hbig := h.big
 have hl := h.hn
 have key : ∀ (m i : Nat) (q : List D), i + m = n → q.map pk = l.take i → ∃ q', iter (F_fifo_Queue_All_L1 (n : Int) lim (f : Int) r) ((i : Int), q) = some q' ∧ q'.map pk = l := by
  intro m
  induction m with
  | zero =>
   intro i q hi hq
   refine ⟨q, ?_, by rw [hq, List.take_of_length_le (by omega)]⟩
   apply iter_inr
   unfold F_fifo_Queue_All_L1
   dsimp only [bindO]
   rw [if_neg (by rw [pilt]; omega)]
  | succ m ih =>
   intro i q hi hq
   have hf : f < r.length := by rcases h.hf with hf | ⟨rfl, _⟩; exact hf; simp at hle; omega
   have hql : q.length = i := by have := congrArg List.length hq; simp only [List.length_map, List.length_take] at this; omega
   have hlt : (f + i) % r.length < r.length := Nat.mod_lt _ (by omega)
   obtain ⟨q', h1, h2⟩ := ih (i + 1) (q ++ [D.l [D.i (D.toI (D.fld (getD r ((f + i) % r.length)) 0)), D.i (D.toI (D.fld (getD r ((f + i) % r.length)) 1)), D.i (D.toI (D.fld (getD r ((f + i) % r.length)) 2))]]) (by omega) (by
    rw [List.map_append, hq, List.take_succ_eq_append_getElem (by omega)]
    congr 1
    have := h.at_ i (by omega)
    rw [← this]
    rfl)
   refine ⟨q', ?_, h2⟩
   rw [← h1]
   apply iter_inl
   unfold F_fifo_Queue_All_L1
   dsimp only [bindO]
   rw [if_pos (by rw [pilt]; omega), p_at (by omega) (by omega) (by omega)]
   dsimp only [bindO]
   rw [if_pos (by simp only [ofN, xlen]; omega), if_pos (by simp only [xlen, List.length_cons, List.length_nil]; omega), pnext (by omega), ptoN]
   rfl
 exact key n 0 [] (by omega) rfl
end Go.Proofs.Ytojbpjcfdjakkaa
end
section
/-
  What the functions of package drr tell, in plain words (this began as the texts for ch24).
-/
set_option linter.unusedVariables false
set_option linter.unusedSimpArgs false
namespace Go.Proofs.Ytojbpjcfdjakkaa
def sadd (a b : Int) : Int := if a + b < 18446744073709551616 then a + b else 18446744073709551615
theorem sadd_U {a b : Int} (ha : U a) (hb : U b) : U (sadd a b) := by
 have := ha.lo; have := hb.lo
 unfold sadd U
 split <;> omega
theorem p_add {x y : Int} (hx : U x) (hy : U y) : F_sat_Add x y = some (sadd x y) := by
 have := hx.lo; have := hx.hi; have := hy.lo; have := hy.hi
 unfold F_sat_Add sadd
 simp only [pile, iadd, pwu64]
 split <;> split <;> first | rfl | (congr 1; omega) | (exfalso; omega)
def turnF (t : Int) (n : Nat) : Int := if t + 1 < (n : Int) then t + 1 else 0
structure RingOk (q : List Int) (t : Int) (d : List Int) : Prop where
 t0 : 0 ≤ t
 tn : t < (q.length : Int)
 n : q.length ≤ 1000
 l : d.length = q.length
 q : ∀ x ∈ q, U x
 d : ∀ x ∈ d, U x
theorem p_on {q : List Int} {t : Int} {d l : List Int} {ad : Bool} (h : RingOk q t d) : F_drr_Ring_on t ad q l = some (turnF t q.length) := by
 have := h.t0; have := h.tn; have := h.n
 unfold F_drr_Ring_on turnF
 rw [if_pos (by simp only [ofN, xlen]; omega)]
 congr 1
 simp only [irem, iadd, ofN, xlen]
 rw [pwi64 (by omega) (by omega), Int.tmod_eq_emod_of_nonneg (by omega)]
 split
 ·exact Int.emod_eq_of_lt (by omega) (by omega)
 ·have : t + 1 = (q.length : Int) := by omega
  rw [this, Int.emod_self]
def visL (q : List Int) (t : Int) (ad : Bool) (d : List Int) : Int := if ad = false then sadd (d.getD t.toNat 0) (q.getD t.toNat 0) else d.getD t.toNat 0
def visF (q : List Int) (t : Int) (ad : Bool) (d : List Int) (sz : Int) (may : Bool) : Bool × Int × Bool × List Int :=
 if sz = 0 ∨ may = false then (false, turnF t q.length, false, d.set t.toNat 0)
 else if visL q t ad d < sz then (false, turnF t q.length, false, d.set t.toNat (visL q t ad d)) else (true, t, true, d.set t.toNat (visL q t ad d - sz))
theorem getD_U {l : List Int} {n : Nat} (h : ∀ x ∈ l, U x) (hn : n < l.length) : U (l.getD n 0) := by
 have : l.getD n 0 = l[n] := by simp [hn]
 rw [this]
 exact h _ (List.getElem_mem hn)
theorem RingOk.on {q : List Int} {t : Int} {d : List Int} (h : RingOk q t d) {x : Int} (hx : U x) : RingOk q t (d.set t.toNat x) :=
 ⟨h.t0, h.tn, h.n, by simpa using h.l, h.q, fun y hy => by
  rcases List.mem_or_eq_of_mem_set hy with hy | rfl
  ·exact h.d _ hy
  ·exact hx⟩
theorem turnF_lt {t : Int} {n : Nat} (h0 : 0 ≤ t) (h : t < (n : Int)) : 0 ≤ turnF t n ∧ turnF t n < (n : Int) := by
 unfold turnF; split <;> omega
theorem visL_U {q : List Int} {t : Int} {d : List Int} {ad : Bool} (h : RingOk q t d) : U (visL q t ad d) := by
 have := h.t0; have := h.tn; have := h.l
 unfold visL
 split
 ·exact sadd_U (getD_U h.d (by omega)) (getD_U h.q (by omega))
 ·exact getD_U h.d (by omega)
theorem p_visit {q : List Int} {t : Int} {d : List Int} {ad may : Bool} {sz : Int} (h : RingOk q t d) (hs : U sz) : F_drr_Ring_visit sz may t ad q d = some (visF q t ad d sz may) := by
 have h0 := h.t0; have h1 := h.tn; have h2 := h.n; have h3 := h.l
 have hd : t.toNat < d.length := by omega
 have hq : t.toNat < q.length := by omega
 have hL := visL_U (ad := ad) h
 have z : U 0 := by unfold U; omega
 unfold F_drr_Ring_visit
 rw [if_pos (by simp only [ofN, xlen]; omega)]
 simp only [pieq, pilt, p_on (h.on z), p_on h]
 unfold visF
 by_cases e1 : sz = 0
 ·rw [if_pos e1, if_pos (.inl e1)]; simp [setI, toN, p_on (h.on z), bindO_some]
 ·rw [if_neg e1]
  cases may with
  | false => simp [setI, toN, p_on (h.on z), bindO_some]
  | true =>
   have e0 : ¬ (sz = 0 ∨ true = false) := by simp [e1]
   rw [if_neg e0]
   simp only [if_true]
   cases ad with
   | true =>
    have e2 : visL q t true d = getI d (toN t) := by unfold visL; rfl
    simp only [if_true]
    rw [e2]
    rw [e2] at hL
    have e5 : d.set t.toNat (getI d (toN t)) = d := by simp [getI, toN, hd]
    split
    ·rw [e5]; rfl
    ·simp only [setI, isub]
     rw [pu64 (by omega) (by have := hL.hi; have := hs.lo; omega)]
     rfl
   | false =>
    simp only [Bool.false_eq_true, if_false]
    have e2 : visL q t false d = sadd (getI d (toN t)) (getI q (toN t)) := by unfold visL; rfl
    rw [if_pos (by simp only [ofN, xlen]; omega)]
    have e6 : F_sat_Add (getI d (toN t)) (getI q (toN t)) = some (visL q t false d) := by rw [e2]; exact p_add (getD_U h.d hd) (getD_U h.q hq)
    have e3 : getI (setI d (toN t) (visL q t false d)) (toN t) = visL q t false d := by simp [getI, setI, toN, hd]
    have e4 := p_on (ad := true) (l := setI d (toN t) (visL q t false d)) (h.on hL)
    rw [e6]
    simp only [bindO_some, e3, e4]
    split
    ·rfl
    ·simp only [setI, isub]
     rw [pu64 (by omega) (by have := hL.hi; have := hs.lo; omega)]
     simp [toN]
def vSz (v : D) : Int := (v.fld 0).toI
def vMay (v : D) : Bool := (v.fld 1).toB
def nextGo (q : List Int) (L : List D) : Nat → Int → Bool → List Int → Int × Int × Bool × List Int
 | 0, t, ad, d => (-1, t, ad, d)
 | n + 1, t, ad, d => match visF q t ad d (vSz (L.getD t.toNat (.i 0))) (vMay (L.getD t.toNat (.i 0))) with
  | (true, t', ad', d') => (t', t', ad', d')
  | (false, t', ad', d') => nextGo q L n t' ad' d'
def nextF (q : List Int) (L : List D) (t : Int) (ad : Bool) (d : List Int) : Int × Int × Bool × List Int :=
 if L.length = q.length then if L.length = 0 then (-1, t, ad, d) else nextGo q L (L.length + 1) t ad d else (-1, t, ad, d)
theorem visF_ok {q : List Int} {t : Int} {d : List Int} {ad : Bool} {sz : Int} {may : Bool} (h : RingOk q t d) (hs : U sz) : RingOk q (visF q t ad d sz may).2.1 (visF q t ad d sz may).2.2.2 := by
 have hL := visL_U (ad := ad) h
 have hT := turnF_lt h.t0 h.tn
 have z : U 0 := by unfold U; omega
 have go : ∀ x, U x → RingOk q (turnF t q.length) (d.set t.toNat x) := fun x hx => ⟨hT.1, hT.2, h.n, (h.on hx).l, h.q, (h.on hx).d⟩
 unfold visF
 split
 ·exact go 0 z
 ·split
  ·exact go _ hL
  ·exact h.on (by have := hL.lo; have := hL.hi; have := hs.lo; unfold U; omega)
theorem p_next {q : List Int} {L : List D} {t : Int} {d : List Int} {ad : Bool} (h : L.length = q.length → L.length ≠ 0 → RingOk q t d) (hv : ∀ x ∈ L, U (vSz x)) : F_drr_Ring_Next L t ad q d = some (nextF q L t ad d) := by
 unfold F_drr_Ring_Next nextF
 simp only [pieq, ofN, xlen]
 by_cases e1 : L.length = q.length
 ·rw [if_pos (by omega), if_pos e1]
  by_cases e2 : L.length = 0
  ·rw [if_pos (by omega), if_pos e2]
  ·rw [if_neg (by omega), if_neg e2]
   have key : ∀ (n i : Nat) (t : Int) (ad : Bool) (d : List Int), RingOk q t d → i + n = L.length + 1 → iter (F_drr_Ring_Next_L1 L q) ((i : Int), t, ad, d) = some (nextGo q L n t ad d) := by
    intro n
    induction n with
    | zero =>
     intro i t ad d ok hi
     apply iter_inr
     unfold F_drr_Ring_Next_L1
     have := ok.n
     have e : iadd .i64 (ofN (xlen L)) 1 = ((L.length + 1 : Nat) : Int) := pnext (n := L.length) (by omega)
     dsimp only [bindO]
     rw [if_neg (by rw [pilt, e]; omega)]
     rfl
    | succ n ih =>
     intro i t ad d ok hi
     have h0 := ok.t0; have h1 := ok.tn; have h2 := ok.n
     have e : iadd .i64 (ofN (xlen L)) 1 = ((L.length + 1 : Nat) : Int) := pnext (n := L.length) (by omega)
     have hl : t.toNat < L.length := by omega
     have hU : U (vSz (L.getD t.toNat (.i 0))) := by
      have : L.getD t.toNat (.i 0) = L[t.toNat] := by simp [hl]
      rw [this]; exact hv _ (List.getElem_mem hl)
     have hB : F_drr_Ring_Next_L1 L q ((i : Int), t, ad, d) = match visF q t ad d (vSz (L.getD t.toNat (.i 0))) (vMay (L.getD t.toNat (.i 0))) with
       | (true, t', ad', d') => some (.inr (t', t', ad', d'))
       | (false, t', ad', d') => some (.inl (((i + 1 : Nat) : Int), t', ad', d')) := by
      unfold F_drr_Ring_Next_L1
      dsimp only [bindO]
      rw [if_pos (by rw [pilt, e]; omega), if_pos (by simp only [ofN, xlen]; omega)]
      have : F_drr_Ring_visit (D.toI (D.fld (getD L (toN t)) 0)) (D.toB (D.fld (getD L (toN t)) 1)) t ad q d = some (visF q t ad d (vSz (L.getD t.toNat (.i 0))) (vMay (L.getD t.toNat (.i 0)))) := p_visit ok hU
      rw [this]
      rcases visF q t ad d (vSz (L.getD t.toNat (.i 0))) (vMay (L.getD t.toNat (.i 0))) with ⟨b, t', ad', d'⟩
      cases b with
      | true => rfl
      | false => simp only [Bool.false_eq_true, if_false, pnext (show i < 9223372036854775807 by omega)]
     have hok := visF_ok (ad := ad) (may := vMay (L.getD t.toNat (.i 0))) ok hU
     unfold nextGo
     revert hB hok
     rcases visF q t ad d (vSz (L.getD t.toNat (.i 0))) (vMay (L.getD t.toNat (.i 0))) with ⟨b, t', ad', d'⟩
     cases b with
     | true => intro hB hok; exact iter_inr hB
     | false => intro hB hok; rw [iter_inl hB]; exact ih (i + 1) t' ad' d' hok (by omega)
   exact key (L.length + 1) 0 t ad d (h e1 e2) (by omega)
 ·rw [if_neg (by omega), if_neg e1]
theorem p_copied {t : Int} {ad : Bool} {l : List Int} (h : l.length ≤ 1000) : F_drr_copied t ad l = some l := by
 unfold F_drr_copied
 rw [if_pos (by simp only [ofN, xlen]; refine ⟨by omega, by omega, by simp; omega, by omega⟩)]
 congr 1
 exact pcopy l 0
theorem p_clone {l : List Int} (h : l.length ≤ 1000) : cloneU64 l = some l := by
 unfold cloneU64
 rw [if_pos (by simp only [xlen]; simp; omega)]
theorem p_new {l : List Int} (h : l.length ≤ 1000) : F_drr_New l = some (l, List.replicate l.length 0) := by
 unfold F_drr_New
 rw [p_clone h]
 dsimp only [bindO]
 rw [if_pos (by simp only [ofN, xlen]; refine ⟨by omega, by omega, by simp; omega, by omega⟩)]
 rfl
theorem p_state {t : Int} {ad : Bool} {q l : List Int} (h : l.length ≤ 1000) : F_drr_Ring_State t ad q l = some l := by
 unfold F_drr_Ring_State
 rw [p_copied h]
 rfl
end Go.Proofs.Ytojbpjcfdjakkaa
end
section
/-
  What the functions of package shaper do, in plain words: classes that run, what comes, ticks, what goes.
-/
set_option linter.unusedVariables false
set_option linter.unusedSimpArgs false
namespace Go.Proofs.Ytojbpjcfdjakkaa
def smul (a b : Int) : Int := if a * b < 18446744073709551616 then a * b else 18446744073709551615
theorem smul_U {a b : Int} (ha : U a) (hb : U b) : U (smul a b) := by
 have := Int.mul_nonneg ha.lo hb.lo
 unfold smul U
 split <;> omega
theorem p_mul {x y : Int} (hx : U x) (hy : U y) : F_sat_Mul x y = some (smul x y) := by
 have h0 := hx.lo; have h1 := hx.hi; have h2 := hy.lo; have h3 := hy.hi
 have hm := Int.mul_nonneg h0 h2
 unfold F_sat_Mul smul
 simp only [pilt, imul, pwu64]
 by_cases c : 0 < x
 ·rw [if_pos c, if_pos (by omega)]
  have e : iquo .u64 (18446744073709551615 : Int) x = 18446744073709551615 / x := by
   simp only [iquo]
   rw [Int.tdiv_eq_ediv_of_nonneg (by omega)]
   have q0 : 0 ≤ (18446744073709551615 : Int) / x := Int.ediv_nonneg (by omega) h0
   have q1 : (18446744073709551615 : Int) / x ≤ 18446744073709551615 := Int.ediv_le_self _ (by omega)
   exact pu64 q0 (by omega)
  rw [e]
  have k : (18446744073709551615 / x < y) ↔ (18446744073709551615 < y * x) := Int.ediv_lt_iff_lt_mul c
  rw [Int.mul_comm y x] at k
  by_cases d : x * y < 18446744073709551616
  ·rw [if_neg (by rw [k]; omega), if_pos d]; congr 1; omega
  ·rw [if_pos (by rw [k]; omega), if_neg d]
 ·have : x = 0 := by omega
  subst this
  rw [if_neg c, Int.zero_mul, if_pos (by omega)]; rfl
def fillA (x by_ n most : Int) : Int := max x (min most (sadd x (smul by_ n)))
theorem p_fill {x y n m : Int} (hx : U x) (hy : U y) (hn : U n) : F_sat_Fill x y n m = some (fillA x y n m) := by
 unfold F_sat_Fill
 rw [p_mul hy hn, bindO_some]
 dsimp only
 rw [p_add hx (smul_U hy hn), bindO_some]
 rw [pimax, pimin]
 rfl
theorem fillA_U {x y n m : Int} (hx : U x) (hy : U y) (hn : U n) (hm : U m) : U (fillA x y n m) := by
 have h := sadd_U hx (smul_U hy hn)
 have := hx.lo; have := hx.hi; have := hm.lo; have := hm.hi; have := h.lo; have := h.hi
 unfold fillA U
 omega
structure A where
 key : List UInt8
 q : Int
 r : Int
 b : Int
 lim : Int
 sh : Bool
 br : Int
 bb : Int
 bt : Int
 ql : Int
 l : List Pk
deriving Inhabited
def encA (a : A) (ring : List D) (f : Nat) : D :=
 .l [.l [.s a.key, .i a.q, .i a.r, .i a.b, .i a.lim, .b a.sh], .l [.i a.br, .i a.bb, .i a.bt], .l [.i a.ql, .l ring, .i (f : Int), .i (a.l.length : Int)]]
def RC (d : D) (a : A) : Prop := ∃ ring f, d = encA a ring f ∧ QR f a.l.length ring a.l
structure AOk (a : A) : Prop where
 q : U a.q
 br : U a.br
 bb : U a.bb
 bt : U a.bt
 n : a.l.length ≤ 100000
 sz : ∀ p ∈ a.l, 1 ≤ p.2.2 ∧ p.2.2 ≤ 1500
structure Rep (r : List D) (n : Nat) (g : Nat → A) : Prop where
 len : r.length = n
 at_ : ∀ i, i < n → RC (r.getD i (.i 0)) (g i)
theorem setD_same {r : List D} {i : Nat} {d : D} (h : getD r i = d) : setD r i d = r := by
 subst h
 unfold setD getD
 apply List.ext_getElem (by simp)
 intro j h1 h2
 rw [List.getElem_set]
 split
 ·rename_i e; subst e; simp [List.getD_eq_getElem?_getD, h2]
 ·rfl
theorem Rep.set {r : List D} {n : Nat} {g g' : Nat → A} {i : Nat} {d : D} (h : Rep r n g) (hi : i < n) (hd : RC d (g' i)) (ho : ∀ j, j < n → j ≠ i → g' j = g j) : Rep (setD r i d) n g' := by
 refine ⟨by simp [setD, h.len], fun j hj => ?_⟩
 by_cases e : j = i
 ·subst e
  unfold setD
  rw [getD_set_eq (by rw [h.len]; exact hj)]
  exact hd
 ·unfold setD
  rw [getD_set_ne (Ne.symm e), ho j hj e]
  exact h.at_ j hj
theorem Rep.congr {r : List D} {n : Nat} {g g' : Nat → A} (h : Rep r n g) (ho : ∀ j, j < n → g' j = g j) : Rep r n g' :=
 ⟨h.len, fun j hj => by rw [ho j hj]; exact h.at_ j hj⟩
def clsIn (d : D) (x : Int) : Bool := decide ((d.fld 0).toI ≤ x) && decide (x ≤ (d.fld 1).toI)
def clsA (rules : List D) (df x : Int) : Int := match rules.find? fun d => clsIn d x with
 | some d => (d.fld 2).toI
 | none => df
theorem p_clsIn {a b c x : Int} : F_flow_ClassIn a b c x = some (decide (a ≤ x) && decide (x ≤ b)) := by
 unfold F_flow_ClassIn
 simp only [pile]
 by_cases h : a ≤ x
 ·rw [if_pos h]; simp [h, ile]
 ·rw [if_neg h]; simp [h]
theorem p_index {r : List D} {x : Int} (hr : r.length ≤ 1000000) : F_slices_IndexFuncR r x = some (match r.findIdx? fun d => clsIn d x with | some i => (i : Int) | none => -1) := by
 unfold F_slices_IndexFuncR
 have key : ∀ (m i : Nat), i + m = r.length → (∀ j, j < i → (h : j < r.length) → clsIn r[j] x = false) → iter (F_slices_IndexFuncR_L1 r x) (i : Int) = some (match r.findIdx? fun d => clsIn d x with | some i => (i : Int) | none => -1) := by
  intro m
  induction m with
  | zero =>
   intro i hi hp
   apply iter_inr
   unfold F_slices_IndexFuncR_L1
   dsimp only
   rw [if_neg (by rw [pilt]; simp only [ofN, xlen]; omega)]
   have : r.findIdx? (fun d => clsIn d x) = none := by
    rw [List.findIdx?_eq_none_iff]
    intro d hd
    obtain ⟨j, hj, rfl⟩ := List.getElem_of_mem hd
    exact hp j (by omega) hj
   rw [this]
  | succ m ih =>
   intro i hi hp
   have hl : i < r.length := by omega
   by_cases c : clsIn r[i] x = true
   ·apply iter_inr
    unfold F_slices_IndexFuncR_L1
    dsimp only
    rw [if_pos (by rw [pilt]; simp only [ofN, xlen]; omega), if_pos (by simp only [ofN, xlen]; omega), p_clsIn, bindO_some, ptoN, pgetD hl]
    have c' : (decide ((r[i].fld 0).toI ≤ x) && decide (x ≤ (r[i].fld 1).toI)) = true := c
    rw [if_pos c']
    have : r.findIdx? (fun d => clsIn d x) = some i := by
     rw [List.findIdx?_eq_some_iff_getElem]
     exact ⟨hl, c, fun j hj => by rw [hp j hj (by omega)]; simp⟩
    rw [this]
   ·rw [iter_inl (y := ((i + 1 : Nat) : Int))]
    ·exact ih (i + 1) (by omega) fun j hj h => by
      by_cases e : j = i
      ·subst e; simpa using c
      ·exact hp j (by omega) h
    ·unfold F_slices_IndexFuncR_L1
     dsimp only
     rw [if_pos (by rw [pilt]; simp only [ofN, xlen]; omega), if_pos (by simp only [ofN, xlen]; omega), p_clsIn, bindO_some, ptoN, pgetD hl]
     have c' : ¬ (decide ((r[i].fld 0).toI ≤ x) && decide (x ≤ (r[i].fld 1).toI)) = true := c
     rw [if_neg c', pnext (by omega)]
 exact key r.length 0 (by omega) fun j hj => by omega
theorem p_cls {r : List D} {df x : Int} (hr : r.length ≤ 1000000) : F_flow_Table_Class df x r = some (clsA r df x) := by
 unfold F_flow_Table_Class
 rw [p_index hr, bindO_some]
 unfold clsA
 cases h : r.findIdx? (fun d => clsIn d x) with
 | none =>
  have : r.find? (fun d => clsIn d x) = none := by
   rw [List.findIdx?_eq_none_iff] at h
   rw [List.find?_eq_none]
   intro d hd; rw [h d hd]; simp
  rw [this]
  dsimp only
  rw [if_pos (by rw [pilt]; omega)]
 | some i =>
  obtain ⟨hi, h1, h2⟩ := List.findIdx?_eq_some_iff_getElem.1 h
  have : r.find? (fun d => clsIn d x) = some r[i] := by
   rw [List.find?_eq_some_iff_getElem]
   exact ⟨h1, i, hi, rfl, fun j hj => by have := h2 j hj; simpa using this⟩
  rw [this]
  dsimp only
  rw [if_neg (by rw [pilt]; omega), if_pos (by simp only [ofN, xlen]; omega), ptoN, pgetD hi]
theorem clsA_ok {r : List D} {df x n : Int} (h0 : 0 ≤ df ∧ df < n) (hr : ∀ d ∈ r, 0 ≤ (d.fld 2).toI ∧ (d.fld 2).toI < n) : 0 ≤ clsA r df x ∧ clsA r df x < n := by
 unfold clsA
 cases h : r.find? (fun d => clsIn d x) with
 | none => exact h0
 | some d => exact hr d (List.mem_of_find?_eq_some h)
def badP (flow size : Int) : Bool := decide (flow < 0) || decide (65535 < flow) || decide (size < 1) || decide (1500 < size)
def putA (a : A) (p : Pk) : A := { a with l := a.l ++ [p] }
def updA (g : Nat → A) (i : Nat) (a : A) : Nat → A := fun j => if j = i then a else g j
def arrS (g : Nat → A) (seq : Int) (c : Nat) (flow size : Int) : Pk × Int × Int × (Nat → A) :=
 if badP flow size = true then ((0, 0, 0), 1, seq, g)
 else if (g c).ql ≤ ((g c).l.length : Int) then ((0, 0, 0), 35, seq, g)
 else ((seq + 1, flow, size), 0, seq + 1, updA g c (putA (g c) (seq + 1, flow, size)))
theorem p_arrive {flow size df seq x5 : Int} {s : List UInt8} {b1 b2 : Bool} {r1 r2 r : List D} {n : Nat} {l1 l2 : List Int} {g : Nat → A}
  (hR : Rep r n g) (hr : r2.length ≤ 1000000) (hc : 0 ≤ clsA r2 df flow ∧ clsA r2 df flow < (n : Int)) (hg : ∀ i, i < n → AOk (g i)) (hs : 0 ≤ seq ∧ seq ≤ 1000000) :
  ∃ r', F_shaper_Shaper_Arrive flow size s b1 df seq r1 r2 n x5 b2 r l1 l2 = some ((arrS g seq (clsA r2 df flow).toNat flow size).1.1, (arrS g seq (clsA r2 df flow).toNat flow size).1.2.1, (arrS g seq (clsA r2 df flow).toNat flow size).1.2.2,
   (arrS g seq (clsA r2 df flow).toNat flow size).2.1, (arrS g seq (clsA r2 df flow).toNat flow size).2.2.1, r') ∧ Rep r' n (arrS g seq (clsA r2 df flow).toNat flow size).2.2.2 := by
 unfold F_shaper_Shaper_Arrive arrS badP
 simp only [pilt]
 by_cases c1 : flow < 0
 ·rw [if_pos c1]; simp only [c1, decide_true, Bool.true_or, if_true]; exact ⟨r, rfl, hR⟩
 rw [if_neg c1]
 by_cases c2 : 65535 < flow
 ·rw [if_pos c2]; simp only [c2, decide_true, Bool.or_true, Bool.true_or, if_true]; exact ⟨r, rfl, hR⟩
 rw [if_neg c2]
 by_cases c3 : size < 1
 ·rw [if_pos c3]; simp only [c3, decide_true, Bool.or_true, Bool.true_or, if_true]; exact ⟨r, rfl, hR⟩
 rw [if_neg c3]
 by_cases c4 : 1500 < size
 ·rw [if_pos c4]; simp only [c4, decide_true, Bool.or_true, Bool.true_or, if_true]; exact ⟨r, rfl, hR⟩
 rw [if_neg c4]
 simp only [c1, c2, c3, c4, decide_false, Bool.or_false, Bool.false_eq_true, if_false]
 rw [p_cls hr, bindO_some]
 obtain ⟨k, hk⟩ : ∃ k : Nat, clsA r2 df flow = (k : Int) := ⟨(clsA r2 df flow).toNat, by omega⟩
 rw [hk] at hc ⊢
 have hkn : k < n := by omega
 rw [if_pos (by simp only [ofN]; omega), ptoN]
 simp only [Int.toNat_natCast]
 obtain ⟨ring, f, he, hq⟩ := hR.at_ k hkn
 have he' : getD r k = encA (g k) ring f := he
 rw [he']
 have e1 : iadd .u64 seq 1 = seq + 1 := by simp only [iadd]; exact pu64 (by omega) (by omega)
 rw [e1]
 have hn := (hg k hkn).n
 rcases p_push2 (a := seq + 1) (b := flow) (c := size) (lim := (g k).ql) hq (by omega) with ⟨h1, h2⟩ | ⟨h1, f', r', h2, h3⟩
 ·rw [if_pos h1]
  show ∃ r', bindO (F_fifo_Queue_Push (seq + 1) flow size (g k).ql (f : Int) ((g k).l.length : Int) ring) _ = _ ∧ _
  rw [h2, bindO_some]
  dsimp only
  rw [if_neg (by simp)]
  refine ⟨_, rfl, ?_⟩
  exact hR.set hkn ⟨ring, f, rfl, hq⟩ fun j _ _ => rfl
 ·rw [if_neg (by omega)]
  show ∃ r', bindO (F_fifo_Queue_Push (seq + 1) flow size (g k).ql (f : Int) ((g k).l.length : Int) ring) _ = _ ∧ _
  rw [h2, bindO_some]
  dsimp only
  rw [if_pos rfl]
  refine ⟨_, rfl, ?_⟩
  refine hR.set hkn (d := D.l [_, _, _]) ⟨r', f', ?_, ?_⟩ fun j _ hj => by simp [updA, hj]
  ·simp only [updA, if_true, encA, putA, List.length_append, List.length_cons, List.length_nil]
   rfl
  ·simpa [updA, putA] using h3
def tickA (x : Int) (a : A) : A := { a with bt := fillA a.bt a.br x a.bb }
theorem tickA_ok {x : Int} {a : A} (hx : U x) (h : AOk a) : AOk (tickA x a) := ⟨h.q, h.br, h.bb, fillA_U h.bt h.br hx h.bb, h.n, h.sz⟩
theorem p_tick {x df seq x5 : Int} {s : List UInt8} {b1 b2 : Bool} {r1 r2 r : List D} {n : Nat} {l1 l2 : List Int} {g : Nat → A} (hR : Rep r n g) (hx : U x) (hn : n ≤ 1000000) (hg : ∀ i, i < n → AOk (g i)) :
  ∃ r', F_shaper_Shaper_Tick x s b1 df seq r1 r2 n x5 b2 r l1 l2 = some r' ∧ Rep r' n fun i => tickA x (g i) := by
 unfold F_shaper_Shaper_Tick
 have key : ∀ (m i : Nat) (r4 : List D), i + m = n → Rep r4 n (fun j => if j < i then tickA x (g j) else g j) → ∃ r', iter (F_shaper_Shaper_Tick_L1 n x) ((i : Int), r4) = some r' ∧ Rep r' n fun i => tickA x (g i) := by
  intro m
  induction m with
  | zero =>
   intro i r4 hi h4
   refine ⟨r4, ?_, h4.congr fun j hj => by simp [show j < i by omega]⟩
   apply iter_inr
   unfold F_shaper_Shaper_Tick_L1
   dsimp only
   rw [if_neg (by rw [pilt]; simp only [ofN]; omega)]
  | succ m ih =>
   intro i r4 hi h4
   have hin : i < n := by omega
   obtain ⟨ring, f, he, hq⟩ := h4.at_ i hin
   simp only [Nat.lt_irrefl, if_false] at he hq
   have he' : getD r4 i = encA (g i) ring f := he
   have hA := hg i hin
   have ht : F_bucket_Bucket_Tick (g i).br (g i).bb (g i).bt x = some (fillA (g i).bt (g i).br x (g i).bb) := by
    unfold F_bucket_Bucket_Tick
    rw [p_fill hA.bt hA.br hx, bindO_some]
   obtain ⟨r', h1, h2⟩ := ih (i + 1) (setD r4 i (encA (tickA x (g i)) ring f)) (by omega) (h4.set hin ⟨ring, f, by simp, by simpa [tickA] using hq⟩ fun j _ hj => by
    by_cases c : j < i
    ·simp [c, show j < i + 1 by omega]
    ·simp [c, show ¬ j < i + 1 by omega])
   refine ⟨r', ?_, h2⟩
   rw [← h1]
   apply iter_inl
   unfold F_shaper_Shaper_Tick_L1
   dsimp only
   rw [if_pos (by rw [pilt]; simp only [ofN]; omega), if_pos (by simp only [ofN]; omega), ptoN, he']
   show bindO (F_bucket_Bucket_Tick (g i).br (g i).bb (g i).bt x) _ = _
   rw [ht, bindO_some, pnext (by omega)]
   rfl
 exact key n 0 r (by omega) (hR.congr fun j _ => by simp)
def viewA (up : Bool) (a : A) : Int × Bool := match a.l with
 | [] => (0, false)
 | p :: _ => (p.2.2, up && (!a.sh || decide (p.2.2 ≤ a.bt)))
def vD (v : Int × Bool) : D := .l [.i v.1, .b v.2]
theorem viewA_U {up : Bool} {a : A} (h : AOk a) : U (viewA up a).1 := by
 unfold viewA U
 cases hl : a.l with
 | nil => simp
 | cons p l => have := h.sz p (by rw [hl]; simp); simp; omega
theorem p_view {s s2 : List UInt8} {up b3 : Bool} {df seq x3 x4 x5 x6 x7 x8 x10 : Int} {r1 r2 r3 ring : List D} {n n2 f : Nat} {l1 l2 : List Int} {a : A} (hA : AOk a) (hq : QR f a.l.length ring a.l) :
  F_shaper_Shaper_view s up df seq s2 x3 x4 x5 x6 a.sh x7 x8 a.bt r1 r2 n x10 b3 a.ql (f : Int) (a.l.length : Int) r3 n2 l1 l2 ring = some (viewA up a) := by
 unfold F_shaper_Shaper_view viewA
 rw [p_head hq, bindO_some]
 cases hl : a.l with
 | nil => rfl
 | cons p l =>
  have hp := hA.sz p (by rw [hl]; simp)
  simp only [headOf, if_true]
  have e : iconv .u64 p.2.2 = p.2.2 := by simp only [iconv]; exact pu64 (by omega) (by omega)
  rw [e]
  cases up <;> cases a.sh <;> simp [ile]
def viewsS (up : Bool) (n : Nat) (g : Nat → A) : List D := (List.range n).map fun i => vD (viewA up (g i))
def popA (a : A) (p : Pk) (l : List Pk) : A := { a with l := l, bt := if a.sh = true then (if a.bt < p.2.2 then a.bt else a.bt - p.2.2) else a.bt }
def goS (g : Nat → A) (i : Nat) : Pk × (Nat → A) := match (g i).l with
 | [] => ((0, 0, 0), g)
 | p :: l => (p, updA g i (popA (g i) p l))
def nextS (up : Bool) (n : Nat) (g : Nat → A) (q : List Int) (t : Int) (ad : Bool) (d : List Int) : (Pk × List UInt8 × Bool) × (Int × Bool × List Int) × (Nat → A) :=
 let v := nextF q (viewsS up n g) t ad d
 if v.1 < 0 then (((0, 0, 0), [], false), v.2, g)
 else (((goS g v.1.toNat).1, (g v.1.toNat).key, true), v.2, (goS g v.1.toNat).2)
theorem visF_go {q : List Int} {t : Int} {d : List Int} {ad : Bool} {sz : Int} {may : Bool} (h : (visF q t ad d sz may).1 = true) : sz ≠ 0 ∧ may = true ∧ (visF q t ad d sz may).2.1 = t := by
 unfold visF at h ⊢
 by_cases c : sz = 0 ∨ may = false
 ·rw [if_pos c] at h; cases h
 ·rw [if_neg c] at h ⊢
  by_cases c2 : visL q t ad d < sz
  ·rw [if_pos c2] at h; cases h
  ·rw [if_neg c2]
   refine ⟨fun e => c (.inl e), ?_, rfl⟩
   cases may with
   | true => rfl
   | false => exact absurd (.inr rfl) c
theorem nextGo_go {q : List Int} {L : List D} (hv : ∀ x ∈ L, U (vSz x)) (hL : L.length = q.length) : ∀ (n : Nat) (t : Int) (ad : Bool) (d : List Int), RingOk q t d →
  RingOk q (nextGo q L n t ad d).2.1 (nextGo q L n t ad d).2.2.2 ∧ ((nextGo q L n t ad d).1 = -1 ∨ (0 ≤ (nextGo q L n t ad d).1 ∧ (nextGo q L n t ad d).1 < q.length ∧ vSz (L.getD (nextGo q L n t ad d).1.toNat (.i 0)) ≠ 0 ∧ vMay (L.getD (nextGo q L n t ad d).1.toNat (.i 0)) = true))
 | 0, t, ad, d, h => ⟨h, .inl rfl⟩
 | n + 1, t, ad, d, h => by
  have h0 := h.t0; have h1 := h.tn
  have hl : t.toNat < L.length := by omega
  have hU : U (vSz (L.getD t.toNat (.i 0))) := by
   have : L.getD t.toNat (.i 0) = L[t.toNat] := by simp [hl]
   rw [this]; exact hv _ (List.getElem_mem hl)
  have hok := visF_ok (ad := ad) (may := vMay (L.getD t.toNat (.i 0))) h hU
  have hgo := visF_go (q := q) (t := t) (ad := ad) (d := d) (sz := vSz (L.getD t.toNat (.i 0))) (may := vMay (L.getD t.toNat (.i 0)))
  unfold nextGo
  revert hok hgo
  rcases visF q t ad d (vSz (L.getD t.toNat (.i 0))) (vMay (L.getD t.toNat (.i 0))) with ⟨b, t', ad', d'⟩
  cases b with
  | true =>
   intro hok hgo
   obtain ⟨g1, g2, g3⟩ := hgo rfl
   dsimp only at g3 ⊢
   subst g3
   exact ⟨hok, .inr ⟨h0, h1, g1, g2⟩⟩
  | false =>
   intro hok _
   exact nextGo_go hv hL n t' ad' d' hok
theorem viewsS_len {up : Bool} {n : Nat} {g : Nat → A} : (viewsS up n g).length = n := by simp [viewsS]
theorem viewsS_at {up : Bool} {n i : Nat} {g : Nat → A} (h : i < n) : (viewsS up n g).getD i (.i 0) = vD (viewA up (g i)) := by simp [viewsS, h]
theorem viewsS_U {up : Bool} {n : Nat} {g : Nat → A} (hg : ∀ i, i < n → AOk (g i)) : ∀ x ∈ viewsS up n g, U (vSz x) := by
 intro x hx
 obtain ⟨i, hi, rfl⟩ := List.mem_map.1 hx
 exact viewA_U (hg i (by simpa using hi))
theorem next_go {up : Bool} {n : Nat} {g : Nat → A} {q : List Int} {t : Int} {ad : Bool} {d : List Int} (hg : ∀ i, i < n → AOk (g i)) (hq : q.length = n) (h : RingOk q t d) :
  RingOk q (nextF q (viewsS up n g) t ad d).2.1 (nextF q (viewsS up n g) t ad d).2.2.2 ∧ ((nextF q (viewsS up n g) t ad d).1 = -1 ∨ ∃ (i : Nat) (p : Pk) (l : List Pk), (nextF q (viewsS up n g) t ad d).1 = (i : Int) ∧ i < n ∧ (g i).l = p :: l ∧ up = true ∧ ((g i).sh = true → p.2.2 ≤ (g i).bt)) := by
 have hv := viewsS_U (up := up) hg
 unfold nextF
 rw [if_pos (by rw [viewsS_len, hq])]
 have h0 := h.t0; have h1 := h.tn
 rw [if_neg (by rw [viewsS_len]; omega)]
 obtain ⟨h2, h3⟩ := nextGo_go hv (by rw [viewsS_len, hq]) ((viewsS up n g).length + 1) t ad d h
 refine ⟨h2, h3.imp id ?_⟩
 rintro ⟨h4, h5, h6, h7⟩
 generalize (nextGo q (viewsS up n g) ((viewsS up n g).length + 1) t ad d).1 = y at *
 obtain ⟨i, rfl⟩ := Int.eq_ofNat_of_zero_le h4
 have hin : i < n := by omega
 rw [Int.toNat_natCast, viewsS_at hin] at h6 h7
 cases hl : (g i).l with
 | nil => exact absurd (by simp [viewA, hl, vD, vSz, D.fld, D.toL, D.toI]) h6
 | cons p l =>
  have h8 : (up && (!(g i).sh || decide (p.2.2 ≤ (g i).bt))) = true := by
   have : vMay (vD (viewA up (g i))) = (viewA up (g i)).2 := rfl
   rw [this] at h7
   simpa [viewA, hl] using h7
  simp only [Bool.and_eq_true, Bool.or_eq_true, Bool.not_eq_true', decide_eq_true_eq] at h8
  refine ⟨i, p, l, rfl, hin, hl, h8.1, fun hs => ?_⟩
  rcases h8.2 with h9 | h9
  ·rw [hs] at h9; cases h9
  ·exact h9
theorem p_nextS {s : List UInt8} {up ad : Bool} {df seq t : Int} {r1 r2 r : List D} {n : Nat} {q d : List Int} {g : Nat → A} (hR : Rep r n g) (hn : n ≤ 1000) (hg : ∀ i, i < n → AOk (g i)) (hq : q.length = n) (h : RingOk q t d) :
  ∃ r', F_shaper_Shaper_Next s up df seq r1 r2 n t ad r q d = some ((nextS up n g q t ad d).1.1.1, (nextS up n g q t ad d).1.1.2.1, (nextS up n g q t ad d).1.1.2.2, (nextS up n g q t ad d).1.2.1, (nextS up n g q t ad d).1.2.2,
   (nextS up n g q t ad d).2.1.1, (nextS up n g q t ad d).2.1.2.1, (nextS up n g q t ad d).2.1.2.2, r') ∧ Rep r' n (nextS up n g q t ad d).2.2 := by
 unfold F_shaper_Shaper_Next
 have key : ∀ (m i : Nat), i + m = n → iter (F_shaper_Shaper_Next_L1 n s up df seq r1 r2 t ad q d) ((i : Int), viewsS up i g, r) = iter (F_shaper_Shaper_Next_L1 n s up df seq r1 r2 t ad q d) ((n : Int), viewsS up n g, r) := by
  intro m
  induction m with
  | zero =>
   intro i hi
   have : i = n := by omega
   subst this
   rfl
  | succ m ih =>
   intro i hi
   have hin : i < n := by omega
   rw [← ih (i + 1) (by omega)]
   apply iter_inl
   obtain ⟨ring, f, he, hqr⟩ := hR.at_ i hin
   have he' : getD r i = encA (g i) ring f := he
   unfold F_shaper_Shaper_Next_L1
   dsimp only
   rw [if_pos (by rw [pilt]; simp only [ofN]; omega), if_pos (by simp only [ofN]; omega), ptoN, he']
   have hv := p_view (s := s) (s2 := (g i).key) (up := up) (b3 := ad) (df := df) (seq := seq) (x3 := (g i).q) (x4 := (g i).r) (x5 := (g i).b) (x6 := (g i).lim) (x7 := (g i).br) (x8 := (g i).bb) (x10 := t) (r1 := r1) (r2 := r2) (r3 := r) (n := n) (n2 := i) (l1 := q) (l2 := d) (hg i hin) hqr
   refine (congrArg (fun o => bindO o _) hv).trans ?_
   rw [bindO_some]
   have hb : viewsS up (i + 1) g = viewsS up i g ++ [vD (viewA up (g i))] := by simp [viewsS, List.range_succ]
   have hl : (viewsS up i g).length = i := viewsS_len
   rw [hb]
   generalize viewsS up i g = V at *
   generalize hw : viewA up (g i) = w
   obtain ⟨w1, w2⟩ := w
   dsimp only
   rw [if_pos (by simp only [xlen, List.length_cons, List.length_nil]; omega), pnext (by omega)]
   have hset : setD r i (encA (g i) ring f) = r := setD_same he'
   exact congrArg (fun z => some (Sum.inl (((i + 1 : Nat) : Int), V ++ [vD (w1, w2)], z))) hset
 have k0 := key n 0 (by omega)
 rw [show viewsS up 0 g = [] from rfl] at k0
 have k1 : iter (F_shaper_Shaper_Next_L1 n s up df seq r1 r2 t ad q d) ((0 : Int), ([] : List D), r) = iter (F_shaper_Shaper_Next_L1 n s up df seq r1 r2 t ad q d) ((n : Int), viewsS up n g, r) := k0
 rw [k1]
 obtain ⟨hok, hgo⟩ := next_go (up := up) (ad := ad) hg hq h
 have hF : F_drr_Ring_Next (viewsS up n g) t ad q d = some (nextF q (viewsS up n g) t ad d) := p_next (fun _ _ => h) (viewsS_U hg)
 unfold nextS
 generalize hNF : nextF q (viewsS up n g) t ad d = v at *
 obtain ⟨v1, v2, v3, v4⟩ := v
 dsimp only at hok hgo ⊢
 have main : ∃ r', F_shaper_Shaper_Next_L1 n s up df seq r1 r2 t ad q d ((n : Int), viewsS up n g, r) = some (.inr ((if v1 < 0 then (((0, 0, 0), [], false), (v2, v3, v4), g) else (((goS g v1.toNat).1, (g v1.toNat).key, true), (v2, v3, v4), (goS g v1.toNat).2)).1.1.1, (if v1 < 0 then ((((0, 0, 0) : Pk), ([] : List UInt8), false), (v2, v3, v4), g) else (((goS g v1.toNat).1, (g v1.toNat).key, true), (v2, v3, v4), (goS g v1.toNat).2)).1.1.2.1, (if v1 < 0 then ((((0, 0, 0) : Pk), ([] : List UInt8), false), (v2, v3, v4), g) else (((goS g v1.toNat).1, (g v1.toNat).key, true), (v2, v3, v4), (goS g v1.toNat).2)).1.1.2.2, (if v1 < 0 then ((((0, 0, 0) : Pk), ([] : List UInt8), false), (v2, v3, v4), g) else (((goS g v1.toNat).1, (g v1.toNat).key, true), (v2, v3, v4), (goS g v1.toNat).2)).1.2.1, (if v1 < 0 then ((((0, 0, 0) : Pk), ([] : List UInt8), false), (v2, v3, v4), g) else (((goS g v1.toNat).1, (g v1.toNat).key, true), (v2, v3, v4), (goS g v1.toNat).2)).1.2.2, v2, v3, v4, r')) ∧ Rep r' n (if v1 < 0 then g else (goS g v1.toNat).2) := by
  unfold F_shaper_Shaper_Next_L1
  dsimp only
  rw [if_neg (by rw [pilt]; simp only [ofN]; omega), hF, bindO_some]
  dsimp only
  rcases hgo with rfl | ⟨i, p, l, rfl, hin, hl, hup, hsh⟩
  ·exact ⟨r, by rw [if_pos (by rw [pilt]; omega)]; rfl, hR⟩
  ·have hneg : ¬ ((i : Int) < 0) := by omega
   simp only [if_neg hneg]
   rw [if_neg (by rw [pilt]; omega), if_pos (by simp only [ofN]; omega), ptoN]
   simp only [Int.toNat_natCast]
   obtain ⟨ring, f, he, hqr⟩ := hR.at_ i hin
   have he' : getD r i = encA (g i) ring f := he
   rw [he']
   have hA := hg i hin
   have hnn := hA.n
   rcases p_pop (lim := (g i).ql) hqr (by omega) with ⟨e, _⟩ | ⟨p', l', f', e, hp, hQ⟩
   ·rw [hl] at e; cases e
   ·rw [hl] at e
    obtain ⟨rfl, rfl⟩ := List.cons.inj e
    have hp2 := hA.sz p (by rw [hl]; simp)
    have ec : iconv .u64 p.2.2 = p.2.2 := by simp only [iconv]; exact pu64 (by omega) (by omega)
    have hgS : goS g i = (p, updA g i (popA (g i) p l)) := by unfold goS; rw [hl]
    rw [hgS]
    have hlen : (g i).l.length - 1 = l.length := by rw [hl]; simp
    rw [hlen] at hp hQ
    show ∃ r', bindO (F_fifo_Queue_Pop (g i).ql (f : Int) ((g i).l.length : Int) ring) _ = _ ∧ _
    rw [hp, bindO_some]
    dsimp only
    have fin : ∀ bt', bt' = (popA (g i) p l).bt → Rep (setD r i (encA { g i with bt := bt', l := l } ring f')) n (updA g i (popA (g i) p l)) := by
     rintro _ rfl
     refine hR.set hin ⟨ring, f', by simp only [updA, if_true]; rfl, by simpa [updA, popA] using hQ⟩ fun j _ hj => by simp [updA, hj]
    by_cases cs : (g i).sh = true
    ·have ht : F_bucket_Bucket_Take (g i).br (g i).bb (g i).bt p.2.2 = some ((g i).bt - p.2.2, true) := by
      have := hsh cs
      have := hA.bt.hi
      unfold F_bucket_Bucket_Take
      rw [if_neg (by rw [pilt]; omega)]
      have e5 : isub .u64 (g i).bt p.2.2 = (g i).bt - p.2.2 := by simp only [isub]; exact pu64 (by omega) (by omega)
      rw [e5]
     refine ⟨_, ?_, fin ((g i).bt - p.2.2) (by have := hsh cs; simp only [popA]; rw [if_pos cs, if_neg (by omega)])⟩
     refine (if_pos (show (g i).sh = true from cs)).trans ?_
     rw [ec]
     refine (congrArg (fun o => bindO o _) ht).trans ?_
     rfl
    ·refine ⟨_, ?_, fin (g i).bt (by simp only [popA]; rw [if_neg cs])⟩
     refine (if_neg (show ¬ (g i).sh = true from cs)).trans ?_
     rfl
 obtain ⟨r', h1, h2⟩ := main
 refine ⟨r', iter_inr ?_, ?_⟩
 ·rw [h1]
  by_cases c : v1 < 0
  ·simp only [if_pos c]
  ·simp only [if_neg c]
 ·by_cases c : v1 < 0
  ·simp only [if_pos c] at h2 ⊢; exact h2
  ·simp only [if_neg c] at h2 ⊢; exact h2
end Go.Proofs.Ytojbpjcfdjakkaa
end
