/-
  Texts that the row of this claim stands on, one behind the other.
-/
import Derived.Deep.Slices
import Derived.ChangeArms
import Derived.Test.YtojbpjcfdjakkaaKShaperDrops1
import Derived.Test.YtojbpjcfdjakkaaKShaperDrops2
import Derived.Test.YtojbpjcfdjakkaaKShaperDrops3
import Derived.Test.YtojbpjcfdjakkaaKShaperDrops4
import Derived.Test.YtojbpjcfdjakkaaKShaperDrops5
section
set_option linter.unusedVariables false
set_option linter.unusedSimpArgs false
namespace Go.Proofs.Ytojbpjcfdjakkaa
open Go.RowKit
noncomputable def Z5w : Nat → Option Con := look [(88, Z6y)]
set_option maxHeartbeats 20000000 in
set_option maxRecDepth 100000 in
theorem Zcf (P : Program) (T : Tab P Z5w) (hm : P.follows .mixedOrders = true) : FnVC P Z5w ic_87 [.t 3] 8 Z9c := by
 intro cargs ccks ce hce hob C hk
 apply Hidden.out
 replace hce : altC (Z7g cargs ccks) (Z80 cargs ccks) = some ce := hce
 replace hce := altC_inv hce
 rcases hce with hce | hce
 ·unfold Z7g at hce
  split at hce; rotate_left; cases hce
  obtain rfl := Option.some.inj hce
  rename_i r1 x1 x2 b1
  refine obh hob fun r hF => ?_
  clear hob hce
  simp only [List.length_cons, List.length_nil, Nat.zero_add, Nat.reduceAdd] at hk
  have hr : Z30 r1 x1 x2 b1 = some r := by rw [lock_eq] at hF; exact hF
  unfold Z30 at hr
  constructor
  (try cbv)
  refine cal hr (by rintro (_) _ <;> cbv) ?_
  rintro c1 hx1 hr
  (try dsimp only at hr); constructor; (try cbv)
  apply Hidden.out
  exact clacd82
 unfold Z80 at hce
 split at hce; rotate_left; cases hce
 obtain rfl := Option.some.inj hce
 rename_i r1 x1 l1 x2 b1 l2 r2
 refine obh hob fun r hF => ?_
 clear hob hce
 simp only [List.length_cons, List.length_nil, Nat.zero_add, Nat.reduceAdd] at hk
 have hr : Z1o r1 x1 l1 x2 b1 l2 r2 = some r := by rw [lock_eq] at hF; exact hF
 unfold Z1o at hr
 constructor
 (try cbv)
 refine cal hr (by rintro (_) _ <;> cbv) ?_
 rintro c1 hx1 hr
 (try dsimp only at hr); constructor; (try cbv)
 apply Hidden.out
 exact clacd82
noncomputable def Z9l : Nat → Option Con := look [(87, Z9c)]
set_option maxHeartbeats 20000000 in
set_option maxRecDepth 100000 in
theorem Zf5 (P : Program) (T : Tab P Z9l) (hm : P.follows .mixedOrders = true) : FnVC P Z9l ic_100 [.t 4] 19 Z6z := by
 intro cargs ccks ce hce hob C hk
 apply Hidden.out
 replace hce : altC (Z73 cargs ccks) (Z8b cargs ccks) = some ce := hce
 replace hce := altC_inv hce
 rcases hce with hce | hce
 ·unfold Z73 at hce
  split at hce; rotate_left; cases hce
  obtain rfl := Option.some.inj hce
  rename_i r1 x1 x2 b1
  refine obh hob fun r hF => ?_
  clear hob hce
  simp only [List.length_cons, List.length_nil, Nat.zero_add, Nat.reduceAdd] at hk
  have hr : Z1f r1 x1 x2 b1 = some r := by rw [lock_eq] at hF; exact hF
  unfold Z1f at hr
  constructor
  (try cbv)
  refine LoopOK.iter T (drawOK T hm) hr (fun | i1 => ⟨mkFr [(0, (.rsl (.row 72 (.row 75 (.st [(.int .u64), (.int .i64), (.int .i64)])) r1))), (1, (.fn 87 [(.ptr 0 0)])), (7, (.v (.int .i64 (lock ofN (lock (@xlen D) r1))))), (8, (.v (.int .i64 i1)))] 19 0, [(0, .blk 67 [(.v (.int .u64 x1)), .nsl, (.v (.int .i64 x2)), (.v (.bool b1)), .nsl, .nsl])], 1⟩) ?_ ?_
  ·exact cl2ec4c
  clear hr
  intro x bb1 hr ht1
  obtain ⟨i1, hz⟩ : ∃ z, z = x := ⟨x, rfl⟩
  subst hz
  as_aux_lemma =>
  constructor
  unfold Z6v at hr
  (try dsimp only at hr)
  (try cbv)
  refine sel_if hr ?_ ?_ <;> intro h1 hr
  ·(try cbv)
   refine guard_go hr fun hr => ?_
   refine cal hr (by rintro (_) _ <;> cbv) ?_
   rintro c3 hx3 hr
   (try dsimp only at hr); constructor; (try cbv)
   refine sel_if hr ?_ ?_ <;> intro h1 hr
   ·(try cbv)
    apply Hidden.out
    exact clb5cb2
   (try cbv)
   apply Hidden.out
   exact clba30f
  (try cbv)
  apply Hidden.out
  exact clb5cb2
 unfold Z8b at hce
 split at hce; rotate_left; cases hce
 obtain rfl := Option.some.inj hce
 rename_i r1 x1 l1 x2 b1 l2 r2
 refine obh hob fun r hF => ?_
 clear hob hce
 simp only [List.length_cons, List.length_nil, Nat.zero_add, Nat.reduceAdd] at hk
 have hr : Z2r r1 x1 l1 x2 b1 l2 r2 = some r := by rw [lock_eq] at hF; exact hF
 unfold Z2r at hr
 constructor
 (try cbv)
 refine LoopOK.iter T (drawOK T hm) hr (fun | i1 => ⟨mkFr [(0, (.rsl (.row 72 (.row 75 (.st [(.int .u64), (.int .i64), (.int .i64)])) r1))), (1, (.fn 87 [(.ptr 0 0)])), (7, (.v (.int .i64 (lock ofN (lock (@xlen D) r1))))), (8, (.v (.int .i64 i1)))] 19 0, [(0, .blk 67 [(.v (.int .u64 x1)), (.rsl (.ints 46 .u64 l1)), (.v (.int .i64 x2)), (.v (.bool b1)), (.rsl (.ints 46 .u64 l2)), (.rsl (.row 72 (.row 75 (.st [(.int .u64), (.int .i64), (.int .i64)])) r2))])], 1⟩) ?_ ?_
 ·exact cl2ec4c
 clear hr
 intro x bb1 hr ht1
 obtain ⟨i1, hz⟩ : ∃ z, z = x := ⟨x, rfl⟩
 subst hz
 as_aux_lemma =>
 constructor
 unfold Zt at hr
 (try dsimp only at hr)
 (try cbv)
 refine sel_if hr ?_ ?_ <;> intro h1 hr
 ·(try cbv)
  refine guard_go hr fun hr => ?_
  refine cal hr (by rintro (_) _ <;> cbv) ?_
  rintro c3 hx3 hr
  (try dsimp only at hr); constructor; (try cbv)
  refine sel_if hr ?_ ?_ <;> intro h1 hr
  ·(try cbv)
   apply Hidden.out
   exact clb5cb2
  (try cbv)
  apply Hidden.out
  exact clba30f
 (try cbv)
 apply Hidden.out
 exact clb5cb2
noncomputable def Z68 : Nat → Option Con := look [(100, Z6z)]
set_option maxHeartbeats 20000000 in
set_option maxRecDepth 100000 in
theorem Zgw (P : Program) (T : Tab P Z68) (hm : P.follows .mixedOrders = true) : FnVC P Z68 ic_86 [.t 4] 9 Z7n := by
 intro cargs ccks ce hce hob C hk
 apply Hidden.out
 replace hce : altC (Z63 cargs ccks) (Z4l cargs ccks) = some ce := hce
 replace hce := altC_inv hce
 rcases hce with hce | hce
 ·unfold Z63 at hce
  split at hce; rotate_left; cases hce
  obtain rfl := Option.some.inj hce
  rename_i r1 x1 x2 b1
  refine obh hob fun r hF => ?_
  clear hob hce
  simp only [List.length_cons, List.length_nil, Nat.zero_add, Nat.reduceAdd] at hk
  have hr : Z2o r1 x1 x2 b1 = some r := by rw [lock_eq] at hF; exact hF
  unfold Z2o at hr
  constructor
  (try cbv)
  refine cal hr (by rintro (_) _ <;> cbv) ?_
  rintro y1 hx1 hr
  (try dsimp only at hr); constructor; (try cbv)
  apply Hidden.out
  exact clacd82
 unfold Z4l at hce
 split at hce; rotate_left; cases hce
 obtain rfl := Option.some.inj hce
 rename_i r1 x1 l1 x2 b1 l2 r2
 refine obh hob fun r hF => ?_
 clear hob hce
 simp only [List.length_cons, List.length_nil, Nat.zero_add, Nat.reduceAdd] at hk
 have hr : Z26 r1 x1 l1 x2 b1 l2 r2 = some r := by rw [lock_eq] at hF; exact hF
 unfold Z26 at hr
 constructor
 (try cbv)
 refine cal hr (by rintro (_) _ <;> cbv) ?_
 rintro y1 hx1 hr
 (try dsimp only at hr); constructor; (try cbv)
 apply Hidden.out
 exact clacd82
noncomputable def Z9g : Nat → Option Con := look [(86, Z7n)]
set_option maxHeartbeats 20000000 in
set_option maxRecDepth 100000 in
theorem Zcv (P : Program) (T : Tab P Z9g) (hm : P.follows .mixedOrders = true) : FnVC P Z9g ic_58 [.t 2] 43 Z4o := by
 intro cargs ccks ce hce hob C hk
 apply Hidden.out
 replace hce : altC (Z66 cargs ccks) (Z87 cargs ccks) = some ce := hce
 replace hce := altC_inv hce
 rcases hce with hce | hce
 ·unfold Z66 at hce
  split at hce; rotate_left; cases hce
  obtain rfl := Option.some.inj hce
  rename_i x1 x2 b1
  refine obh hob fun r hF => ?_
  clear hob hce
  simp only [List.length_cons, List.length_nil, Nat.zero_add, Nat.reduceAdd] at hk
  have hr : Z1w x1 x2 b1 = some r := by rw [lock_eq] at hF; exact hF
  unfold Z1w at hr
  constructor
  (try cbv)
  refine sel_if hr ?_ ?_ <;> intro h1 hr
  ·(try cbv)
   apply Hidden.out
   exact clacd82
  (try cbv)
  refine sel_ifn hr ?_ ?_ <;> intro h1 hr
  ·(try cbv)
   apply Hidden.out
   exact clacd82
  (try cbv)
  refine sel_ifn hr ?_ ?_ <;> intro h1 hr
  ·(try cbv)
   cases hr
  (try cbv)
  refine sel_if hr ?_ ?_ <;> intro h1 hr
  ·(try cbv)
   apply Hidden.out
   exact clacd82
  (try cbv)
  refine sel_if hr ?_ ?_ <;> intro h1 hr
  ·(try cbv)
   apply Hidden.out
   exact clacd82
  (try cbv)
  refine cal hr (by rintro (_) _ <;> cbv) ?_
  rintro c1 hx1 hr
  (try dsimp only at hr); constructor; (try cbv)
  apply Hidden.out
  exact clacd82
 unfold Z87 at hce
 split at hce; rotate_left; cases hce
 obtain rfl := Option.some.inj hce
 rename_i x1 l1 x2 b1 l2 r1
 refine obh hob fun r hF => ?_
 clear hob hce
 simp only [List.length_cons, List.length_nil, Nat.zero_add, Nat.reduceAdd] at hk
 have hr : Z1v x1 l1 x2 b1 l2 r1 = some r := by rw [lock_eq] at hF; exact hF
 unfold Z1v at hr
 constructor
 (try cbv)
 refine sel_if hr ?_ ?_ <;> intro h1 hr
 ·(try cbv)
  apply Hidden.out
  exact clacd82
 (try cbv)
 refine sel_ifn hr ?_ ?_ <;> intro h1 hr
 ·(try cbv)
  apply Hidden.out
  exact clacd82
 (try cbv)
 refine sel_ifn hr ?_ ?_ <;> intro h1 hr
 ·(try cbv)
  apply Hidden.out
  exact clacd82
 (try cbv)
 refine sel_if hr ?_ ?_ <;> intro h1 hr
 ·(try cbv)
  apply Hidden.out
  exact clacd82
 (try cbv)
 refine sel_if hr ?_ ?_ <;> intro h1 hr
 ·(try cbv)
  apply Hidden.out
  exact clacd82
 (try cbv)
 refine cal hr (by rintro (_) _ <;> cbv) ?_
 rintro c1 hx1 hr
 (try dsimp only at hr); constructor; (try cbv)
 apply Hidden.out
 exact clacd82
noncomputable def Z86 : Nat → Option Con := look [(77, Z3o)]
set_option maxHeartbeats 20000000 in
set_option maxRecDepth 100000 in
theorem Zej (P : Program) (T : Tab P Z86) (hm : P.follows .mixedOrders = true) : FnVC P Z86 ic_59 [.t 4] 37 Z8e := by
 intro cargs ccks ce hce hob C hk
 apply Hidden.out
 replace hce : altC (Z4r cargs ccks) (Z90 cargs ccks) = some ce := hce
 replace hce := altC_inv hce
 rcases hce with hce | hce
 ·unfold Z4r at hce
  split at hce; rotate_left; cases hce
  obtain rfl := Option.some.inj hce
  rename_i x1 b1 x2 b2 l1 l2
  refine obh hob fun r hF => ?_
  clear hob hce
  simp only [List.length_cons, List.length_nil, Nat.zero_add, Nat.reduceAdd] at hk
  have hr : Z2x x1 b1 x2 b2 l1 l2 = some r := by rw [lock_eq] at hF; exact hF
  unfold Z2x at hr
  constructor
  (try cbv)
  apply Hidden.out
  rcases Bool.eq_false_or_eq_true (ieq (ofN 0) (ofN (xlen l1))) with h1 | h1
  ·constructor
   rw [if_pos h1] at hr
   have h2 : (lock ieq (lock ofN 0) (lock ofN (lock (@xlen Int) l1))) = true := by simp only [lock_eq]; exact h1
   simp only [relock, h2]
   (try cbv)
   apply Hidden.out
   rcases Bool.eq_false_or_eq_true (ilt x1 (0 : Int)) with h1 | h1
   ·constructor
    rw [if_pos h1] at hr
    have h2 : (lock ilt x1 (0 : Int)) = true := by simp only [lock_eq]; exact h1
    simp only [relock, h2]
    (try cbv)
    apply Hidden.out
    exact clbfd00
   constructor
   rw [if_neg (by rw [h1]; exact Bool.false_ne_true)] at hr
   have h2 : (lock ilt x1 (0 : Int)) = false := by simp only [lock_eq]; exact h1
   simp only [relock, h2]
   (try cbv)
   refine sel_if hr ?_ ?_ <;> intro h1 hr
   ·(try cbv)
    apply Hidden.out
    exact clbfd00
   (try cbv)
   refine cal hr (by rintro (_) _ <;> cbv) ?_
   rintro m1 hx1 hr
   (try dsimp only at hr); constructor; (try cbv)
   apply Hidden.out
   exact clbfd00
  constructor
  rw [if_neg (by rw [h1]; exact Bool.false_ne_true)] at hr
  have h2 : (lock ieq (lock ofN 0) (lock ofN (lock (@xlen Int) l1))) = false := by simp only [lock_eq]; exact h1
  simp only [relock, h2]
  (try cbv)
  apply Hidden.out
  exact clbfd00
 unfold Z90 at hce
 split at hce; rotate_left; cases hce
 obtain rfl := Option.some.inj hce
 rename_i x1 b1 l1 x2 b2 l2 l3
 refine obh hob fun r hF => ?_
 clear hob hce
 simp only [List.length_cons, List.length_nil, Nat.zero_add, Nat.reduceAdd] at hk
 have hr : Z1y x1 b1 l1 x2 b2 l2 l3 = some r := by rw [lock_eq] at hF; exact hF
 unfold Z1y at hr
 constructor
 (try cbv)
 apply Hidden.out
 rcases Bool.eq_false_or_eq_true (ieq (ofN (xlen l1)) (ofN (xlen l2))) with h1 | h1
 ·constructor
  rw [if_pos h1] at hr
  have h2 : (lock ieq (lock ofN (lock (@xlen Int) l1)) (lock ofN (lock (@xlen Int) l2))) = true := by simp only [lock_eq]; exact h1
  simp only [relock, h2]
  (try cbv)
  apply Hidden.out
  rcases Bool.eq_false_or_eq_true (ilt x1 (0 : Int)) with h1 | h1
  ·constructor
   rw [if_pos h1] at hr
   have h2 : (lock ilt x1 (0 : Int)) = true := by simp only [lock_eq]; exact h1
   simp only [relock, h2]
   (try cbv)
   apply Hidden.out
   exact clbfd00
  constructor
  rw [if_neg (by rw [h1]; exact Bool.false_ne_true)] at hr
  have h2 : (lock ilt x1 (0 : Int)) = false := by simp only [lock_eq]; exact h1
  simp only [relock, h2]
  (try cbv)
  refine sel_if hr ?_ ?_ <;> intro h1 hr
  ·(try cbv)
   apply Hidden.out
   exact clbfd00
  (try cbv)
  refine cal hr (by rintro (_) _ <;> cbv) ?_
  rintro m1 hx1 hr
  (try dsimp only at hr); constructor; (try cbv)
  apply Hidden.out
  exact clbfd00
 constructor
 rw [if_neg (by rw [h1]; exact Bool.false_ne_true)] at hr
 have h2 : (lock ieq (lock ofN (lock (@xlen Int) l1)) (lock ofN (lock (@xlen Int) l2))) = false := by simp only [lock_eq]; exact h1
 simp only [relock, h2]
 (try cbv)
 apply Hidden.out
 exact clbfd00
noncomputable def Z69 : Nat → Option Con := look [(58, Z4o), (59, Z8e), (38, Z3q)]
set_option maxHeartbeats 20000000 in
set_option maxRecDepth 100000 in
theorem Zfc (P : Program) (T : Tab P Z69) (hm : P.follows .mixedOrders = true) : FnVC P Z69 ic_30 [.t 4] 67 Z3n := by
 intro cargs ccks ce hce hob C hk
 apply Hidden.out
 replace hce : altC (Z81 cargs ccks) (Z7f cargs ccks) = some ce := hce
 replace hce := altC_inv hce
 rcases hce with hce | hce
 ·unfold Z81 at hce
  split at hce; rotate_left; cases hce; rename_i x1 x2 b1
  split at hce; rotate_left; cases hce
  split at hce; rotate_left; cases hce; rename_i s1 b2 x3 x4
  split at hce; rotate_left; cases hce; rename_i r1
  split at hce; rotate_left; cases hce; rename_i r2
  split at hce; rotate_left; cases hce; rename_i w1 n1
  split at hce; rotate_left; cases hce; rename_i x5 b3
  split at hce; rotate_left; cases hce; rename_i w2 r3
  split at hce; rotate_left; cases hce; rename_i l1
  split at hce; rotate_left; cases hce; rename_i l2
  split at hce
  ·cases hce
  obtain rfl := Option.some.inj hce
  rename_i _ htm
  simp only [Bool.and_eq_true] at htm
  obtain ⟨h1, h2⟩ := htm
  obtain rfl := eq_of_tmeq _ _ h1
  obtain rfl := eq_of_tmeq _ _ h2
  clear h1 h2
  refine obh hob fun r hF => ?_
  clear hob hce
  simp only [List.length_cons, List.length_nil, Nat.zero_add, Nat.reduceAdd] at hk
  have hr : Z2i x1 x2 b1 s1 b2 x3 x4 r1 r2 n1 x5 b3 r3 l1 l2 = some r := by rw [lock_eq] at hF; exact hF
  unfold Z2i at hr
  constructor
  (try cbv)
  refine cald hr (by rintro (_) _ <;> cbv) ?_
  rintro c1 hx1 hr
  (try dsimp only at hr); constructor; (try cbv)
  apply Hidden.out
  rcases Bool.eq_false_or_eq_true c1 with h1 | h1
  ·constructor
   rw [if_pos h1] at hr
   subst h1
   (try cbv)
   refine sel_ifn hr ?_ ?_ <;> intro h1 hr
   ·(try cbv)
    apply Hidden.out
    exact cl8eeb6
   (try cbv)
   refine cald hr (by rintro (⟨_, _, _, _⟩) _ <;> cbv) ?_
   rintro ⟨c2, y1, c3, m1⟩ hx2 hr
   (try dsimp only at hr); constructor; (try cbv)
   refine LoopOK.iter T (drawOK T hm) hr (fun | _ => ⟨mkFr [(3, (.ptr 8 0)), (40, (.wsl 3)), (41, (.v (.int .i64 (lock ofN n1)))), (42, (.v (.int .i64 (0 : Int))))] 67 0, [(0, .blk 92 [(.str s1), (.v (.bool b2)), (.wsl 1), (.wsl 2), (.v (.int .i64 x3)), (.v (.int .u64 x1)), (.wsl 3), (.ptr 4 0)]), (1, .row (.row 83 (.st [.str, (.int .u64), (.int .u64), (.int .u64), (.int .i64), .bool]) r1)), (2, .row (.row 96 (.st [(.int .i64), (.int .i64), (.int .i64)]) r2)), (3, .prow 98 tm98 n1 5), (4, .blk 169 [(.wsl 6), (.v (.int .i64 y1)), (.v (.bool c3)), (.wsl 9)]), (5, .gho tm98 r3 none), (6, .row (.ints 46 .u64 l1)), (8, .blk 67 [(.v (.int .u64 x1)), .nsl, (.v (.int .i64 x2)), (.v (.bool b1)), .nsl, .nsl]), (9, .row (.ints 46 .u64 m1))], 10⟩) ?_ ?_
   ·exact cl9bcf9
   clear hr
   intro x bb1 hr ht1
   as_aux_lemma =>
   constructor
   unfold Zb7 at hr
   (try dsimp only at hr)
   (try cbv)
   refine sel_if hr ?_ ?_ <;> intro h1 hr
   ·(try cbv)
    cases hr
   (try cbv)
   apply Hidden.out
   exact cl31adc
  constructor
  rw [if_neg (by rw [h1]; exact Bool.false_ne_true)] at hr
  subst h1
  (try cbv)
  apply Hidden.out
  exact cl8eeb6
 unfold Z7f at hce
 split at hce; rotate_left; cases hce; rename_i x1 l1 x2 b1 l2 r1
 split at hce; rotate_left; cases hce
 split at hce; rotate_left; cases hce; rename_i s1 b2 x3 x4
 split at hce; rotate_left; cases hce; rename_i r2
 split at hce; rotate_left; cases hce; rename_i r3
 split at hce; rotate_left; cases hce; rename_i w1 n1
 split at hce; rotate_left; cases hce; rename_i x5 b3
 split at hce; rotate_left; cases hce; rename_i w2 r4
 split at hce; rotate_left; cases hce; rename_i l3
 split at hce; rotate_left; cases hce; rename_i l4
 split at hce
 ·cases hce
 obtain rfl := Option.some.inj hce
 rename_i _ htm
 simp only [Bool.and_eq_true] at htm
 obtain ⟨h1, h2⟩ := htm
 obtain rfl := eq_of_tmeq _ _ h1
 obtain rfl := eq_of_tmeq _ _ h2
 clear h1 h2
 refine obh hob fun r hF => ?_
 clear hob hce
 simp only [List.length_cons, List.length_nil, Nat.zero_add, Nat.reduceAdd] at hk
 have hr : Z1k x1 l1 x2 b1 l2 r1 s1 b2 x3 x4 r2 r3 n1 x5 b3 r4 l3 l4 = some r := by rw [lock_eq] at hF; exact hF
 unfold Z1k at hr
 constructor
 (try cbv)
 refine cald hr (by rintro (_) _ <;> cbv) ?_
 rintro c1 hx1 hr
 (try dsimp only at hr); constructor; (try cbv)
 apply Hidden.out
 rcases Bool.eq_false_or_eq_true c1 with h1 | h1
 ·constructor
  rw [if_pos h1] at hr
  subst h1
  (try cbv)
  refine sel_ifn hr ?_ ?_ <;> intro h1 hr
  ·(try cbv)
   apply Hidden.out
   exact clc60e0
  (try cbv)
  refine cald hr (by rintro (⟨_, _, _, _⟩) _ <;> cbv) ?_
  rintro ⟨c2, y1, c3, m1⟩ hx2 hr
  (try dsimp only at hr); constructor; (try cbv)
  refine LoopOK.iter T (drawOK T hm) hr (fun | (i1, r5) => ⟨mkFr [(3, (.ptr 8 0)), (40, (.wsl 3)), (41, (.v (.int .i64 (lock ofN n1)))), (42, (.v (.int .i64 i1)))] 67 0, [(0, .blk 92 [(.str s1), (.v (.bool b2)), (.wsl 1), (.wsl 2), (.v (.int .i64 x3)), (.v (.int .u64 x1)), (.wsl 3), (.ptr 4 0)]), (1, .row (.row 83 (.st [.str, (.int .u64), (.int .u64), (.int .u64), (.int .i64), .bool]) r2)), (2, .row (.row 96 (.st [(.int .i64), (.int .i64), (.int .i64)]) r3)), (3, .prow 98 tm98 n1 9), (4, .blk 169 [(.wsl 6), (.v (.int .i64 y1)), (.v (.bool c3)), (.wsl 10)]), (6, .row (.ints 46 .u64 l3)), (8, .blk 67 [(.v (.int .u64 x1)), (.rsl (.ints 46 .u64 l1)), (.v (.int .i64 x2)), (.v (.bool b1)), (.rsl (.ints 46 .u64 l2)), (.rsl (.row 72 (.row 75 (.st [(.int .u64), (.int .i64), (.int .i64)])) r1))]), (9, .gho tm98 r5 none), (10, .row (.ints 46 .u64 m1))], 11⟩) ?_ ?_
  ·exact cl1df3b
  clear hr
  intro x bb1 hr ht1
  obtain ⟨i1, r5⟩ := x
  as_aux_lemma =>
  constructor
  unfold Z3a at hr
  (try dsimp only at hr)
  (try cbv)
  refine sel_if hr ?_ ?_ <;> intro h1 hr
  ·(try cbv)
   refine guard_go hr fun hr => ?_
   refine guard_go hr fun hr => ?_
   refine guard_go hr fun hr => ?_
   refine cald hr (by rintro (⟨_, _, _⟩) _ <;> cbv) ?_
   rintro ⟨y8, y9, q4⟩ hx6 hr
   (try dsimp only at hr); constructor; (try cbv)
   apply Hidden.out
   exact cl81169
  (try cbv)
  apply Hidden.out
  exact cle4224
 constructor
 rw [if_neg (by rw [h1]; exact Bool.false_ne_true)] at hr
 subst h1
 (try cbv)
 apply Hidden.out
 exact clc60e0
noncomputable def Z59 : Nat → Option Con := look [(10, Z3h), (26, Z33), (29, Z3g), (28, Z3j), (14, Z6o), (21, Z38), (15, Z3k), (24, Z3y), (13, Z2y), (30, Z3n)]
set_option maxHeartbeats 20000000 in
set_option maxRecDepth 100000 in
theorem Zcg (P : Program) (T : Tab P Z59) (hm : P.follows .mixedOrders = true) : FnVC P Z59 ic_8 [.t 0] 138 Z7j := by
 intro cargs ccks ce hce hob C hk
 apply Hidden.out
 replace hce : Z8n cargs ccks = some ce := hce
 unfold Z8n at hce
 split at hce; rotate_left; cases hce
 obtain rfl := Option.some.inj hce
 refine obh hob fun r hF => ?_
 clear hob hce
 simp only [List.length_cons, List.length_nil, Nat.zero_add, Nat.reduceAdd] at hk
 have hr : Z27 = some r := by rw [lock_eq] at hF; exact hF
 unfold Z27 at hr
 constructor
 (try cbv)
 refine cal hr (by rintro (_ | ⟨_, _, _, _, _, _⟩) _ <;> cbv) ?_
 rintro (_ | ⟨q1, q2, k1, q3, m1, m2⟩) hx1 hr
 all_goals ((try dsimp only at hr); constructor; (try cbv))
 ·apply Hidden.out
  exact clacd82
 refine cal hr (by rintro (⟨_, _, _, _, _, _⟩) _ <;> cbv) ?_
 rintro ⟨y1, y2, y3, y4, y5, q4⟩ hx2 hr
 (try dsimp only at hr); constructor; (try cbv)
 refine cal hr (by rintro (⟨_, _, _, _, _, _⟩) _ <;> cbv) ?_
 rintro ⟨y6, y7, y8, y9, y10, q5⟩ hx3 hr
 (try dsimp only at hr); constructor; (try cbv)
 refine cal hr (by rintro (⟨_, _, _, _, _, _⟩) _ <;> cbv) ?_
 rintro ⟨y11, y12, y13, y14, y15, q6⟩ hx4 hr
 (try dsimp only at hr); constructor; (try cbv)
 refine cal hr (by rintro (⟨_, _, _, _, _, _, _, _, _⟩) _ <;> cbv) ?_
 rintro ⟨y16, y17, y18, t1, c1, y19, c2, m3, q7⟩ hx5 hr
 (try dsimp only at hr); constructor; (try cbv)
 refine cal hr (by rintro (⟨_, _, _, _, _, _, _, _, _⟩) _ <;> cbv) ?_
 rintro ⟨y20, y21, y22, t2, c3, y23, c4, m4, q8⟩ hx6 hr
 (try dsimp only at hr); constructor; (try cbv)
 refine cal hr (by rintro (_) _ <;> cbv) ?_
 rintro q9 hx7 hr
 (try dsimp only at hr); constructor; (try cbv)
 refine cal hr (by rintro (⟨_, _, _, _, _, _, _, _, _⟩) _ <;> cbv) ?_
 rintro ⟨y24, y25, y26, t3, c5, y27, c6, m5, q10⟩ hx8 hr
 (try dsimp only at hr); constructor; (try cbv)
 refine sel_if hr ?_ ?_ <;> intro h1 hr
 ·as_aux_lemma =>
  (try cbv)
  refine sel_if hr ?_ ?_ <;> intro h1 hr
  ·as_aux_lemma =>
   (try cbv)
   refine sel_if hr ?_ ?_ <;> intro h1 hr
   ·as_aux_lemma =>
    (try cbv)
    refine sel_if hr ?_ ?_ <;> intro h1 hr
    ·as_aux_lemma =>
     (try cbv)
     refine sel_if hr ?_ ?_ <;> intro h1 hr
     ·as_aux_lemma =>
      (try cbv)
      refine sel_if hr ?_ ?_ <;> intro h1 hr
      ·as_aux_lemma =>
       (try cbv)
       refine sel_if hr ?_ ?_ <;> intro h1 hr
       ·as_aux_lemma =>
        (try cbv)
        refine sel_ifn hr ?_ ?_ <;> intro h1 hr
        ·as_aux_lemma =>
         (try cbv)
         refine sel_if hr ?_ ?_ <;> intro h1 hr
         ·as_aux_lemma =>
          (try cbv)
          refine sel_if hr ?_ ?_ <;> intro h1 hr
          ·as_aux_lemma =>
           (try cbv)
           refine cal hr (by rintro (⟨_, _⟩) _ <;> cbv) ?_
           rintro ⟨y28, q11⟩ hx9 hr
           (try dsimp only at hr); constructor; (try cbv)
           refine sel_if hr ?_ ?_ <;> intro h1 hr
           ·as_aux_lemma =>
            (try cbv)
            refine cal hr (by rintro (⟨_, _, _, _⟩) _ <;> cbv) ?_
            rintro ⟨m6, m7, q12, q13⟩ hx10 hr
            (try dsimp only at hr); constructor; (try cbv)
            refine sel_if hr ?_ ?_ <;> intro h1 hr
            ·(try cbv)
             refine cal hr (by rintro (_) _ <;> cbv) ?_
             rintro y29 hx11 hr
             (try dsimp only at hr); constructor; (try cbv)
             refine sel_if hr ?_ ?_ <;> intro h1 hr
             ·(try cbv)
              refine cal hr (by rintro (⟨_, _⟩) _ <;> cbv) ?_
              rintro ⟨q14, q15⟩ hx12 hr
              (try dsimp only at hr); constructor; (try cbv)
              refine sel_if hr ?_ ?_ <;> intro h1 hr
              ·(try cbv)
               refine cal hr (by rintro (_) _ <;> cbv) ?_
               rintro c7 hx13 hr
               (try dsimp only at hr); constructor; (try cbv)
               refine sel_if hr ?_ ?_ <;> intro h1 hr
               ·(try cbv)
                refine cal hr (by rintro (_) _ <;> cbv) ?_
                rintro c8 hx14 hr
                (try dsimp only at hr); constructor; (try cbv)
                refine sel_ifn hr ?_ ?_ <;> intro h1 hr
                ·(try cbv)
                 refine cal hr (by rintro (⟨_, _, _, _, _⟩) _ <;> cbv) ?_
                 rintro ⟨y30, y31, y32, c9, m8⟩ hx15 hr
                 (try dsimp only at hr); constructor; (try cbv)
                 apply Hidden.out
                 exact clacd82
                (try cbv)
                apply Hidden.out
                exact clacd82
               (try cbv)
               apply Hidden.out
               exact clacd82
              (try cbv)
              apply Hidden.out
              exact clacd82
             (try cbv)
             apply Hidden.out
             exact clacd82
            (try cbv)
            apply Hidden.out
            exact clacd82
           (try cbv)
           apply Hidden.out
           exact clacd82
          (try cbv)
          apply Hidden.out
          exact clacd82
         (try cbv)
         apply Hidden.out
         exact clacd82
        (try cbv)
        apply Hidden.out
        exact clacd82
       (try cbv)
       apply Hidden.out
       exact clacd82
      (try cbv)
      apply Hidden.out
      exact clacd82
     (try cbv)
     apply Hidden.out
     exact clacd82
    (try cbv)
    apply Hidden.out
    exact clacd82
   (try cbv)
   apply Hidden.out
   exact clacd82
  (try cbv)
  apply Hidden.out
  exact clacd82
 (try cbv)
 apply Hidden.out
 exact clacd82
noncomputable def Z64 : Nat → Option Con := look []
set_option maxHeartbeats 20000000 in
set_option maxRecDepth 100000 in
theorem Zfk (P : Program) (T : Tab P Z64) (hm : P.follows .mixedOrders = true) : FnVC P Z64 ic_9 [.t 4] 42 Z5n := by
 intro cargs ccks ce hce hob C hk
 apply Hidden.out
 replace hce : Z9o cargs ccks = some ce := hce
 unfold Z9o at hce
 split at hce; rotate_left; cases hce
 obtain rfl := Option.some.inj hce
 rename_i r1 r2
 refine obh hob fun r hF => ?_
 clear hob hce
 simp only [List.length_cons, List.length_nil, Nat.zero_add, Nat.reduceAdd] at hk
 have hr : Z1p r1 r2 = some r := by rw [lock_eq] at hF; exact hF
 unfold Z1p at hr
 constructor
 (try cbv)
 refine LoopOK.iter T (drawOK T hm) hr (fun | i1 => ⟨mkFr [(0, (.rsl (.row 33 (.st [.str, .bool, (.row 83 (.st [.str, (.int .u64), (.int .u64), (.int .u64), (.int .i64), .bool])), (.st [(.row 96 (.st [(.int .i64), (.int .i64), (.int .i64)])), (.int .i64)])]) r1))), (1, (.rsl (.row 58 (.st [(.int .i64), (.int .i64), (.int .i64), (.int .u64), (.int .u8)]) r2))), (5, (.v (.int .i64 i1)))] 42 0, [], 0⟩) ?_ ?_
 ·exact cl2ec4c
 clear hr
 intro x bb1 hr ht1
 obtain ⟨i1, hz⟩ : ∃ z, z = x := ⟨x, rfl⟩
 subst hz
 as_aux_lemma =>
 constructor
 unfold Z3x at hr
 (try dsimp only at hr)
 (try cbv)
 refine sel_if hr ?_ ?_ <;> intro h1 hr
 ·(try cbv)
  refine guard_go hr fun hr => ?_
  refine sel_if hr ?_ ?_ <;> intro h1 hr
  ·(try cbv)
   apply Hidden.out
   exact clb5cb2
  (try cbv)
  refine guard_go hr fun hr => ?_
  refine sel_if hr ?_ ?_ <;> intro h1 hr
  ·(try cbv)
   apply Hidden.out
   exact clb5cb2
  (try cbv)
  apply Hidden.out
  exact clba30f
 (try cbv)
 refine sel_if hr ?_ ?_ <;> intro h1 hr
 ·(try cbv)
  refine sel_if hr ?_ ?_ <;> intro h1 hr
  ·(try cbv)
   apply Hidden.out
   exact clb5cb2
  (try cbv)
  apply Hidden.out
  exact clb5cb2
 (try cbv)
 apply Hidden.out
 exact clb5cb2
noncomputable def Z56 : Nat → Option Con := look [(26, Z33), (28, Z3j), (29, Z3g), (15, Z3k), (21, Z38), (30, Z3n)]
set_option maxHeartbeats 20000000 in
set_option maxRecDepth 100000 in
theorem Zft (P : Program) (T : Tab P Z56) (hm : P.follows .mixedOrders = true) : FnVC P Z56 ic_25 [.c 6 3 true, .c 7 3 true] 69 Z8g := by
 intro cargs ccks ce hce hob C hk
 apply Hidden.out
 replace hce : Z6f cargs ccks = some ce := hce
 unfold Z6f at hce
 split at hce; rotate_left; cases hce; rename_i r1 x1 x2 x3 x4 x5
 split at hce; rotate_left; cases hce
 split at hce; rotate_left; cases hce; rename_i s1 b1 x6 x7
 split at hce; rotate_left; cases hce; rename_i r2
 split at hce; rotate_left; cases hce; rename_i r3
 split at hce; rotate_left; cases hce; rename_i w1 n1
 split at hce; rotate_left; cases hce; rename_i x8 b2
 split at hce; rotate_left; cases hce; rename_i w2 r4
 split at hce; rotate_left; cases hce; rename_i l1
 split at hce; rotate_left; cases hce; rename_i l2
 split at hce
 ·cases hce
 obtain rfl := Option.some.inj hce
 rename_i _ htm
 simp only [Bool.and_eq_true] at htm
 obtain ⟨h1, h2⟩ := htm
 obtain rfl := eq_of_tmeq _ _ h1
 obtain rfl := eq_of_tmeq _ _ h2
 clear h1 h2
 refine obh hob fun r hF => ?_
 clear hob hce
 simp only [List.length_cons, List.length_nil, Nat.zero_add, Nat.reduceAdd] at hk
 have hr : Z1r r1 x1 x2 x3 x4 x5 s1 b1 x6 x7 r2 r3 n1 x8 b2 r4 l1 l2 = some r := by rw [lock_eq] at hF; exact hF
 unfold Z1r at hr
 constructor
 (try cbv)
 refine sel_if hr ?_ ?_ <;> intro h1 hr
 ·(try cbv)
  refine cal hr (by rintro (⟨_, _, _, _, _, _⟩) _ <;> cbv) ?_
  rintro ⟨y1, y2, y3, y4, y5, q1⟩ hx1 hr
  (try dsimp only at hr); constructor; (try cbv)
  apply Hidden.out
  exact clf9b33
 as_aux_lemma =>
 (try cbv)
 refine sel_if hr ?_ ?_ <;> intro h1 hr
 ·(try cbv)
  refine cal hr (by rintro (_) _ <;> cbv) ?_
  rintro q2 hx2 hr
  (try dsimp only at hr); constructor; (try cbv)
  apply Hidden.out
  exact clf9b33
 as_aux_lemma =>
 (try cbv)
 refine sel_if hr ?_ ?_ <;> intro h1 hr
 ·(try cbv)
  refine cal hr (by rintro (⟨_, _, _, _, _, _, _, _, _⟩) _ <;> cbv) ?_
  rintro ⟨y6, y7, y8, t1, c1, y9, c2, m1, q3⟩ hx3 hr
  (try dsimp only at hr); constructor; (try cbv)
  apply Hidden.out
  exact clf9b33
 as_aux_lemma =>
 (try cbv)
 refine sel_if hr ?_ ?_ <;> intro h1 hr
 ·(try cbv)
  refine sel_if hr ?_ ?_ <;> intro h1 hr
  ·(try cbv)
   refine guard_gr hr fun hr => ?_
   refine guard_go hr fun hr => ?_
   refine cald hr (by rintro (⟨_, _, _, _, _, _, _, _, _, _, _, _⟩) _ <;> cbv) ?_
   rintro ⟨y10, t2, c3, y11, q4, q5, k1, y12, c4, q6, m2, m3⟩ hx4 hr
   (try dsimp only at hr); constructor; (try cbv)
   apply Hidden.out
   exact clf9b33
  (try cbv)
  cases hr
 (try cbv)
 refine sel_if hr ?_ ?_ <;> intro h1 hr
 ·(try cbv)
  refine guard_gr hr fun hr => ?_
  refine guard_go hr fun hr => ?_
  refine cald hr (by rintro (⟨_, _, _, _, _, _, _, _, _, _, _, _⟩) _ <;> cbv) ?_
  rintro ⟨y13, t3, c5, y14, q7, q8, k2, y15, c6, q9, m4, m5⟩ hx5 hr
  (try dsimp only at hr); constructor; (try cbv)
  apply Hidden.out
  exact clf9b33
 (try cbv)
 refine sel_if hr ?_ ?_ <;> intro h1 hr
 ·(try cbv)
  refine cal hr (by rintro (⟨_, _, _, _⟩) _ <;> cbv) ?_
  rintro ⟨m6, m7, q10, q11⟩ hx6 hr
  (try dsimp only at hr); constructor; (try cbv)
  refine cal hr (by rintro (⟨_, _, _, _, _, _⟩) _ <;> cbv) ?_
  rintro ⟨y16, y17, y18, c7, q12, m8⟩ hx7 hr
  (try dsimp only at hr); constructor; (try cbv)
  apply Hidden.out
  exact clf9b33
 (try cbv)
 apply Hidden.out
 exact clf9b33
noncomputable def Z4y : Nat → Option Con := look []
set_option maxHeartbeats 20000000 in
set_option maxRecDepth 100000 in
theorem Zff (P : Program) (T : Tab P Z4y) (hm : P.follows .mixedOrders = true) : FnVC P Z4y ic_12 [.c 2 5 true] 76 Z9e := by
 intro cargs ccks ce hce hob C hk
 apply Hidden.out
 replace hce : Z5p cargs ccks = some ce := hce
 unfold Z5p at hce
 split at hce; rotate_left; cases hce
 obtain rfl := Option.some.inj hce
 rename_i s1 b1 r1 r2 x1
 refine obh hob fun r hF => ?_
 clear hob hce
 simp only [List.length_cons, List.length_nil, Nat.zero_add, Nat.reduceAdd] at hk
 have hr : Z2f s1 b1 r1 r2 x1 = some r := by rw [lock_eq] at hF; exact hF
 unfold Z2f at hr
 constructor
 (try cbv)
 refine LoopOK.iter T (drawOK T hm) hr (fun | (i1, r3) => ⟨mkFr [(1, (.ptr 0 0)), (2, (.ptr 1 0)), (3, (.ptr 2 0)), (4, (.v (.int .i64 i1)))] 76 0, [(0, .blk 33 [(.str s1), (.v (.bool b1)), (.rsl (.row 83 (.st [.str, (.int .u64), (.int .u64), (.int .u64), (.int .i64), .bool]) r1)), (.rsl (.row 96 (.st [(.int .i64), (.int .i64), (.int .i64)]) r2)), (.v (.int .i64 x1))]), (1, .blk 40 [(.str ([] : List UInt8)), (.v (.bool false)), .nsl, .nsl, (.v (.int .i64 (0 : Int)))]), (2, .blk 40 [(.str s1), (.v (.bool b1)), .nsl, (.wsl 3), (.v (.int .i64 x1))]), (3, .row (.row 95 (.st [(.int .i64), (.int .i64), (.int .i64)]) r3))], 4⟩) ?_ ?_
 ·exact cl1df3b
 clear hr
 intro x bb1 hr ht1
 obtain ⟨i1, r3⟩ := x
 as_aux_lemma =>
 constructor
 unfold Z37 at hr
 (try dsimp only at hr)
 (try cbv)
 refine sel_if hr ?_ ?_ <;> intro h1 hr
 ·(try cbv)
  refine guard_go hr fun hr => ?_
  refine guard_go hr fun hr => ?_
  apply Hidden.out
  exact cl81169
 (try cbv)
 apply Hidden.out
 obtain ⟨t, hr2, hw⟩ := map_inv hr
 clear hr
 subst hw
 have e := (ht1 _ rfl).symm
 subst e
 have hr := hr2
 clear hr2
 constructor
 refine LoopOK.iter T (drawOK T hm) hr (fun | (i2, r4) => ⟨mkFr [(1, (.ptr 0 0)), (2, (.ptr 1 0)), (3, (.ptr 2 0)), (6, (.v (.int .i64 i2)))] 76 0, [(0, .blk 33 [(.str s1), (.v (.bool b1)), (.rsl (.row 83 (.st [.str, (.int .u64), (.int .u64), (.int .u64), (.int .i64), .bool]) r1)), (.rsl (.row 96 (.st [(.int .i64), (.int .i64), (.int .i64)]) r2)), (.v (.int .i64 x1))]), (1, .blk 40 [(.str ([] : List UInt8)), (.v (.bool false)), .nsl, .nsl, (.v (.int .i64 (0 : Int)))]), (2, .blk 40 [(.str s1), (.v (.bool b1)), (.wsl 3), (.wsl 4), (.v (.int .i64 x1))]), (3, .row (.row 82 (.st [.str, (.int .u64), (.int .u64), (.int .u64), (.int .i64), .bool]) r4)), (4, .row (.row 95 (.st [(.int .i64), (.int .i64), (.int .i64)]) r3))], 5⟩) ?_ ?_
 ·exact cl1df3b
 clear hr
 intro x bb1 hr ht1
 obtain ⟨i2, r4⟩ := x
 as_aux_lemma =>
 constructor
 unfold Z2u at hr
 (try dsimp only at hr)
 (try cbv)
 refine sel_if hr ?_ ?_ <;> intro h1 hr
 ·(try cbv)
  refine guard_go hr fun hr => ?_
  refine guard_go hr fun hr => ?_
  apply Hidden.out
  exact cl81169
 (try cbv)
 apply Hidden.out
 exact cl1c5c3
noncomputable def Z5l : Nat → Option Con := look []
set_option maxHeartbeats 20000000 in
set_option maxRecDepth 100000 in
theorem Zfu (P : Program) (T : Tab P Z5l) (hm : P.follows .mixedOrders = true) : FnVC P Z5l ic_20 [.c 2 6 true] 19 Z40 := by
 intro cargs ccks ce hce hob C hk
 apply Hidden.out
 replace hce : Z5f cargs ccks = some ce := hce
 unfold Z5f at hce
 split at hce; rotate_left; cases hce
 obtain rfl := Option.some.inj hce
 rename_i x1 l1 x2 b1 l2 r1
 refine obh hob fun r hF => ?_
 clear hob hce
 simp only [List.length_cons, List.length_nil, Nat.zero_add, Nat.reduceAdd] at hk
 have hr : Z2 x1 l1 x2 b1 l2 r1 = some r := by rw [lock_eq] at hF; exact hF
 unfold Z2 at hr
 constructor
 (try cbv)
 apply Hidden.out
 exact clacd82
noncomputable def Z5z : Nat → Option Con := look []
set_option maxHeartbeats 20000000 in
set_option maxRecDepth 100000 in
theorem Ze2 (P : Program) (T : Tab P Z5z) (hm : P.follows .mixedOrders = true) : FnVC P Z5z ic_46 [.t 4] 26 Z72 := by
 intro cargs ccks ce hce hob C hk
 apply Hidden.out
 replace hce : Z6p cargs ccks = some ce := hce
 unfold Z6p at hce
 split at hce; rotate_left; cases hce
 obtain rfl := Option.some.inj hce
 rename_i l1 l2
 refine obh hob fun r hF => ?_
 clear hob hce
 simp only [List.length_cons, List.length_nil, Nat.zero_add, Nat.reduceAdd] at hk
 have hr : Zw l1 l2 = some r := by rw [lock_eq] at hF; exact hF
 unfold Zw at hr
 constructor
 (try cbv)
 refine sel_ifn hr ?_ ?_ <;> intro h1 hr
 ·(try cbv)
  apply Hidden.out
  exact clacd82
 (try cbv)
 refine LoopOK.iter T (drawOK T hm) hr (fun | i1 => ⟨mkFr [(0, (.rsl (.ints 46 .u64 l1))), (1, (.rsl (.ints 46 .u64 l2))), (5, (.v (.int .i64 i1)))] 26 0, [], 0⟩) ?_ ?_
 ·exact cl2ec4c
 clear hr
 intro x bb1 hr ht1
 obtain ⟨i1, hz⟩ : ∃ z, z = x := ⟨x, rfl⟩
 subst hz
 as_aux_lemma =>
 constructor
 unfold Z2z at hr
 (try dsimp only at hr)
 (try cbv)
 refine sel_if hr ?_ ?_ <;> intro h1 hr
 ·(try cbv)
  refine guard_go hr fun hr => ?_
  refine guard_go hr fun hr => ?_
  refine sel_ifn hr ?_ ?_ <;> intro h1 hr
  ·(try cbv)
   apply Hidden.out
   exact clb5cb2
  (try cbv)
  apply Hidden.out
  exact clba30f
 (try cbv)
 apply Hidden.out
 exact clb5cb2
noncomputable def Z99 : Nat → Option Con := look []
set_option maxHeartbeats 20000000 in
set_option maxRecDepth 100000 in
theorem Zfp (P : Program) (T : Tab P Z99) (hm : P.follows .mixedOrders = true) : FnVC P Z99 ic_47 [.t 4] 26 Z9m := by
 intro cargs ccks ce hce hob C hk
 apply Hidden.out
 replace hce : Z5m cargs ccks = some ce := hce
 unfold Z5m at hce
 split at hce; rotate_left; cases hce
 obtain rfl := Option.some.inj hce
 rename_i r1 r2
 refine obh hob fun r hF => ?_
 clear hob hce
 simp only [List.length_cons, List.length_nil, Nat.zero_add, Nat.reduceAdd] at hk
 have hr : Z1z r1 r2 = some r := by rw [lock_eq] at hF; exact hF
 unfold Z1z at hr
 constructor
 (try cbv)
 refine sel_ifn hr ?_ ?_ <;> intro h1 hr
 ·(try cbv)
  apply Hidden.out
  exact clacd82
 (try cbv)
 refine LoopOK.iter T (drawOK T hm) hr (fun | i1 => ⟨mkFr [(0, (.rsl (.row 75 (.st [(.int .u64), (.int .i64), (.int .i64)]) r1))), (1, (.rsl (.row 75 (.st [(.int .u64), (.int .i64), (.int .i64)]) r2))), (5, (.v (.int .i64 i1)))] 26 0, [], 0⟩) ?_ ?_
 ·exact cl2ec4c
 clear hr
 intro x bb1 hr ht1
 obtain ⟨i1, hz⟩ : ∃ z, z = x := ⟨x, rfl⟩
 subst hz
 as_aux_lemma =>
 constructor
 unfold Z2v at hr
 (try dsimp only at hr)
 (try cbv)
 refine sel_if hr ?_ ?_ <;> intro h1 hr
 ·(try cbv)
  refine guard_go hr fun hr => ?_
  refine guard_go hr fun hr => ?_
  refine sel_ifn hr ?_ ?_ <;> intro h1 hr
  ·(try cbv)
   apply Hidden.out
   exact clb5cb2
  (try cbv)
  apply Hidden.out
  exact clba30f
 (try cbv)
 apply Hidden.out
 exact clb5cb2
noncomputable def Z8m : Nat → Option Con := look [(46, Z72), (47, Z9m)]
set_option maxHeartbeats 20000000 in
set_option maxRecDepth 100000 in
theorem Zdd (P : Program) (T : Tab P Z8m) (hm : P.follows .mixedOrders = true) : FnVC P Z8m ic_19 [.t 4] 69 Z8s := by
 intro cargs ccks ce hce hob C hk
 apply Hidden.out
 replace hce : Z4m cargs ccks = some ce := hce
 unfold Z4m at hce
 split at hce; rotate_left; cases hce
 obtain rfl := Option.some.inj hce
 rename_i x1 l1 x2 b1 l2 r1 x3 l3 x4 b2 l4 r2
 refine obh hob fun r hF => ?_
 clear hob hce
 simp only [List.length_cons, List.length_nil, Nat.zero_add, Nat.reduceAdd] at hk
 have hr : Z7 x1 l1 x2 b1 l2 r1 x3 l3 x4 b2 l4 r2 = some r := by rw [lock_eq] at hF; exact hF
 unfold Z7 at hr
 constructor
 (try cbv)
 refine sel_ifn hr ?_ ?_ <;> intro h1 hr
 ·(try cbv)
  apply Hidden.out
  exact clacd82
 as_aux_lemma =>
 (try cbv)
 refine sel_ifn hr ?_ ?_ <;> intro h1 hr
 ·(try cbv)
  apply Hidden.out
  exact clacd82
 as_aux_lemma =>
 (try cbv)
 refine sel_ifn hr ?_ ?_ <;> intro h1 hr
 ·(try cbv)
  apply Hidden.out
  exact clacd82
 as_aux_lemma =>
 (try cbv)
 refine sel_ifn hr ?_ ?_ <;> intro h1 hr
 ·(try cbv)
  apply Hidden.out
  exact clacd82
 as_aux_lemma =>
 (try cbv)
 refine cal hr (by rintro (_) _ <;> cbv) ?_
 rintro c1 hx1 hr
 (try dsimp only at hr); constructor; (try cbv)
 refine sel_ifn hr ?_ ?_ <;> intro h1 hr
 ·(try cbv)
  apply Hidden.out
  exact clacd82
 (try cbv)
 refine cal hr (by rintro (_) _ <;> cbv) ?_
 rintro c2 hx2 hr
 (try dsimp only at hr); constructor; (try cbv)
 refine sel_ifn hr ?_ ?_ <;> intro h1 hr
 ·(try cbv)
  apply Hidden.out
  exact clacd82
 (try cbv)
 refine LoopOK.iter T (drawOK T hm) hr (fun | i1 => ⟨mkFr [(2, (.ptr 0 0)), (3, (.ptr 1 0)), (5, (.v (.int .i64 i1)))] 69 0, [(0, .blk 62 [(.v (.int .u64 x1)), (.rsl (.ints 46 .u64 l1)), (.v (.int .i64 x2)), (.v (.bool b1)), (.rsl (.ints 46 .u64 l2)), (.rsl (.row 72 (.row 75 (.st [(.int .u64), (.int .i64), (.int .i64)])) r1))]), (1, .blk 62 [(.v (.int .u64 x3)), (.rsl (.ints 46 .u64 l3)), (.v (.int .i64 x4)), (.v (.bool b2)), (.rsl (.ints 46 .u64 l4)), (.rsl (.row 72 (.row 75 (.st [(.int .u64), (.int .i64), (.int .i64)])) r2))])], 2⟩) ?_ ?_
 ·exact cl2ec4c
 clear hr
 intro x bb1 hr ht1
 obtain ⟨i1, hz⟩ : ∃ z, z = x := ⟨x, rfl⟩
 subst hz
 as_aux_lemma =>
 constructor
 unfold Z32 at hr
 (try dsimp only at hr)
 (try cbv)
 refine sel_if hr ?_ ?_ <;> intro h1 hr
 ·(try cbv)
  refine guard_go hr fun hr => ?_
  refine guard_go hr fun hr => ?_
  refine cald hr (by rintro (_) _ <;> cbv) ?_
  rintro c5 hx5 hr
  (try dsimp only at hr); constructor; (try cbv)
  refine sel_ifn hr ?_ ?_ <;> intro h1 hr
  ·(try cbv)
   apply Hidden.out
   exact clb5cb2
  (try cbv)
  apply Hidden.out
  exact clba30f
 (try cbv)
 apply Hidden.out
 exact clb5cb2
noncomputable def Z85 : Nat → Option Con := look []
set_option maxHeartbeats 20000000 in
set_option maxRecDepth 100000 in
theorem Zey (P : Program) (T : Tab P Z85) (hm : P.follows .mixedOrders = true) : FnVC P Z85 ic_27 [.t 4] 39 Z4b := by
 intro cargs ccks ce hce hob C hk
 apply Hidden.out
 replace hce : Z8q cargs ccks = some ce := hce
 unfold Z8q at hce
 split at hce; rotate_left; cases hce
 obtain rfl := Option.some.inj hce
 rename_i r1 x1 x2
 refine obh hob fun r hF => ?_
 clear hob hce
 simp only [List.length_cons, List.length_nil, Nat.zero_add, Nat.reduceAdd] at hk
 have hr : Z2c r1 x1 x2 = some r := by rw [lock_eq] at hF; exact hF
 unfold Z2c at hr
 constructor
 (try cbv)
 refine LoopOK.iter T (drawOK T hm) hr (fun | i1 => ⟨mkFr [(1, (.v (.int .i64 x2))), (2, (.ptr 0 0)), (5, (.v (.int .i64 i1)))] 39 0, [(0, .blk 38 [(.rsl (.row 95 (.st [(.int .i64), (.int .i64), (.int .i64)]) r1)), (.v (.int .i64 x1))])], 1⟩) ?_ ?_
 ·exact cl2ec4c
 clear hr
 intro x bb1 hr ht1
 obtain ⟨i1, hz⟩ : ∃ z, z = x := ⟨x, rfl⟩
 subst hz
 as_aux_lemma =>
 constructor
 unfold Z2q at hr
 (try dsimp only at hr)
 (try cbv)
 refine sel_if hr ?_ ?_ <;> intro h1 hr
 ·(try cbv)
  refine guard_go hr fun hr => ?_
  refine sel_if hr ?_ ?_ <;> intro h1 hr
  ·(try cbv)
   refine guard_go hr fun hr => ?_
   refine sel_if hr ?_ ?_ <;> intro h1 hr
   ·(try cbv)
    refine guard_go hr fun hr => ?_
    apply Hidden.out
    exact clb5cb2
   (try cbv)
   apply Hidden.out
   exact clba30f
  (try cbv)
  apply Hidden.out
  exact clba30f
 (try cbv)
 apply Hidden.out
 exact clb5cb2
noncomputable def Z6j : Nat → Option Con := look [(8, Z7j), (9, Z5n), (10, Z3h), (25, Z8g), (21, Z38), (24, Z3y), (12, Z9e), (26, Z33), (20, Z40), (19, Z8s), (27, Z4b)]
set_option maxHeartbeats 20000000 in
set_option maxRecDepth 100000 in
theorem Zeb (P : Program) (T : Tab P Z6j) (hm : P.follows .mixedOrders = true) : FnVC P Z6j ic_5 [.t 4] 160 Zav := by
 intro cargs ccks ce hce hob C hk
 apply Hidden.out
 replace hce : Z53 cargs ccks = some ce := hce
 unfold Z53 at hce
 split at hce; rotate_left; cases hce
 obtain rfl := Option.some.inj hce
 rename_i r1 r2
 refine obh hob fun r hF => ?_
 clear hob hce
 simp only [List.length_cons, List.length_nil, Nat.zero_add, Nat.reduceAdd] at hk
 have hr : Z1j r1 r2 = some r := by rw [lock_eq] at hF; exact hF
 unfold Z1j at hr
 constructor
 (try cbv)
 refine cal hr (by rintro (_) _ <;> cbv) ?_
 rintro c1 hx1 hr
 (try dsimp only at hr); constructor; (try cbv)
 refine sel_ifn hr ?_ ?_ <;> intro h1 hr
 ·(try cbv)
  apply Hidden.out
  exact clacd82
 as_aux_lemma =>
 (try cbv)
 refine cal hr (by rintro (_) _ <;> cbv) ?_
 rintro c2 hx2 hr
 (try dsimp only at hr); constructor; (try cbv)
 refine sel_ifn hr ?_ ?_ <;> intro h1 hr
 ·(try cbv)
  apply Hidden.out
  exact clacd82
 as_aux_lemma =>
 (try cbv)
 refine guard_go hr fun hr => ?_
 refine cal hr (by rintro (_ | ⟨_, _, _, _, _, _⟩) _ <;> cbv) ?_
 rintro (_ | ⟨q1, q2, k1, q3, m1, m2⟩) hx3 hr
 all_goals ((try dsimp only at hr); constructor; (try cbv))
 ·apply Hidden.out
  exact clacd82
 refine LoopOK.iter T (drawOK T hm) hr (fun | (i1, s1, b1, i2, i3, r3, r4, n1, i4, b2, r5, l1, l2) => ⟨mkFr [(0, (.rsl (.row 33 (.st [.str, .bool, (.row 83 (.st [.str, (.int .u64), (.int .u64), (.int .u64), (.int .i64), .bool])), (.st [(.row 96 (.st [(.int .i64), (.int .i64), (.int .i64)])), (.int .i64)])]) r1))), (1, (.rsl (.row 58 (.st [(.int .i64), (.int .i64), (.int .i64), (.int .u64), (.int .u8)]) r2))), (7, (.ptr 0 0)), (8, (.v (.int .i64 i1)))] 160 0, [(0, .blk 92 [(.str s1), (.v (.bool b1)), (.wsl 1), (.wsl 2), (.v (.int .i64 i2)), (.v (.int .u64 i3)), (.wsl 3), (.ptr 4 0)]), (1, .row (.row 83 (.st [.str, (.int .u64), (.int .u64), (.int .u64), (.int .i64), .bool]) r3)), (2, .row (.row 96 (.st [(.int .i64), (.int .i64), (.int .i64)]) r4)), (3, .prow 98 tm98 n1 5), (4, .blk 169 [(.wsl 6), (.v (.int .i64 i4)), (.v (.bool b2)), (.wsl 7)]), (5, .gho tm98 r5 none), (6, .row (.ints 46 .u64 l1)), (7, .row (.ints 46 .u64 l2))], 8⟩) ?_ ?_
 ·exact cl68ede
 clear hr
 intro x bb1 hr ht1
 obtain ⟨i1, s1, b1, i2, i3, r3, r4, n1, i4, b2, r5, l1, l2⟩ := x
 as_aux_lemma =>
 constructor
 unfold Z2h at hr
 (try dsimp only at hr)
 (try cbv)
 refine sel_if hr ?_ ?_ <;> intro h1 hr
 ·as_aux_lemma =>
  (try cbv)
  refine guard_go hr fun hr => ?_
  refine sel_ifn hr ?_ ?_ <;> intro h1 hr
  ·(try cbv)
   refine cal hr (by rintro (⟨_, _, _, _, _, _, _, _, _, _, _, _, _, _, _, _, _, _⟩) _ <;> cbv) ?_
   rintro ⟨y31, y32, y33, y34, y35, y36, t3, c17, y37, y38, q28, q29, k4, y39, c18, q30, m15, m16⟩ hx48 hr
   (try dsimp only at hr); constructor; (try cbv)
   apply Hidden.out
   exact cl986f7
  as_aux_lemma =>
  (try cbv)
  refine cal hr (by rintro (⟨_, _, _, _⟩) _ <;> cbv) ?_
  rintro ⟨m17, m18, q31, q32⟩ hx49 hr
  (try dsimp only at hr); constructor; (try cbv)
  refine cal hr (by rintro (⟨_, _⟩) _ <;> cbv) ?_
  rintro ⟨q33, q34⟩ hx50 hr
  (try dsimp only at hr); constructor; (try cbv)
  refine cal hr (by rintro (⟨_, _⟩) _ <;> cbv) ?_
  rintro ⟨q35, q36⟩ hx51 hr
  (try dsimp only at hr); constructor; (try cbv)
  refine cal hr (by rintro (⟨_, _, _, _, _, _⟩) _ <;> cbv) ?_
  rintro ⟨y40, y41, y42, y43, y44, q37⟩ hx52 hr
  (try dsimp only at hr); constructor; (try cbv)
  refine cal hr (by rintro (⟨_, _, _, _⟩) _ <;> cbv) ?_
  rintro ⟨m19, m20, q38, q39⟩ hx53 hr
  (try dsimp only at hr); constructor; (try cbv)
  refine sel_if hr ?_ ?_ <;> intro h1 hr
  ·as_aux_lemma =>
   (try cbv)
   refine sel_if hr ?_ ?_ <;> intro h1 hr
   ·as_aux_lemma =>
    (try cbv)
    refine sel_if hr ?_ ?_ <;> intro h1 hr
    ·as_aux_lemma =>
     (try cbv)
     refine sel_ifn hr ?_ ?_ <;> intro h1 hr
     ·(try cbv)
      apply Hidden.out
      rcases Bool.eq_false_or_eq_true (ieq y43 (1 : Int)) with h1 | h1
      ·constructor
       rw [if_pos h1] at hr
       have h2 : (lock ieq y43 (1 : Int)) = true := by simp only [lock_eq]; exact h1
       simp only [relock, h2]
       (try cbv)
       refine cald hr (by rintro (_) _ <;> cbv) ?_
       rintro _ hx54 hr
       (try dsimp only at hr); constructor; (try cbv)
       refine cald hr (by rintro (_) _ <;> cbv) ?_
       rintro _ hx55 hr
       (try dsimp only at hr); constructor; (try cbv)
       refine cald hr (by rintro (_) _ <;> cbv) ?_
       rintro c19 hx56 hr
       (try dsimp only at hr); constructor; (try cbv)
       refine sel_ifn hr ?_ ?_ <;> intro h1 hr
       ·(try cbv)
        apply Hidden.out
        exact clb5cb2
       (try cbv)
       apply Hidden.out
       exact cl986f7
      constructor
      rw [if_neg (by rw [h1]; exact Bool.false_ne_true)] at hr
      have h2 : (lock ieq y43 (1 : Int)) = false := by simp only [lock_eq]; exact h1
      simp only [relock, h2]
      (try cbv)
      apply Hidden.out
      exact clb5cb2
     as_aux_lemma =>
     (try cbv)
     refine cal hr (by rintro (_) _ <;> cbv) ?_
     rintro y45 hx57 hr
     (try dsimp only at hr); constructor; (try cbv)
     refine guard_go hr fun hr => ?_
     refine guard_go hr fun hr => ?_
     apply Hidden.out
     rcases Bool.eq_false_or_eq_true (beq2 (ile (D.toI (D.fld (getD q35 (toN y45)) 4)) (ofN (xlen (D.toL (getD q31 (toN y45)))))) (ieq y43 (35 : Int))) with h1 | h1
     ·constructor
      rw [if_pos h1] at hr
      have h2 : (lock beq2 (lock ile (lock D.toI (lock D.fld (lock getD q35 (lock toN y45)) 4)) (lock ofN (lock (@xlen D) (lock D.toL (lock getD q31 (lock toN y45)))))) (lock ieq y43 (35 : Int))) = true := by simp only [lock_eq]; exact h1
      simp only [relock, h2]
      (try cbv)
      apply Hidden.out
      rcases Bool.eq_false_or_eq_true (ile (D.toI (D.fld (getD q35 (toN y45)) 4)) (ofN (xlen (D.toL (getD q31 (toN y45)))))) with h1 | h1
      ·constructor
       rw [if_pos h1] at hr
       have h2 : (lock ile (lock D.toI (lock D.fld (lock getD q35 (lock toN y45)) 4)) (lock ofN (lock (@xlen D) (lock D.toL (lock getD q31 (lock toN y45)))))) = true := by simp only [lock_eq]; exact h1
       simp only [relock, h2]
       (try cbv)
       refine cald hr (by rintro (_) _ <;> cbv) ?_
       rintro _ hx58 hr
       (try dsimp only at hr); constructor; (try cbv)
       refine cald hr (by rintro (_) _ <;> cbv) ?_
       rintro _ hx59 hr
       (try dsimp only at hr); constructor; (try cbv)
       refine cald hr (by rintro (_) _ <;> cbv) ?_
       rintro c20 hx60 hr
       (try dsimp only at hr); constructor; (try cbv)
       apply Hidden.out
       rcases Bool.eq_false_or_eq_true c20 with h1 | h1
       ·constructor
        rw [if_pos h1] at hr
        subst h1
        (try cbv)
        apply Hidden.out
        exact cl986f7
       constructor
       rw [if_neg (by rw [h1]; exact Bool.false_ne_true)] at hr
       subst h1
       (try cbv)
       apply Hidden.out
       exact clb5cb2
      constructor
      rw [if_neg (by rw [h1]; exact Bool.false_ne_true)] at hr
      have h2 : (lock ile (lock D.toI (lock D.fld (lock getD q35 (lock toN y45)) 4)) (lock ofN (lock (@xlen D) (lock D.toL (lock getD q31 (lock toN y45)))))) = false := by simp only [lock_eq]; exact h1
      simp only [relock, h2]
      (try cbv)
      apply Hidden.out
      rcases Bool.eq_false_or_eq_true (ieq y43 (0 : Int)) with h1 | h1
      ·constructor
       rw [if_pos h1] at hr
       have h2 : (lock ieq y43 (0 : Int)) = true := by simp only [lock_eq]; exact h1
       simp only [relock, h2]
       (try cbv)
       refine guard_go hr fun hr => ?_
       refine guard_go hr fun hr => ?_
       apply Hidden.out
       rcases Bool.eq_false_or_eq_true (ieq (ofN (xlen (D.toL (getD q38 (toN y45))))) (iadd .i64 (ofN (xlen (D.toL (getD q31 (toN y45))))) (1 : Int))) with h1 | h1
       ·constructor
        rw [if_pos h1] at hr
        have h2 : (lock ieq (lock ofN (lock (@xlen D) (lock D.toL (lock getD q38 (lock toN y45))))) (lock iadd .i64 (lock ofN (lock (@xlen D) (lock D.toL (lock getD q31 (lock toN y45))))) (1 : Int))) = true := by simp only [lock_eq]; exact h1
        simp only [relock, h2]
        (try cbv)
        refine sel_ifn hr ?_ ?_ <;> intro h1 hr
        ·(try cbv)
         apply Hidden.out
         exact clb5cb2
        (try cbv)
        apply Hidden.out
        exact cl986f7
       constructor
       rw [if_neg (by rw [h1]; exact Bool.false_ne_true)] at hr
       have h2 : (lock ieq (lock ofN (lock (@xlen D) (lock D.toL (lock getD q38 (lock toN y45))))) (lock iadd .i64 (lock ofN (lock (@xlen D) (lock D.toL (lock getD q31 (lock toN y45))))) (1 : Int))) = false := by simp only [lock_eq]; exact h1
       simp only [relock, h2]
       (try cbv)
       apply Hidden.out
       exact clb5cb2
      constructor
      rw [if_neg (by rw [h1]; exact Bool.false_ne_true)] at hr
      have h2 : (lock ieq y43 (0 : Int)) = false := by simp only [lock_eq]; exact h1
      simp only [relock, h2]
      (try cbv)
      apply Hidden.out
      exact clb5cb2
     constructor
     rw [if_neg (by rw [h1]; exact Bool.false_ne_true)] at hr
     have h2 : (lock beq2 (lock ile (lock D.toI (lock D.fld (lock getD q35 (lock toN y45)) 4)) (lock ofN (lock (@xlen D) (lock D.toL (lock getD q31 (lock toN y45)))))) (lock ieq y43 (35 : Int))) = false := by simp only [lock_eq]; exact h1
     simp only [relock, h2]
     (try cbv)
     apply Hidden.out
     exact clb5cb2
    (try cbv)
    apply Hidden.out
    rcases Bool.eq_false_or_eq_true (ieq y43 (1 : Int)) with h1 | h1
    ·constructor
     rw [if_pos h1] at hr
     have h2 : (lock ieq y43 (1 : Int)) = true := by simp only [lock_eq]; exact h1
     simp only [relock, h2]
     (try cbv)
     refine cald hr (by rintro (_) _ <;> cbv) ?_
     rintro _ hx61 hr
     (try dsimp only at hr); constructor; (try cbv)
     refine cald hr (by rintro (_) _ <;> cbv) ?_
     rintro _ hx62 hr
     (try dsimp only at hr); constructor; (try cbv)
     refine cald hr (by rintro (_) _ <;> cbv) ?_
     rintro c21 hx63 hr
     (try dsimp only at hr); constructor; (try cbv)
     refine sel_ifn hr ?_ ?_ <;> intro h1 hr
     ·(try cbv)
      apply Hidden.out
      exact clb5cb2
     (try cbv)
     apply Hidden.out
     exact cl986f7
    constructor
    rw [if_neg (by rw [h1]; exact Bool.false_ne_true)] at hr
    have h2 : (lock ieq y43 (1 : Int)) = false := by simp only [lock_eq]; exact h1
    simp only [relock, h2]
    (try cbv)
    apply Hidden.out
    exact clb5cb2
   (try cbv)
   apply Hidden.out
   rcases Bool.eq_false_or_eq_true (ieq y43 (1 : Int)) with h1 | h1
   ·constructor
    rw [if_pos h1] at hr
    have h2 : (lock ieq y43 (1 : Int)) = true := by simp only [lock_eq]; exact h1
    simp only [relock, h2]
    (try cbv)
    refine cald hr (by rintro (_) _ <;> cbv) ?_
    rintro _ hx64 hr
    (try dsimp only at hr); constructor; (try cbv)
    refine cald hr (by rintro (_) _ <;> cbv) ?_
    rintro _ hx65 hr
    (try dsimp only at hr); constructor; (try cbv)
    refine cald hr (by rintro (_) _ <;> cbv) ?_
    rintro c22 hx66 hr
    (try dsimp only at hr); constructor; (try cbv)
    refine sel_ifn hr ?_ ?_ <;> intro h1 hr
    ·(try cbv)
     apply Hidden.out
     exact clb5cb2
    (try cbv)
    apply Hidden.out
    exact cl986f7
   constructor
   rw [if_neg (by rw [h1]; exact Bool.false_ne_true)] at hr
   have h2 : (lock ieq y43 (1 : Int)) = false := by simp only [lock_eq]; exact h1
   simp only [relock, h2]
   (try cbv)
   apply Hidden.out
   exact clb5cb2
  (try cbv)
  apply Hidden.out
  rcases Bool.eq_false_or_eq_true (ieq y43 (1 : Int)) with h1 | h1
  ·constructor
   rw [if_pos h1] at hr
   have h2 : (lock ieq y43 (1 : Int)) = true := by simp only [lock_eq]; exact h1
   simp only [relock, h2]
   (try cbv)
   refine cald hr (by rintro (_) _ <;> cbv) ?_
   rintro _ hx67 hr
   (try dsimp only at hr); constructor; (try cbv)
   refine cald hr (by rintro (_) _ <;> cbv) ?_
   rintro _ hx68 hr
   (try dsimp only at hr); constructor; (try cbv)
   refine cald hr (by rintro (_) _ <;> cbv) ?_
   rintro c23 hx69 hr
   (try dsimp only at hr); constructor; (try cbv)
   refine sel_ifn hr ?_ ?_ <;> intro h1 hr
   ·(try cbv)
    apply Hidden.out
    exact clb5cb2
   (try cbv)
   apply Hidden.out
   exact cl986f7
  constructor
  rw [if_neg (by rw [h1]; exact Bool.false_ne_true)] at hr
  have h2 : (lock ieq y43 (1 : Int)) = false := by simp only [lock_eq]; exact h1
  simp only [relock, h2]
  (try cbv)
  apply Hidden.out
  exact clb5cb2
 (try cbv)
 apply Hidden.out
 exact clb5cb2
theorem mixed : Try.prog.follows .mixedOrders = true := by kernel_rfl
theorem Zac : Tab Try.prog Z8y := Tab.nil _
theorem Zdl : FnOK Try.prog 32 Z5q := FnOK.of Zac mixed Try.func32 Zfn (Zfw _ Zac mixed)
theorem Za8 : Tab Try.prog Z5t := Tab.cons (Tab.nil _) Zdl Try.func32 rfl rfl
theorem Z48 : FnOK Try.prog 13 Z2y := FnOK.of Za8 mixed Try.func13 Zgp (Zh0 _ Za8 mixed)
theorem Zby : Tab Try.prog Z4g := Tab.nil _
theorem Zgi : FnOK Try.prog 78 Z9a := FnOK.of Zby mixed Try.func78 Zd5 (Ze4 _ Zby mixed)
theorem Zb8 : Tab Try.prog Z8t := Tab.nil _
theorem Zce : FnOK Try.prog 79 Z71 := FnOK.of Zb8 mixed Try.func79 Zes (Zf0 _ Zb8 mixed)
theorem Zc3 : Tab Try.prog Z5k := Tab.cons (Tab.cons (Tab.nil _) Zce Try.func79 rfl rfl) Zgi Try.func78 rfl rfl
theorem Z9t : FnOK Try.prog 50 Z3t := FnOK.of Zc3 mixed Try.func50 Zdc (Zgc _ Zc3 mixed)
theorem Zai : Tab Try.prog Z7w := Tab.nil _
theorem Zcm : FnOK Try.prog 60 Z8z := FnOK.of Zai mixed Try.func60 Zek (Zcs _ Zai mixed)
theorem Zax : Tab Try.prog Z94 := Tab.nil _
theorem Zel : FnOK Try.prog 61 Z6w := FnOK.of Zax mixed Try.func61 Zgf (Zda _ Zax mixed)
theorem Zaw : Tab Try.prog Z67 := Tab.nil _
theorem Zgg : FnOK Try.prog 89 Z7p := FnOK.of Zaw mixed Try.func89 Zdr (Zck _ Zaw mixed)
theorem Zbu : Tab Try.prog Z7i := Tab.cons (Tab.nil _) Zgg Try.func89 rfl rfl
theorem Zex : FnOK Try.prog 62 Z54 := FnOK.of Zbu mixed Try.func62 Zdm (Zfv _ Zbu mixed)
theorem Zbg : Tab Try.prog Z61 := Tab.cons (Tab.cons (Tab.cons (Tab.cons (Tab.nil _) Zex Try.func62 rfl rfl) Zel Try.func61 rfl rfl) Zcm Try.func60 rfl rfl) Z9t Try.func50 rfl rfl
theorem Zbo : FnOK Try.prog 31 Z3m := FnOK.of Zbg mixed Try.func31 Ze0 (Zfg _ Zbg mixed)
theorem Za4 : Tab Try.prog Z8c := Tab.cons (Tab.cons (Tab.nil _) Zbo Try.func31 rfl rfl) Z48 Try.func13 rfl rfl
theorem Z9r : FnOK Try.prog 10 Z3h := FnOK.of Za4 mixed Try.func10 Zgs (Zg4 _ Za4 mixed)
theorem Zbn : Tab Try.prog Z8f := Tab.nil _
theorem Zgm : FnOK Try.prog 81 Z7e := FnOK.of Zbn mixed Try.func81 Zee (Zdy _ Zbn mixed)
theorem Za0 : Tab Try.prog Z4n := Tab.cons (Tab.nil _) Zgm Try.func81 rfl rfl
theorem Zgv : FnOK Try.prog 80 Z7x := FnOK.of Za0 mixed Try.func80 Zf8 (Zgh _ Za0 mixed)
theorem Zbq : Tab Try.prog Z7r := Tab.cons (Tab.nil _) Zgv Try.func80 rfl rfl
theorem Zbz : FnOK Try.prog 51 Z3i := FnOK.of Zbq mixed Try.func51 Zg6 (Zcw _ Zbq mixed)
theorem Zbh : Tab Try.prog Z89 := Tab.nil _
theorem Zdj : FnOK Try.prog 91 Z7q := FnOK.of Zbh mixed Try.func91 Zgo (Zeu _ Zbh mixed)
theorem Z9y : Tab Try.prog Z46 := Tab.nil _
theorem Z4j : FnOK Try.prog 85 Z3e := FnOK.of Z9y mixed Try.func85 Zg1 (Zfi _ Z9y mixed)
theorem Za2 : Tab Try.prog Z43 := Tab.cons (Tab.cons (Tab.nil _) Z4j Try.func85 rfl rfl) Zdj Try.func91 rfl rfl
theorem Zat : FnOK Try.prog 67 Z3l := FnOK.of Za2 mixed Try.func67 Zdh (Zg2 _ Za2 mixed)
theorem Zbk : Tab Try.prog Z6s := Tab.cons (Tab.nil _) Zat Try.func67 rfl rfl
theorem Zcy : FnOK Try.prog 52 Z4q := FnOK.of Zbk mixed Try.func52 Zfh (Zds _ Zbk mixed)
theorem Zc0 : Tab Try.prog Z7a := Tab.cons (Tab.cons (Tab.nil _) Zcy Try.func52 rfl rfl) Zbz Try.func51 rfl rfl
theorem Z6c : FnOK Try.prog 26 Z33 := FnOK.of Zc0 mixed Try.func26 Zfr (Zg8 _ Zc0 mixed)
theorem Zb2 : Tab Try.prog Z60 := Tab.nil _
theorem Z88 : FnOK Try.prog 33 Z3b := FnOK.of Zb2 mixed Try.func33 Zgt (Zfj _ Zb2 mixed)
theorem Zbl : Tab Try.prog Z7o := Tab.cons (Tab.nil _) Z88 Try.func33 rfl rfl
theorem Za7 : FnOK Try.prog 83 Z3r := FnOK.of Zbl mixed Try.func83 Zg3 (Zch _ Zbl mixed)
theorem Zae : Tab Try.prog Z5v := Tab.cons (Tab.nil _) Za7 Try.func83 rfl rfl
theorem Zde : FnOK Try.prog 54 Z7k := FnOK.of Zae mixed Try.func54 Zfx (Zdq _ Zae mixed)
theorem Zb4 : Tab Try.prog Z93 := Tab.nil _
theorem Zfz : FnOK Try.prog 99 Z96 := FnOK.of Zb4 mixed Try.func99 Zdu (Zfb _ Zb4 mixed)
theorem Zap : Tab Try.prog Z9k := Tab.nil _
theorem Zc4 : FnOK Try.prog 97 Z3w := FnOK.of Zap mixed Try.func97 Zcc (Zg9 _ Zap mixed)
theorem Zab : Tab Try.prog Z6n := Tab.cons (Tab.cons (Tab.nil _) Zc4 Try.func97 rfl rfl) Zfz Try.func99 rfl rfl
theorem Zdf : FnOK Try.prog 84 Z5x := FnOK.of Zab mixed Try.func84 Zh4 (Zfq _ Zab mixed)
theorem Zad : Tab Try.prog Z6r := Tab.cons (Tab.nil _) Zdf Try.func84 rfl rfl
theorem Zeq : FnOK Try.prog 55 Z9n := FnOK.of Zad mixed Try.func55 Zfe (Zf9 _ Zad mixed)
theorem Z9z : Tab Try.prog Z58 := Tab.cons (Tab.cons (Tab.nil _) Z4j Try.func85 rfl rfl) Za7 Try.func83 rfl rfl
theorem Zfy : FnOK Try.prog 56 Z8l := FnOK.of Z9z mixed Try.func56 Zci (Zcx _ Z9z mixed)
theorem Zbv : Tab Try.prog Z50 := Tab.nil _
theorem Zdk : FnOK Try.prog 57 Z4a := FnOK.of Zbv mixed Try.func57 Zeo (Zcj _ Zbv mixed)
theorem Zbc : Tab Try.prog Z4s := Tab.cons (Tab.cons (Tab.cons (Tab.cons (Tab.nil _) Zdk Try.func57 rfl rfl) Zfy Try.func56 rfl rfl) Zeq Try.func55 rfl rfl) Zde Try.func54 rfl rfl
theorem Zbf : FnOK Try.prog 29 Z3g := FnOK.of Zbc mixed Try.func29 Zgz (Zfl _ Zbc mixed)
theorem Zb5 : Tab Try.prog Z5r := Tab.nil _
theorem Zdv : FnOK Try.prog 98 Z75 := FnOK.of Zb5 mixed Try.func98 Ze9 (Zd1 _ Zb5 mixed)
theorem Zc1 : Tab Try.prog Z7s := Tab.cons (Tab.cons (Tab.nil _) Zc4 Try.func97 rfl rfl) Zdv Try.func98 rfl rfl
theorem Zg0 : FnOK Try.prog 82 Z45 := FnOK.of Zc1 mixed Try.func82 Zgn (Zev _ Zc1 mixed)
theorem Za3 : Tab Try.prog Z8h := Tab.cons (Tab.nil _) Zg0 Try.func82 rfl rfl
theorem Zh3 : FnOK Try.prog 53 Z52 := FnOK.of Za3 mixed Try.func53 Zfo (Zea _ Za3 mixed)
theorem Zbi : Tab Try.prog Z55 := Tab.cons (Tab.nil _) Zh3 Try.func53 rfl rfl
theorem Zbp : FnOK Try.prog 28 Z3j := FnOK.of Zbi mixed Try.func28 Zfm (Zf2 _ Zbi mixed)
theorem Zaq : Tab Try.prog Z76 := Tab.cons (Tab.nil _) Z88 Try.func33 rfl rfl
theorem Zh1 : FnOK Try.prog 14 Z6o := FnOK.of Zaq mixed Try.func14 Zg5 (Zcq _ Zaq mixed)
theorem Zbt : Tab Try.prog Z57 := Tab.nil _
theorem Zbw : FnOK Try.prog 77 Z3o := FnOK.of Zbt mixed Try.func77 Zgj (Zf7 _ Zbt mixed)
theorem Zba : Tab Try.prog Z7h := Tab.cons (Tab.nil _) Zbw Try.func77 rfl rfl
theorem Zf4 : FnOK Try.prog 48 Z8j := FnOK.of Zba mixed Try.func48 Zei (Zdt _ Zba mixed)
theorem Zao : Tab Try.prog Z98 := Tab.cons (Tab.cons (Tab.nil _) Z4j Try.func85 rfl rfl) Z88 Try.func33 rfl rfl
theorem Zeg : FnOK Try.prog 66 Z42 := FnOK.of Zao mixed Try.func66 Zd7 (Zgu _ Zao mixed)
theorem Zbs : Tab Try.prog Z49 := Tab.cons (Tab.nil _) Zeg Try.func66 rfl rfl
theorem Za6 : FnOK Try.prog 36 Z3v := FnOK.of Zbs mixed Try.func36 Zg7 (Zga _ Zbs mixed)
theorem Zb1 : Tab Try.prog Z5i := Tab.cons (Tab.cons (Tab.nil _) Za6 Try.func36 rfl rfl) Zf4 Try.func48 rfl rfl
theorem Z5d : FnOK Try.prog 21 Z38 := FnOK.of Zb1 mixed Try.func21 Zc8 (Zcl _ Zb1 mixed)
theorem Z9v : Tab Try.prog Z9d := Tab.nil _
theorem Ze3 : FnOK Try.prog 63 Z4p := FnOK.of Z9v mixed Try.func63 Zed (Zew _ Z9v mixed)
theorem Z9x : Tab Try.prog Z83 := Tab.nil _
theorem Zgl : FnOK Try.prog 64 Z5c := FnOK.of Z9x mixed Try.func64 Zdz (Zd4 _ Z9x mixed)
theorem Z9s : Tab Try.prog Z47 := Tab.cons (Tab.cons (Tab.nil _) Zgl Try.func64 rfl rfl) Ze3 Try.func63 rfl rfl
theorem Zer : FnOK Try.prog 34 Z3z := FnOK.of Z9s mixed Try.func34 Zcb (Zem _ Z9s mixed)
theorem Zb9 : Tab Try.prog Z6q := Tab.cons (Tab.nil _) Zez Try.func101 rfl rfl
theorem Zcn : FnOK Try.prog 90 Z8d := FnOK.of Zb9 mixed Try.func90 Zd3 (Zgb _ Zb9 mixed)
theorem Zal : Tab Try.prog Z8p := Tab.cons (Tab.nil _) Zcn Try.func90 rfl rfl
theorem Zdb : FnOK Try.prog 65 Z6b := FnOK.of Zal mixed Try.func65 Ze5 (Zep _ Zal mixed)
theorem Zbm : Tab Try.prog Z7m := Tab.cons (Tab.cons (Tab.nil _) Zdb Try.func65 rfl rfl) Zbz Try.func51 rfl rfl
theorem Zgy : FnOK Try.prog 35 Z5s := FnOK.of Zbm mixed Try.func35 Zcp (Zcd _ Zbm mixed)
theorem Zbe : Tab Try.prog Z74 := Tab.nil _
theorem Zgd : FnOK Try.prog 37 Z4u := FnOK.of Zbe mixed Try.func37 Zc9 (Zef _ Zbe mixed)
theorem Z9p : Tab Try.prog Z70 := Tab.cons (Tab.nil _) Zat Try.func67 rfl rfl
theorem Za1 : FnOK Try.prog 38 Z3q := FnOK.of Z9p mixed Try.func38 Zgx (Zdx _ Z9p mixed)
theorem Za5 : Tab Try.prog Z5b := Tab.cons (Tab.cons (Tab.cons (Tab.cons (Tab.cons (Tab.cons (Tab.cons (Tab.nil _) Za1 Try.func38 rfl rfl) Zgd Try.func37 rfl rfl) Zbo Try.func31 rfl rfl) Zgy Try.func35 rfl rfl) Za6 Try.func36 rfl rfl) Zer Try.func34 rfl rfl) Z48 Try.func13 rfl rfl
theorem Zah : FnOK Try.prog 15 Z3k := FnOK.of Za5 mixed Try.func15 Zct (Zcz _ Za5 mixed)
theorem Zc5 : Tab Try.prog Z7b := Tab.cons (Tab.nil _) Z9t Try.func50 rfl rfl
theorem Zag : FnOK Try.prog 24 Z3y := FnOK.of Zc5 mixed Try.func24 Zdi (Zh2 _ Zc5 mixed)
theorem Zau : Tab Try.prog Z65 := Tab.nil _
theorem Zdo : FnOK Try.prog 88 Z6y := FnOK.of Zau mixed Try.func88 Zd0 (Zec _ Zau mixed)
theorem Zb3 : Tab Try.prog Z5w := Tab.cons (Tab.nil _) Zdo Try.func88 rfl rfl
theorem Ze8 : FnOK Try.prog 87 Z9c := FnOK.of Zb3 mixed Try.func87 Zgr (Zcf _ Zb3 mixed)
theorem Zbd : Tab Try.prog Z9l := Tab.cons (Tab.nil _) Ze8 Try.func87 rfl rfl
theorem Zc6 : FnOK Try.prog 100 Z6z := FnOK.of Zbd mixed Try.func100 Zcr (Zf5 _ Zbd mixed)
theorem Zaz : Tab Try.prog Z68 := Tab.cons (Tab.nil _) Zc6 Try.func100 rfl rfl
theorem Zca : FnOK Try.prog 86 Z7n := FnOK.of Zaz mixed Try.func86 Zfa (Zgw _ Zaz mixed)
theorem Zaf : Tab Try.prog Z9g := Tab.cons (Tab.nil _) Zca Try.func86 rfl rfl
theorem Zf1 : FnOK Try.prog 58 Z4o := FnOK.of Zaf mixed Try.func58 Zen (Zcv _ Zaf mixed)
theorem Zbx : Tab Try.prog Z86 := Tab.cons (Tab.nil _) Zbw Try.func77 rfl rfl
theorem Zge : FnOK Try.prog 59 Z8e := FnOK.of Zbx mixed Try.func59 Zc7 (Zej _ Zbx mixed)
theorem Zb6 : Tab Try.prog Z69 := Tab.cons (Tab.cons (Tab.cons (Tab.nil _) Za1 Try.func38 rfl rfl) Zge Try.func59 rfl rfl) Zf1 Try.func58 rfl rfl
theorem Zc2 : FnOK Try.prog 30 Z3n := FnOK.of Zb6 mixed Try.func30 Zdp (Zfc _ Zb6 mixed)
theorem Zas : Tab Try.prog Z59 := Tab.cons (Tab.cons (Tab.cons (Tab.cons (Tab.cons (Tab.cons (Tab.cons (Tab.cons (Tab.cons (Tab.cons (Tab.nil _) Zc2 Try.func30 rfl rfl) Z48 Try.func13 rfl rfl) Zag Try.func24 rfl rfl) Zah Try.func15 rfl rfl) Z5d Try.func21 rfl rfl) Zh1 Try.func14 rfl rfl) Zbp Try.func28 rfl rfl) Zbf Try.func29 rfl rfl) Z6c Try.func26 rfl rfl) Z9r Try.func10 rfl rfl
theorem Zd9 : FnOK Try.prog 8 Z7j := FnOK.of Zas mixed Try.func8 Zeh (Zcg _ Zas mixed)
theorem Z9q : Tab Try.prog Z64 := Tab.nil _
theorem Zdg : FnOK Try.prog 9 Z5n := FnOK.of Z9q mixed Try.func9 Zgk (Zfk _ Z9q mixed)
theorem Zbr : Tab Try.prog Z56 := Tab.cons (Tab.cons (Tab.cons (Tab.cons (Tab.cons (Tab.cons (Tab.nil _) Zc2 Try.func30 rfl rfl) Z5d Try.func21 rfl rfl) Zah Try.func15 rfl rfl) Zbf Try.func29 rfl rfl) Zbp Try.func28 rfl rfl) Z6c Try.func26 rfl rfl
theorem Ze7 : FnOK Try.prog 25 Z8g := FnOK.of Zbr mixed Try.func25 Zdw (Zft _ Zbr mixed)
theorem Zam : Tab Try.prog Z4y := Tab.nil _
theorem Zd8 : FnOK Try.prog 12 Z9e := FnOK.of Zam mixed Try.func12 Zf3 (Zff _ Zam mixed)
theorem Za9 : Tab Try.prog Z5l := Tab.nil _
theorem Zf6 : FnOK Try.prog 20 Z40 := FnOK.of Za9 mixed Try.func20 Zco (Zfu _ Za9 mixed)
theorem Z9u : Tab Try.prog Z5z := Tab.nil _
theorem Ze6 : FnOK Try.prog 46 Z72 := FnOK.of Z9u mixed Try.func46 Zgq (Ze2 _ Z9u mixed)
theorem Zak : Tab Try.prog Z99 := Tab.nil _
theorem Zd6 : FnOK Try.prog 47 Z9m := FnOK.of Zak mixed Try.func47 Zet (Zfp _ Zak mixed)
theorem Z9w : Tab Try.prog Z8m := Tab.cons (Tab.cons (Tab.nil _) Zd6 Try.func47 rfl rfl) Ze6 Try.func46 rfl rfl
theorem Zfd : FnOK Try.prog 19 Z8s := FnOK.of Z9w mixed Try.func19 Ze1 (Zdd _ Z9w mixed)
theorem Zaa : Tab Try.prog Z85 := Tab.nil _
theorem Zfs : FnOK Try.prog 27 Z4b := FnOK.of Zaa mixed Try.func27 Zd2 (Zey _ Zaa mixed)
theorem Zay : Tab Try.prog Z6j := Tab.cons (Tab.cons (Tab.cons (Tab.cons (Tab.cons (Tab.cons (Tab.cons (Tab.cons (Tab.cons (Tab.cons (Tab.cons (Tab.nil _) Zfs Try.func27 rfl rfl) Zfd Try.func19 rfl rfl) Zf6 Try.func20 rfl rfl) Z6c Try.func26 rfl rfl) Zd8 Try.func12 rfl rfl) Zag Try.func24 rfl rfl) Z5d Try.func21 rfl rfl) Ze7 Try.func25 rfl rfl) Z9r Try.func10 rfl rfl) Zdg Try.func9 rfl rfl) Zd9 Try.func8 rfl rfl
theorem Zdn : FnOK Try.prog 5 Zav := FnOK.of Zay mixed Try.func5 Zcu (Zeb _ Zay mixed)
end Go.Proofs.Ytojbpjcfdjakkaa
end
section
set_option linter.unusedVariables false
set_option linter.unusedSimpArgs false
namespace Go.Proofs.Ytojbpjcfdjakkaa
open Go.RowKit Go.ChangeShapes Go.WideShapes Go.Deep
mutual
def Ty.rng : Ty → D → Prop
 | .int k, d => (Lit.int k d.toI).wf = true
 | .bool, _ => True
 | .str, d => d.toS.length ≤ maxLen
 | .bytes _, d => d.toS.length ≤ maxLen
 | .ints _ k, d => d.toIs.length ≤ maxLen ∧ ∀ x ∈ d.toIs, (Lit.int k x).wf = true
 | .row _ e, d => d.toL.length ≤ maxLen ∧ ∀ x ∈ d.toL, e.rng x
 | .st fs, d => Ty.rngL fs d 0
 | .self _, _ => True
 | .u8s _, _ => True
def Ty.rngL : List Ty → D → Nat → Prop
 | [], _, _ => True
 | t :: ts, d, j => t.rng (d.fld j) ∧ Ty.rngL ts d (j + 1)
end
mutual
def tyChk (P : Program) : Ty → TypeId → Bool
 | .int k, t => match P.underlying t with | some (.int j) => j == k | _ => false
 | .bool, t => match P.underlying t with | some .bool => true | _ => false
 | .str, t => match P.underlying t with | some .string => true | _ => false
 | .bytes T, t => match P.underlying t, P.underlying T with | some (.slice e), some (.int .u8) => Nat.beq e T && Nat.beq (P.cellsOf T) 1 | _, _ => false
 | .ints T k, t => match P.underlying t, P.underlying T with | some (.slice e), some (.int j) => Nat.beq e T && Nat.beq (P.cellsOf T) 1 && j == k | _, _ => false
 | .row T e, t => match P.underlying t with | some (.slice e') => Nat.beq e' T && Nat.beq (P.cellsOf T) e.size && Nat.ble 1 e.size && tyChk P e T | _ => false
 | .st es, t => match P.underlying t with | some (.struct fl) => Nat.beq (P.cellsOf t) (Ty.sizes es) && tysChk P es fl.toList 0 | _ => false
 | .self _, _ => false
 | .u8s _, _ => false
def tysChk (P : Program) : List Ty → List Field → Nat → Bool
 | [], [], _ => true
 | e :: es, f :: fl, o => Nat.beq f.offset o && Nat.beq (P.cellsOf f.type) e.size && tyChk P e f.type && tysChk P es fl (o + e.size)
 | _, _, _ => false
end
section
variable {H : Type} {enc : TypeId × Value → H} {P : Program} {w : World} {base : Nat} {spare : Nat → Bool} {held : Bool}
def PN : Nat → Option Pl := fun _ => none
def AN : Nat → Prop := fun _ => False
theorem open_row {r : R} {a : Addr} {len cap : Nat} (hr : rlen r = len) (hl : len ≤ cap) (hsz : 0 < r.sz) (hrow : ∀ i, i < len → ∃ cs, cs.length = r.sz ∧ (∀ j, j < r.sz → w.cell? (a.add (i * r.sz + j)) = cs[j]?) ∧ Dens PN w AN (r.elem i) cs) :
  Den PN w AN (.rsl r) (.slice (some a) len cap) := by
 subst hr
 have : ∀ i, ∃ cs : List Value, i < rlen r → cs.length = r.sz ∧ (∀ j, j < r.sz → w.cell? (a.add (i * r.sz + j)) = cs[j]?) ∧ Dens PN w AN (r.elem i) cs := fun i => by
  by_cases h : i < rlen r
  ·obtain ⟨cs, h⟩ := hrow i h; exact ⟨cs, fun _ => h⟩
  exact ⟨[], fun h' => absurd h' h⟩
 obtain ⟨f, hf⟩ := Classical.axiomOfChoice this
 refine .rsl r (some a) cap (fun i j => ((f i)[j]?).getD undef) hl ?_ ?_ ?_
 ·intro h0
  obtain ⟨h1, h2, h3⟩ := hf 0 h0
  have hc := h2 0 hsz
  rw [Nat.zero_mul, Nat.zero_add, List.getElem?_eq_getElem (by omega)] at hc
  refine ⟨a, rfl, ?_, fun h => h⟩
  have := World.block_lt_of_cell? w _ hc
  rwa [add_block] at this
 ·intro i j ad e hi hj
  injection e with e; subst e
  obtain ⟨h1, h2, h3⟩ := hf i hi
  have hjl : j < (f i).length := by omega
  rw [add_add, h2 j hj, List.getElem?_eq_getElem hjl]
  have hle : (r.elem i).length = (f i).length := h3.1.symm
  exact ⟨rfl, by simpa using (h3.2 j (by omega) hjl).2⟩
 intro i j hi hj
 obtain ⟨h1, h2, h3⟩ := hf i hi
 have hjl : j < (f i).length := by rw [h3.1]; exact hj
 have := (h3.2 j hj hjl).1
 simpa [List.getElem?_eq_getElem hjl] using this
theorem den1 {v : SV} {c : Value} (h : Den PN w AN v c) (h1 : c.oneCell' = true) : Dens PN w AN [v] [c] := Dens.cons h h1 Dens.nil
theorem open_bytes {t T : TypeId} (hu : P.underlying t = some (.slice T)) (he : P.underlying T = some (.int .u8)) (hc : P.cellsOf T = 1) {fuel : Nat} {cs : List Value} {x : DataW H × List MemPlace} (h : DataW.trod enc P w base spare held fuel t cs = some x) :
  ∃ l : List UInt8, l.length ≤ maxLen ∧ Dens PN w AN [.rsl (.bs T l)] cs := by
 rcases open_slice1 hu hc h with ⟨rfl, _⟩ | ⟨a, len, cap, m, n, V, D, Pl, rfl, hb, hl, hm, hmm, _, hi⟩
 ·exact ⟨[], by simp, den1 (nil_den rfl .nsl) rfl⟩
 have hle : len ≤ m := by rw [hmm]; split <;> omega
 have each : ∀ i, ∃ b : UInt8, i < len → w.cell? (a.add i) = some (.int .u8 b.toNat) := fun i => by
  by_cases h : i < len
  ·obtain ⟨h1, h2⟩ := hi i (by omega)
   obtain ⟨y, e1, _, e2⟩ := DataW.trod_int he h2
   injection e1 with e1 _
   have hy : 0 ≤ y ∧ y ≤ 255 := by simpa [Lit.wf, IntKind.min, IntKind.max, IntKind.signed, IntKind.bits, Int.lt_add_one_iff, Int.le_sub_one_iff] using e2
   refine ⟨UInt8.ofNat y.toNat, fun _ => ?_⟩
   rw [h1, e1]
   have : ((UInt8.ofNat y.toNat).toNat : Int) = y := by simp; omega
   rw [this]
  exact ⟨0, fun h' => absurd h' h⟩
 obtain ⟨f, hf⟩ := Classical.axiomOfChoice each
 refine ⟨(List.range len).map f, by simp; omega, den1 (open_row (by simp [rlen]) hl (by show 0 < 1; omega) fun i hi => ⟨[.int .u8 (f i).toNat], rfl, ?_, ?_⟩) rfl⟩
 ·intro j hj
  have : j = 0 := by simp [R.sz] at hj; exact hj
  subst this
  simp only [R.sz, Nat.mul_one, Nat.add_zero]
  rw [hf i hi]
  rfl
 have : getB ((List.range len).map f) i = ((f i).toNat : Int) := by simp [getB, hi]
 simp only [R.elem, lock_eq, this]
 exact den1 (.v _) rfl
theorem open_intsD {t T : TypeId} {k : IntKind} (hu : P.underlying t = some (.slice T)) (he : P.underlying T = some (.int k)) (hc : P.cellsOf T = 1) {fuel : Nat} {cs : List Value} {x : DataW H × List MemPlace} (h : DataW.trod enc P w base spare held fuel t cs = some x) :
  ∃ l : List Int, l.length ≤ maxLen ∧ (∀ y ∈ l, (Lit.int k y).wf = true) ∧ Dens PN w AN [.rsl (.ints T k l)] cs := by
 rcases open_slice1 hu hc h with ⟨rfl, _⟩ | ⟨a, len, cap, m, n, V, D, Pl, rfl, hb, hl, hm, hmm, _, hi⟩
 ·exact ⟨[], by simp, by simp, den1 (nil_den rfl .nsl) rfl⟩
 have hle : len ≤ m := by rw [hmm]; split <;> omega
 have each : ∀ i, ∃ b : Int, i < len → w.cell? (a.add i) = some (.int k b) ∧ (Lit.int k b).wf = true := fun i => by
  by_cases h : i < len
  ·obtain ⟨h1, h2⟩ := hi i (by omega)
   obtain ⟨y, e1, _, e2⟩ := DataW.trod_int he h2
   injection e1 with e1 _
   exact ⟨y, fun _ => ⟨by rw [h1, e1], e2⟩⟩
  exact ⟨0, fun h' => absurd h' h⟩
 obtain ⟨f, hf⟩ := Classical.axiomOfChoice each
 refine ⟨(List.range len).map f, by simp; omega, ?_, den1 (open_row (by simp [rlen]) hl (by show 0 < 1; omega) fun i hi => ⟨[.int k (f i)], rfl, ?_, ?_⟩) rfl⟩
 ·intro y hy
  obtain ⟨i, h1, rfl⟩ := List.mem_map.1 hy
  exact (hf i (List.mem_range.1 h1)).2
 ·intro j hj
  have : j = 0 := by simp [R.sz] at hj; exact hj
  subst this
  simp only [R.sz, Nat.mul_one, Nat.add_zero]
  rw [(hf i hi).1]
  rfl
 have : getI ((List.range len).map f) i = f i := by simp [getI, hi]
 simp only [R.elem, lock_eq, this]
 exact den1 (.v _) rfl
theorem dens_app {a b : List SV} {c d : List Value} (h : Dens PN w AN a c) (k : Dens PN w AN b d) : Dens PN w AN (a ++ b) (c ++ d) := by
 refine ⟨by simp [h.1, k.1], fun j h1 h2 => ?_⟩
 by_cases hj : j < a.length
 ·have hc : j < c.length := by rw [h.1]; exact hj
  rw [List.getElem_append_left hj, List.getElem_append_left hc]
  exact h.2 j hj hc
 have hc : ¬ j < c.length := by rw [h.1]; exact hj
 rw [List.getElem_append_right (by omega), List.getElem_append_right (by omega)]
 have e := h.1
 have := k.2 (j - a.length) (by simp at h1; omega) (by simp at h2; omega)
 simpa [e] using this
theorem D.fld_l (l : List D) (j : Nat) : (D.l l).fld j = l.getD j (.i 0) := rfl
theorem open_ty : ∀ (e : Ty) (t : TypeId) (fuel : Nat) (cs : List Value) (x : DataW H × List MemPlace), tyChk P e t = true → DataW.trod enc P w base spare held fuel t cs = some x → ∃ d : D, Dens PN w AN (e.leaves d) cs ∧ e.rng d := by
 intro e
 apply Ty.rec (motive_1 := fun e => ∀ (t : TypeId) (fuel : Nat) (cs : List Value) (x : DataW H × List MemPlace), tyChk P e t = true → DataW.trod enc P w base spare held fuel t cs = some x → ∃ d : D, Dens PN w AN (e.leaves d) cs ∧ e.rng d)
  (motive_2 := fun es => ∀ (fl : List Field) (o : Nat) (cs : List Value), tysChk P es fl o = true → (∀ f ∈ fl, ∃ fuel x, DataW.trod enc P w base spare held fuel f.type ((cs.drop f.offset).take (P.cellsOf f.type)) = some x) → cs.length = o + Ty.sizes es →
   ∃ ds : List D, ds.length = es.length ∧ ∀ d j, (∀ i, i < es.length → d.fld (j + i) = ds.getD i (.i 0)) → Dens PN w AN (Ty.leavesL es d j) (cs.drop o) ∧ Ty.rngL es d j)
 ·intro k t fuel cs x hc h
  simp only [tyChk] at hc
  split at hc
  ·rename_i j hu
   have := LawfulBEq.eq_of_beq hc
   subst this
   obtain ⟨y, rfl, _, e2⟩ := DataW.trod_int hu h
   refine ⟨.i y, ?_, e2⟩
   simp only [Ty.leaves, lock_eq]
   exact den1 (.v _) rfl
  cases hc
 ·intro t fuel cs x hc h
  simp only [tyChk] at hc
  split at hc
  ·rename_i hu
   obtain ⟨b, rfl, _⟩ := DataW.trod_bool hu h
   refine ⟨.b b, ?_, trivial⟩
   simp only [Ty.leaves, lock_eq]
   exact den1 (.v _) rfl
  cases hc
 ·intro t fuel cs x hc h
  simp only [tyChk] at hc
  split at hc
  ·rename_i hu
   obtain ⟨b, rfl, _, e2⟩ := DataW.trod_string hu h
   refine ⟨.s b.data.toList, ?_, by
    show b.data.toList.length ≤ maxLen
    have : b.data.toList.length = b.size := by rw [Array.length_toList]; rfl
    rw [this]; exact e2⟩
   simp only [Ty.leaves, lock_eq, D.toS]
   have := Den.str (PL := PN) (w := w) (Av := AN) b.data.toList
   simp at this
   exact den1 this rfl
  cases hc
 ·intro T t fuel cs x hc h
  simp only [tyChk] at hc
  split at hc
  ·rename_i e0 hu he
   simp only [Bool.and_eq_true] at hc
   have e1 := (nbeq _ _).1 hc.1
   have e2 := (nbeq _ _).1 hc.2
   subst e1
   obtain ⟨l, h1, h2⟩ := open_bytes hu he e2 h
   exact ⟨.s l, by simp only [Ty.leaves, lock_eq]; exact h2, h1⟩
  cases hc
 ·intro T k t fuel cs x hc h
  simp only [tyChk] at hc
  split at hc
  ·rename_i e0 j hu he
   simp only [Bool.and_eq_true] at hc
   have e1 := (nbeq _ _).1 hc.1.1
   have e2 := (nbeq _ _).1 hc.1.2
   have e3 := LawfulBEq.eq_of_beq hc.2
   subst e1; subst e3
   obtain ⟨l, h1, h2, h3⟩ := open_intsD hu he e2 h
   exact ⟨.is l, by simp only [Ty.leaves, lock_eq]; exact h3, h1, h2⟩
  cases hc
 ·intro T e ih t fuel cs x hc h
  simp only [tyChk] at hc
  split at hc
  ·rename_i e0 hu
   simp only [Bool.and_eq_true] at hc
   obtain ⟨⟨⟨c1, c2⟩, c3⟩, c4⟩ := hc
   have e1 := (nbeq _ _).1 c1
   have e2 := (nbeq _ _).1 c2
   have e3 := Nat.le_of_ble_eq_true c3
   subst e1
   rcases open_slice hu h with ⟨rfl, _⟩ | ⟨a, len, cap, m, n, D0, Pl, rfl, hb, hl, hm, hmm, _, hi⟩
   ·refine ⟨.l [], ?_, by simp [Ty.rng, D.toL]⟩
    simp only [Ty.leaves, lock_eq, D.toL]
    exact den1 (nil_den rfl .nsl) rfl
   have hle : len ≤ m := by rw [hmm]; split <;> omega
   have each : ∀ i, ∃ q : D × List Value, i < len → q.2.length = e.size ∧ (∀ j, j < e.size → w.cell? (a.add (i * e.size + j)) = q.2[j]?) ∧ Dens PN w AN (e.leaves q.1) q.2 ∧ e.rng q.1 := fun i => by
    by_cases hil : i < len
    ·obtain ⟨cs', g1, g2⟩ := hi i (by omega)
     obtain ⟨_, g3, g4⟩ := World.cells?_some g1
     obtain ⟨d, g5, g6⟩ := ih _ n cs' _ c4 g2
     refine ⟨(d, cs'), fun _ => ⟨by rw [g3, e2], fun j hj => ?_, g5, g6⟩⟩
     have := g4 j (by omega)
     rw [add_add, e2] at this
     exact this
    exact ⟨(.i 0, []), fun h' => absurd h' hil⟩
   obtain ⟨f, hf⟩ := Classical.axiomOfChoice each
   refine ⟨.l ((List.range len).map fun i => (f i).1), ?_, ?_, ?_⟩
   ·simp only [Ty.leaves, lock_eq, D.toL]
    refine den1 (open_row (by simp [rlen]) hl (by show 0 < e.size; omega) fun i hi => ⟨(f i).2, (hf i hi).1, (hf i hi).2.1, ?_⟩) rfl
    have : getD ((List.range len).map fun i => (f i).1) i = (f i).1 := by simp [getD, hi]
    simp only [R.elem, lock_eq, this]
    exact (hf i hi).2.2.1
   ·simp [D.toL]; omega
   intro y hy
   simp only [D.toL] at hy
   obtain ⟨i, h1, rfl⟩ := List.mem_map.1 hy
   exact (hf i (List.mem_range.1 h1)).2.2.2
  cases hc
 ·intro es ih t fuel cs x hc h
  simp only [tyChk] at hc
  split at hc
  ·rename_i fl hu
   simp only [Bool.and_eq_true] at hc
   have e1 := (nbeq _ _).1 hc.1
   obtain ⟨xs, n, _, _, hlen, hxl, hx⟩ := DataW.trod_struct hu h
   obtain ⟨ds, h1, h2⟩ := ih fl.toList 0 cs hc.2 (fun f hf => by
    obtain ⟨i, hi, he⟩ := List.getElem_of_mem hf
    have hi' : i < fl.size := by simpa using hi
    have := hx i f (by rw [Array.getElem?_eq_getElem hi']; simpa using he)
    exact ⟨n, xs[i]'(by omega), by rw [this, List.getElem?_eq_getElem (by omega)]⟩) (by rw [hlen, e1]; omega)
   obtain ⟨g1, g2⟩ := h2 (.l ds) 0 (fun i hi => by rw [D.fld_l, Nat.zero_add])
   exact ⟨.l ds, by simp only [Ty.leaves]; simpa using g1, g2⟩
  cases hc
 ·intro T t fuel cs x hc h; simp [tyChk] at hc
 ·intro n t fuel cs x hc h; simp [tyChk] at hc
 ·intro fl o cs hc hf hl
  cases fl with
  | nil => exact ⟨[], rfl, fun d j _ => ⟨by simp only [Ty.leavesL]; rw [List.drop_of_length_le (by simp [Ty.sizes] at hl; omega)]; exact Dens.nil, trivial⟩⟩
  | cons f fl => simp [tysChk] at hc
 intro e es ih1 ih2 fl o cs hc hf hl
 cases fl with
 | nil => simp [tysChk] at hc
 | cons f fl =>
  simp only [tysChk, Bool.and_eq_true] at hc
  obtain ⟨⟨⟨c1, c2⟩, c3⟩, c4⟩ := hc
  have e1 := (nbeq _ _).1 c1
  have e2 := (nbeq _ _).1 c2
  obtain ⟨fuel, x, hx⟩ := hf f (List.mem_cons_self ..)
  obtain ⟨d1, g1, g2⟩ := ih1 _ _ _ _ c3 hx
  simp only [Ty.sizes] at hl
  obtain ⟨ds, g3, g4⟩ := ih2 fl (o + e.size) cs c4 (fun f hf' => hf f (List.mem_cons_of_mem _ hf')) (by omega)
  refine ⟨d1 :: ds, by simp [g3], fun d j hd => ?_⟩
  have hd0 : d.fld j = d1 := by simpa using hd 0 (by simp)
  obtain ⟨k1, k2⟩ := g4 d (j + 1) (fun i hi => by
   have := hd (i + 1) (by simpa using hi)
   rw [Nat.add_assoc, Nat.add_comm 1 i, this, List.getD_cons_succ])
  rw [e1, e2] at g1
  refine ⟨?_, ?_, k2⟩
  ·simp only [Ty.leavesL, lock_eq, hd0]
   have : cs.drop o = (cs.drop o).take e.size ++ cs.drop (o + e.size) := by
    rw [← List.drop_drop, List.take_append_drop]
   rw [this]
   exact dens_app g1 k1
  rw [hd0]; exact g2
end
end Go.Proofs.Ytojbpjcfdjakkaa
end
section
set_option linter.unusedVariables false
set_option linter.unusedSimpArgs false
namespace Go.Proofs.Ytojbpjcfdjakkaa
theorem pieq {a b : Int} : (ieq a b = true) = (a = b) := by simp [ieq]
theorem pilt {a b : Int} : (ilt a b = true) = (a < b) := by simp [ilt]
theorem pile {a b : Int} : (ile a b = true) = (a ≤ b) := by simp [ile]
theorem pseq {a b : List UInt8} : (seq a b = true) = (a = b) := by simp [seq]
theorem pbeq2 {a b : Bool} : (beq2 a b = true) = (a = b) := by simp [beq2]
theorem pband {a b : Bool} : (band a b = true) = (a = true ∧ b = true) := by simp [band]
def U (x : Int) : Prop := 0 ≤ x ∧ x < 18446744073709551616
theorem U.lo {x : Int} (h : U x) : 0 ≤ x := h.1
theorem U.hi {x : Int} (h : U x) : x < 18446744073709551616 := h.2
theorem pwu64 (x : Int) : IntKind.u64.wrap x = x % 18446744073709551616 := by simp [IntKind.wrap, IntKind.signed, IntKind.bits]
theorem pwi64 {x : Int} (h1 : -9223372036854775808 ≤ x) (h2 : x ≤ 9223372036854775807) : IntKind.i64.wrap x = x := by
 simp only [IntKind.wrap, IntKind.signed, IntKind.bits]
 simp
 omega
theorem pu64 {x : Int} (h1 : 0 ≤ x) (h2 : x < 18446744073709551616) : IntKind.u64.wrap x = x := by rw [pwu64]; omega
theorem ptoN (n : Nat) : toN (n : Int) = n := rfl
theorem pnext {n : Nat} (h : n < 9223372036854775807) : iadd .i64 (n : Int) 1 = ((n + 1 : Nat) : Int) := by
 simp only [iadd]
 rw [pwi64] <;> omega
theorem pgetI {l : List Int} {n : Nat} (h : n < l.length) : getI l n = l[n] := by simp [getI, h]
theorem pgetD {l : List D} {n : Nat} (h : n < l.length) : getD l n = l[n] := by simp [getD, h]
theorem pcopy {α : Type} (l : List α) (x : α) : lspl (lrep l.length x) 0 (lsub l 0 (nmin (xlen (lrep l.length x)) (xlen l))) = l := by
 simp [lspl, lrep, lsub, nmin, xlen]
theorem pimax (a b : Int) : imax a b = max a b := by
 unfold imax
 by_cases h : b > a
 ·rw [if_pos h]; omega
 rw [if_neg h]; omega
theorem pimin (a b : Int) : imin a b = min a b := by
 unfold imin
 by_cases h : b < a
 ·rw [if_pos h]; omega
 rw [if_neg h]; omega
abbrev Pk := Int × Int × Int
def pk (d : D) : Pk := (D.toI (D.fld d 0), D.toI (D.fld d 1), D.toI (D.fld d 2))
def mkP (p : Pk) : D := .l [.i p.1, .i p.2.1, .i p.2.2]
def zP : D := .l [.i 0, .i 0, .i 0]
structure QR (f n : Nat) (r : List D) (l : List Pk) : Prop where
 hn : l.length = n
 le : n ≤ r.length
 hf : f < r.length ∨ (r = [] ∧ f = 0)
 big : r.length ≤ 1000000
 at_ : ∀ i, (hi : i < l.length) → pk (r.getD ((f + i) % r.length) (.i 0)) = l[i]
theorem QR.nil : QR 0 0 [] [] := ⟨rfl, by simp, .inr ⟨rfl, rfl⟩, by simp, fun i h => absurd h (by simp)⟩
theorem QR.zero {r : List D} (h : 0 < r.length) (hb : r.length ≤ 1000000) : QR 0 0 r [] := ⟨rfl, by simp, .inl h, hb, fun i h => absurd h (by simp)⟩
theorem p_at {i f : Nat} {x y : Int} {r : List D} (hr : 0 < r.length) (hf : f ≤ 1000000) (hi : i ≤ 1000000) : Zd (i : Int) x (f : Int) y r = some (((f + i) % r.length : Nat) : Int) := by
 unfold Zd
 have e : iadd .i64 (f : Int) (i : Int) = ((f + i : Nat) : Int) := by simp only [iadd]; rw [pwi64 (by omega) (by omega)]; omega
 have e2 : irem ((f + i : Nat) : Int) (ofN (xlen r)) = (((f + i) % r.length : Nat) : Int) := by
  simp only [irem, ofN, xlen]
  rw [Int.tmod_eq_emod_of_nonneg (by omega)]
  exact (Int.natCast_emod _ _).symm
 rw [if_pos (by simp only [ofN, xlen]; omega), e, e2]
theorem p_grow2 {f : Nat} {x y : Int} {r : List D} (hf : f ≤ r.length) (hb : r.length ≤ 400000) : ∃ z : List D, Z1m x (f : Int) y r = some (r.drop f ++ r.take f ++ z) ∧ r.length + z.length = max 4 (2 * r.length) := by
 obtain ⟨M, hM⟩ : ∃ M : Nat, M = max 4 (2 * r.length) := ⟨_, rfl⟩
 have hm : imax (4 : Int) (imul .i64 (2 : Int) (ofN (xlen r))) = (M : Int) := by
  have : imul .i64 (2 : Int) (ofN (xlen r)) = ((2 * r.length : Nat) : Int) := by simp only [imul, ofN, xlen]; rw [pwi64 (by omega) (by omega)]; omega
  rw [this, pimax]; omega
 obtain ⟨Z, hZ⟩ : ∃ Z : List D, Z = List.replicate M zP := ⟨_, rfl⟩
 have hZl : Z.length = M := by rw [hZ]; simp
 have e0 : @lrep D (toN (M : Int)) (D.l [(D.i (0 : Int)), (D.i (0 : Int)), (D.i (0 : Int))]) = Z := by rw [hZ]; rfl
 have ea : lsub r (toN (f : Int)) (ndec (xlen r) (toN (f : Int))) = r.drop f := by
  show (r.drop f).take (r.length - f) = _
  exact List.take_of_length_le (by simp)
 have eb : lsub r 0 (toN (f : Int)) = r.take f := by show (r.drop 0).take f = _; rfl
 have hla : (r.drop f).length = r.length - f := by simp
 have hlb : (r.take f).length = f := by simp; omega
 have em1 : nmin (xlen Z) (xlen (r.drop f)) = r.length - f := by simp only [nmin, xlen]; omega
 have el1 : lsub (r.drop f) 0 (r.length - f) = r.drop f := by show ((r.drop f).drop 0).take _ = _; exact List.take_of_length_le (by simp)
 have es1 : lspl Z 0 (r.drop f) = r.drop f ++ Z.drop (r.length - f) := by
  show Z.take 0 ++ r.drop f ++ Z.drop (0 + (r.drop f).length) = _
  rw [hla, Nat.zero_add]; rfl
 have hl1 : xlen (r.drop f ++ Z.drop (r.length - f)) = M := by simp only [xlen, List.length_append, List.length_drop]; omega
 have em2 : nmin (ndec M (toN (ofN (r.length - f)))) (xlen (r.take f)) = f := by simp only [nmin, ndec, xlen, hlb]; show min (M - (r.length - f)) f = f; omega
 have el2 : lsub (r.take f) 0 f = r.take f := by show ((r.take f).drop 0).take _ = _; exact List.take_of_length_le (by rw [List.drop_zero, hlb]; exact Nat.le_refl _)
 have es2 : lspl (r.drop f ++ Z.drop (r.length - f)) (toN (ofN (r.length - f))) (r.take f) = r.drop f ++ r.take f ++ Z.drop r.length := by
  show (r.drop f ++ Z.drop (r.length - f)).take (r.length - f) ++ r.take f ++ (r.drop f ++ Z.drop (r.length - f)).drop (r.length - f + (r.take f).length) = _
  rw [List.take_left' hla, hlb]
  congr 1
  rw [List.drop_append, List.drop_of_length_le (by omega), List.nil_append, List.drop_drop, hla]
  congr 1
  omega
 refine ⟨Z.drop r.length, ?_, by simp only [List.length_drop]; omega⟩
 unfold Z1m
 rw [hm, e0, ea, em1, el1, es1, eb, hl1, em2, el2, es2]
 rw [if_pos (by omega), if_pos (by simp only [ofN, xlen]; omega), if_pos (by simp only [ofN]; omega), if_pos (by simp only [ofN, xlen]; omega)]
theorem getD_append_l {l m : List D} {i : Nat} (h : i < l.length) : (l ++ m).getD i (.i 0) = l.getD i (.i 0) := by
 rw [List.getD_eq_getElem?_getD, List.getD_eq_getElem?_getD, List.getElem?_append_left h]
theorem rot_at {r : List D} {f i : Nat} {z : List D} (hf : f < r.length) (hi : i < r.length) : (r.drop f ++ r.take f ++ z).getD i (.i 0) = r.getD ((f + i) % r.length) (.i 0) := by
 have hl : (r.drop f ++ r.take f).length = r.length := by simp; omega
 rw [getD_append_l (by omega)]
 by_cases h : f + i < r.length
 ·rw [Nat.mod_eq_of_lt h, getD_append_l (by simp; omega)]
  simp [List.getD_eq_getElem?_getD, List.getElem?_drop]
 have e : (f + i) % r.length = f + i - r.length := by rw [Nat.mod_eq_sub_mod (by omega), Nat.mod_eq_of_lt (by omega)]
 rw [e, List.getD_eq_getElem?_getD, List.getElem?_append_right (by simp; omega), List.getD_eq_getElem?_getD]
 simp only [List.length_drop]
 rw [List.getElem?_take_of_lt (by omega)]
 congr 2
 omega
theorem getD_set_ne {r : List D} {i j : Nat} {d : D} (h : i ≠ j) : (r.set i d).getD j (.i 0) = r.getD j (.i 0) := by
 rw [List.getD_eq_getElem?_getD, List.getD_eq_getElem?_getD, List.getElem?_set_ne h]
theorem getD_set_eq {r : List D} {i : Nat} {d : D} (h : i < r.length) : (r.set i d).getD i (.i 0) = d := by
 rw [List.getD_eq_getElem?_getD, List.getElem?_set_self h]
 rfl
theorem mod_ne {L f n i : Nat} (hn : n < L) (hi : i < n) : (f + n) % L ≠ (f + i) % L := by
 intro e
 have h1 : (f + n) % L = (f + i + (n - i)) % L := by congr 1; omega
 rw [h1] at e
 have h2 : (f + i + (n - i)) % L = ((f + i) % L + (n - i)) % L := by rw [Nat.mod_add_mod]
 rw [h2] at e
 have hL : (f + i) % L < L := Nat.mod_lt _ (by omega)
 by_cases h : (f + i) % L + (n - i) < L
 ·rw [Nat.mod_eq_of_lt h] at e; omega
 rw [Nat.mod_eq_sub_mod (by omega), Nat.mod_eq_of_lt (by omega)] at e; omega
theorem QR.put {f n : Nat} {r : List D} {l : List Pk} (h : QR f n r l) (hn : n < r.length) (d : D) : QR f (n + 1) (r.set ((f + n) % r.length) d) (l ++ [pk d]) := by
 have hf : f < r.length := by rcases h.hf with hf | ⟨rfl, _⟩; exact hf; simp at hn
 have hL : (f + n) % r.length < r.length := Nat.mod_lt _ (by omega)
 refine ⟨by simp [h.hn], by simp; omega, .inl (by simpa using hf), by simpa using h.big, fun i hi => ?_⟩
 simp only [List.length_set]
 have hl := h.hn
 by_cases hin : i < l.length
 ·rw [getD_set_ne (mod_ne hn (by omega)), h.at_ i hin, List.getElem_append_left hin]
 have : i = n := by simp at hi; omega
 subst this
 rw [getD_set_eq hL]
 simp [h.hn]
theorem p_put2 {a b c x : Int} {f n : Nat} {r : List D} {l : List Pk} (h : QR f n r l) (hn : n ≤ 400000) :
  ∃ (f' : Nat) (r' : List D), Z10 a b c x (f : Int) (n : Int) r = some ((f' : Int), ((n + 1 : Nat) : Int), r') ∧ QR f' (n + 1) r' (l ++ [(a, b, c)]) := by
 have hle := h.le
 have hbig := h.big
 have hfl : f ≤ r.length := by rcases h.hf with hf | ⟨rfl, rfl⟩ <;> omega
 unfold Z10
 by_cases c1 : n = r.length
 ·rw [if_pos (by rw [pieq]; simp only [ofN, xlen]; omega)]
  obtain ⟨z, hz, hzl⟩ := p_grow2 (x := x) (f := f) (y := (n : Int)) (r := r) hfl (by omega)
  rw [hz]
  dsimp only [bindO]
  generalize hq : r.drop f ++ r.take f ++ z = q
  have hql : q.length = max 4 (2 * r.length) := by rw [← hq]; simp only [List.length_append, List.length_drop, List.length_take]; omega
  have hQ : QR 0 n q l := by
   refine ⟨h.hn, by omega, .inl (by omega), by omega, fun i hi => ?_⟩
   have hi' : i < r.length := by have := h.hn; omega
   have hf : f < r.length := by rcases h.hf with hf | ⟨rfl, _⟩; exact hf; simp at hi'
   rw [Nat.zero_add, Nat.mod_eq_of_lt (by omega), ← hq, rot_at hf hi']
   exact h.at_ i hi
  have ha := p_at (i := n) (f := 0) (x := x) (y := (n : Int)) (r := q) (by omega) (by omega) (by omega)
  rw [show ((0 : Nat) : Int) = 0 from rfl] at ha
  rw [ha]
  dsimp only [bindO]
  have hlt : (0 + n) % q.length < q.length := Nat.mod_lt _ (by omega)
  rw [if_pos (by simp only [ofN, xlen]; omega), pnext (by omega)]
  exact ⟨0, _, rfl, hQ.put (by omega) (D.l [D.i a, D.i b, D.i c])⟩
 rw [if_neg (by rw [pieq]; simp only [ofN, xlen]; omega), p_at (by omega) (by omega) (by omega)]
 dsimp only [bindO]
 have hlt : (f + n) % r.length < r.length := Nat.mod_lt _ (by omega)
 rw [if_pos (by simp only [ofN, xlen]; omega), pnext (by omega)]
 exact ⟨f, _, rfl, h.put (by omega) (D.l [D.i a, D.i b, D.i c])⟩
theorem p_push2 {a b c lim : Int} {f n : Nat} {r : List D} {l : List Pk} (h : QR f n r l) (hn : n ≤ 400000) :
  (lim ≤ (n : Int) ∧ Ze a b c lim (f : Int) (n : Int) r = some (false, (f : Int), (n : Int), r)) ∨
  ((n : Int) < lim ∧ ∃ (f' : Nat) (r' : List D), Ze a b c lim (f : Int) (n : Int) r = some (true, (f' : Int), ((n + 1 : Nat) : Int), r') ∧ QR f' (n + 1) r' (l ++ [(a, b, c)])) := by
 unfold Ze
 by_cases c1 : lim ≤ (n : Int)
 ·exact .inl ⟨c1, by rw [if_pos (by rw [pile]; exact c1)]⟩
 refine .inr ⟨by omega, ?_⟩
 rw [if_neg (by rw [pile]; exact c1)]
 obtain ⟨f', r', h1, h2⟩ := p_put2 (a := a) (b := b) (c := c) (x := lim) h hn
 rw [h1]
 exact ⟨f', r', rfl, h2⟩
def headOf : List Pk → Int × Int × Int × Bool
 | [] => (0, 0, 0, false)
 | p :: _ => (p.1, p.2.1, p.2.2, true)
theorem p_head {lim : Int} {f n : Nat} {r : List D} {l : List Pk} (h : QR f n r l) : Zz lim (f : Int) (n : Int) r = some (headOf l) := by
 unfold Zz Zj
 dsimp only [bindO]
 have hl := h.hn
 cases l with
 | nil =>
  have : n = 0 := by simpa using hl.symm
  subst this
  rw [if_pos (by rw [pieq]; rfl)]
  rfl
 | cons p l =>
  simp only [List.length_cons] at hl
  have hle := h.le
  have hf : f < r.length := by rcases h.hf with hf | ⟨rfl, _⟩; exact hf; simp at hle; omega
  rw [if_neg (by rw [pieq]; omega), if_pos (by simp only [ofN, xlen]; omega)]
  have := h.at_ 0 (by simp)
  rw [Nat.add_zero, Nat.mod_eq_of_lt hf] at this
  have e : pk (getD r (toN (f : Int))) = p := this
  rw [← e]
  rfl
theorem QR.pop {f n : Nat} {r : List D} {p : Pk} {l : List Pk} (h : QR f n r (p :: l)) : QR ((f + 1) % r.length) (n - 1) r l := by
 have hl := h.hn
 have hle := h.le
 simp only [List.length_cons] at hl
 refine ⟨by omega, by omega, .inl (Nat.mod_lt _ (by omega)), h.big, fun i hi => ?_⟩
 have := h.at_ (i + 1) (by simpa using hi)
 rw [Nat.mod_add_mod, show f + 1 + i = f + (i + 1) by omega, this]
 simp
theorem p_pop {lim : Int} {f n : Nat} {r : List D} {l : List Pk} (h : QR f n r l) (hn : n ≤ 400000) :
  (l = [] ∧ Zp lim (f : Int) (n : Int) r = some (0, 0, 0, false, (f : Int), (n : Int))) ∨
  ∃ p l' f', l = p :: l' ∧ Zp lim (f : Int) (n : Int) r = some (p.1, p.2.1, p.2.2, true, ((f' : Nat) : Int), ((n - 1 : Nat) : Int)) ∧ QR f' (n - 1) r l' := by
 unfold Zp
 rw [p_head h]
 cases l with
 | nil => exact .inl ⟨rfl, rfl⟩
 | cons p l =>
  refine .inr ⟨p, l, (f + 1) % r.length, rfl, ?_, h.pop⟩
  have hl := h.hn
  simp only [List.length_cons] at hl
  have hle := h.le
  have hbig := h.big
  have hf : f < r.length := by rcases h.hf with hf | ⟨rfl, _⟩; exact hf; simp at hle; omega
  dsimp only [bindO]
  have ha := p_at (i := 1) (f := f) (x := lim) (y := (n : Int)) (r := r) (by omega) (by omega) (by omega)
  rw [show ((1 : Nat) : Int) = 1 from rfl] at ha
  rw [show headOf (p :: l) = (p.1, p.2.1, p.2.2, true) from rfl]
  dsimp only [bindO]
  rw [if_pos rfl, ha]
  dsimp only [bindO]
  have : isub .i64 (n : Int) 1 = ((n - 1 : Nat) : Int) := by simp only [isub]; rw [pwi64 (by omega) (by omega)]; omega
  rw [this]
def sadd (a b : Int) : Int := if a + b < 18446744073709551616 then a + b else 18446744073709551615
theorem sadd_U {a b : Int} (ha : U a) (hb : U b) : U (sadd a b) := by
 have := ha.lo; have := hb.lo
 unfold sadd U
 split <;> omega
theorem p_add {x y : Int} (hx : U x) (hy : U y) : Zl x y = some (sadd x y) := by
 have := hx.lo; have := hx.hi; have := hy.lo; have := hy.hi
 unfold Zl sadd
 simp only [pile, iadd, pwu64]
 split <;> split <;> first | rfl | (congr 1; omega) | (exfalso; omega)
def turnF (t : Int) (n : Nat) : Int := if t + 1 < (n : Int) then t + 1 else 0
structure RingOk (q : List Int) (t : Int) (d : List Int) : Prop where
 t0 : 0 ≤ t
 tn : t < (q.length : Int)
 n : q.length ≤ 1000
 l : d.length = q.length
 q : ∀ x ∈ q, U x
 d : ∀ x ∈ d, U x
theorem p_on {q : List Int} {t : Int} {d l : List Int} {ad : Bool} (h : RingOk q t d) : Zg t ad q l = some (turnF t q.length) := by
 have := h.t0; have := h.tn; have := h.n
 unfold Zg turnF
 rw [if_pos (by simp only [ofN, xlen]; omega)]
 congr 1
 simp only [irem, iadd, ofN, xlen]
 rw [pwi64 (by omega) (by omega), Int.tmod_eq_emod_of_nonneg (by omega)]
 split
 ·exact Int.emod_eq_of_lt (by omega) (by omega)
 have : t + 1 = (q.length : Int) := by omega
 rw [this, Int.emod_self]
def visL (q : List Int) (t : Int) (ad : Bool) (d : List Int) : Int := if ad = false then sadd (d.getD t.toNat 0) (q.getD t.toNat 0) else d.getD t.toNat 0
def visF (q : List Int) (t : Int) (ad : Bool) (d : List Int) (sz : Int) (may : Bool) : Bool × Int × Bool × List Int :=
 if sz = 0 ∨ may = false then (false, turnF t q.length, false, d.set t.toNat 0)
 else if visL q t ad d < sz then (false, turnF t q.length, false, d.set t.toNat (visL q t ad d)) else (true, t, true, d.set t.toNat (visL q t ad d - sz))
theorem getD_U {l : List Int} {n : Nat} (h : ∀ x ∈ l, U x) (hn : n < l.length) : U (l.getD n 0) := by
 have : l.getD n 0 = l[n] := by simp [hn]
 rw [this]
 exact h _ (List.getElem_mem hn)
theorem RingOk.on {q : List Int} {t : Int} {d : List Int} (h : RingOk q t d) {x : Int} (hx : U x) : RingOk q t (d.set t.toNat x) :=
 ⟨h.t0, h.tn, h.n, by simpa using h.l, h.q, fun y hy => by
  rcases List.mem_or_eq_of_mem_set hy with hy | rfl
  ·exact h.d _ hy
  exact hx⟩
theorem turnF_lt {t : Int} {n : Nat} (h0 : 0 ≤ t) (h : t < (n : Int)) : 0 ≤ turnF t n ∧ turnF t n < (n : Int) := by
 unfold turnF; split <;> omega
theorem visL_U {q : List Int} {t : Int} {d : List Int} {ad : Bool} (h : RingOk q t d) : U (visL q t ad d) := by
 have := h.t0; have := h.tn; have := h.l
 unfold visL
 split
 ·exact sadd_U (getD_U h.d (by omega)) (getD_U h.q (by omega))
 exact getD_U h.d (by omega)
theorem p_visit {q : List Int} {t : Int} {d : List Int} {ad may : Bool} {sz : Int} (h : RingOk q t d) (hs : U sz) : Z15 sz may t ad q d = some (visF q t ad d sz may) := by
 have h0 := h.t0; have h1 := h.tn; have h2 := h.n; have h3 := h.l
 have hd : t.toNat < d.length := by omega
 have hq : t.toNat < q.length := by omega
 have hL := visL_U (ad := ad) h
 have z : U 0 := by unfold U; omega
 unfold Z15
 rw [if_pos (by simp only [ofN, xlen]; omega)]
 simp only [pieq, pilt, p_on (h.on z), p_on h]
 unfold visF
 by_cases e1 : sz = 0
 ·rw [if_pos e1, if_pos (.inl e1)]; simp [setI, toN, p_on (h.on z), bindO_some]
 rw [if_neg e1]
 cases may with
 | false => simp [setI, toN, p_on (h.on z), bindO_some]
 | true =>
  have e0 : ¬ (sz = 0 ∨ true = false) := by simp [e1]
  rw [if_neg e0]
  simp only [if_true]
  cases ad with
  | true =>
   have e2 : visL q t true d = getI d (toN t) := by unfold visL; rfl
   simp only [if_true]
   rw [e2]
   rw [e2] at hL
   have e5 : d.set t.toNat (getI d (toN t)) = d := by simp [getI, toN, hd]
   split
   ·rw [e5]; rfl
   simp only [setI, isub]
   rw [pu64 (by omega) (by have := hL.hi; have := hs.lo; omega)]
   rfl
  | false =>
   simp only [Bool.false_eq_true, if_false]
   have e2 : visL q t false d = sadd (getI d (toN t)) (getI q (toN t)) := by unfold visL; rfl
   rw [if_pos (by simp only [ofN, xlen]; omega)]
   have e6 : Zl (getI d (toN t)) (getI q (toN t)) = some (visL q t false d) := by rw [e2]; exact p_add (getD_U h.d hd) (getD_U h.q hq)
   have e3 : getI (setI d (toN t) (visL q t false d)) (toN t) = visL q t false d := by simp [getI, setI, toN, hd]
   have e4 := p_on (ad := true) (l := setI d (toN t) (visL q t false d)) (h.on hL)
   rw [e6]
   simp only [bindO_some, e3, e4]
   split
   ·rfl
   simp only [setI, isub]
   rw [pu64 (by omega) (by have := hL.hi; have := hs.lo; omega)]
   simp [toN]
def vSz (v : D) : Int := (v.fld 0).toI
def vMay (v : D) : Bool := (v.fld 1).toB
def nextGo (q : List Int) (L : List D) : Nat → Int → Bool → List Int → Int × Int × Bool × List Int
 | 0, t, ad, d => (-1, t, ad, d)
 | n + 1, t, ad, d => match visF q t ad d (vSz (L.getD t.toNat (.i 0))) (vMay (L.getD t.toNat (.i 0))) with
  | (true, t', ad', d') => (t', t', ad', d')
  | (false, t', ad', d') => nextGo q L n t' ad' d'
def nextF (q : List Int) (L : List D) (t : Int) (ad : Bool) (d : List Int) : Int × Int × Bool × List Int :=
 if L.length = q.length then if L.length = 0 then (-1, t, ad, d) else nextGo q L (L.length + 1) t ad d else (-1, t, ad, d)
theorem visF_ok {q : List Int} {t : Int} {d : List Int} {ad : Bool} {sz : Int} {may : Bool} (h : RingOk q t d) (hs : U sz) : RingOk q (visF q t ad d sz may).2.1 (visF q t ad d sz may).2.2.2 := by
 have hL := visL_U (ad := ad) h
 have hT := turnF_lt h.t0 h.tn
 have z : U 0 := by unfold U; omega
 have go : ∀ x, U x → RingOk q (turnF t q.length) (d.set t.toNat x) := fun x hx => ⟨hT.1, hT.2, h.n, (h.on hx).l, h.q, (h.on hx).d⟩
 unfold visF
 split
 ·exact go 0 z
 split
 ·exact go _ hL
 exact h.on (by have := hL.lo; have := hL.hi; have := hs.lo; unfold U; omega)
theorem p_next {q : List Int} {L : List D} {t : Int} {d : List Int} {ad : Bool} (h : L.length = q.length → L.length ≠ 0 → RingOk q t d) (hv : ∀ x ∈ L, U (vSz x)) : Zv L t ad q d = some (nextF q L t ad d) := by
 unfold Zv nextF
 simp only [pieq, ofN, xlen]
 by_cases e1 : L.length = q.length
 ·rw [if_pos (by omega), if_pos e1]
  by_cases e2 : L.length = 0
  ·rw [if_pos (by omega), if_pos e2]
  rw [if_neg (by omega), if_neg e2]
  have key : ∀ (n i : Nat) (t : Int) (ad : Bool) (d : List Int), RingOk q t d → i + n = L.length + 1 → iter (Z2n L q) ((i : Int), t, ad, d) = some (nextGo q L n t ad d) := by
   intro n
   induction n with
   | zero =>
    intro i t ad d ok hi
    apply iter_inr
    unfold Z2n
    have := ok.n
    have e : iadd .i64 (ofN (xlen L)) 1 = ((L.length + 1 : Nat) : Int) := pnext (n := L.length) (by omega)
    dsimp only [bindO]
    rw [if_neg (by rw [pilt, e]; omega)]
    rfl
   | succ n ih =>
    intro i t ad d ok hi
    have h0 := ok.t0; have h1 := ok.tn; have h2 := ok.n
    have e : iadd .i64 (ofN (xlen L)) 1 = ((L.length + 1 : Nat) : Int) := pnext (n := L.length) (by omega)
    have hl : t.toNat < L.length := by omega
    have hU : U (vSz (L.getD t.toNat (.i 0))) := by
     have : L.getD t.toNat (.i 0) = L[t.toNat] := by simp [hl]
     rw [this]; exact hv _ (List.getElem_mem hl)
    have hB : Z2n L q ((i : Int), t, ad, d) = match visF q t ad d (vSz (L.getD t.toNat (.i 0))) (vMay (L.getD t.toNat (.i 0))) with
      | (true, t', ad', d') => some (.inr (t', t', ad', d'))
      | (false, t', ad', d') => some (.inl (((i + 1 : Nat) : Int), t', ad', d')) := by
     unfold Z2n
     dsimp only [bindO]
     rw [if_pos (by rw [pilt, e]; omega), if_pos (by simp only [ofN, xlen]; omega)]
     have : Z15 (D.toI (D.fld (getD L (toN t)) 0)) (D.toB (D.fld (getD L (toN t)) 1)) t ad q d = some (visF q t ad d (vSz (L.getD t.toNat (.i 0))) (vMay (L.getD t.toNat (.i 0)))) := p_visit ok hU
     rw [this]
     rcases visF q t ad d (vSz (L.getD t.toNat (.i 0))) (vMay (L.getD t.toNat (.i 0))) with ⟨b, t', ad', d'⟩
     cases b with
     | true => rfl
     | false => simp only [Bool.false_eq_true, if_false, pnext (show i < 9223372036854775807 by omega)]
    have hok := visF_ok (ad := ad) (may := vMay (L.getD t.toNat (.i 0))) ok hU
    unfold nextGo
    revert hB hok
    rcases visF q t ad d (vSz (L.getD t.toNat (.i 0))) (vMay (L.getD t.toNat (.i 0))) with ⟨b, t', ad', d'⟩
    cases b with
    | true => intro hB hok; exact iter_inr hB
    | false => intro hB hok; rw [iter_inl hB]; exact ih (i + 1) t' ad' d' hok (by omega)
  exact key (L.length + 1) 0 t ad d (h e1 e2) (by omega)
 rw [if_neg (by omega), if_neg e1]
theorem p_copied {t : Int} {ad : Bool} {l : List Int} (h : l.length ≤ 1000) : Z16 t ad l = some l := by
 unfold Z16
 rw [if_pos (by simp only [ofN, xlen]; refine ⟨by omega, by omega, by simp; omega, by omega⟩)]
 congr 1
 exact pcopy l 0
theorem p_clone {l : List Int} (h : l.length ≤ 1000) : cloneU64 l = some l := by
 unfold cloneU64
 rw [if_pos (by simp only [xlen]; simp; omega)]
theorem p_new {l : List Int} (h : l.length ≤ 1000) : Zo l = some (l, List.replicate l.length 0) := by
 unfold Zo
 rw [p_clone h]
 dsimp only [bindO]
 rw [if_pos (by simp only [ofN, xlen]; refine ⟨by omega, by omega, by simp; omega, by omega⟩)]
 rfl
theorem p_state {t : Int} {ad : Bool} {q l : List Int} (h : l.length ≤ 1000) : Z24 t ad q l = some l := by
 unfold Z24
 rw [p_copied h]
 rfl
def smul (a b : Int) : Int := if a * b < 18446744073709551616 then a * b else 18446744073709551615
theorem smul_U {a b : Int} (ha : U a) (hb : U b) : U (smul a b) := by
 have := Int.mul_nonneg ha.lo hb.lo
 unfold smul U
 split <;> omega
theorem p_mul {x y : Int} (hx : U x) (hy : U y) : Z1g x y = some (smul x y) := by
 have h0 := hx.lo; have h1 := hx.hi; have h2 := hy.lo; have h3 := hy.hi
 have hm := Int.mul_nonneg h0 h2
 unfold Z1g smul
 simp only [pilt, imul, pwu64]
 by_cases c : 0 < x
 ·rw [if_pos c, if_pos (by omega)]
  have e : iquo .u64 (18446744073709551615 : Int) x = 18446744073709551615 / x := by
   simp only [iquo]
   rw [Int.tdiv_eq_ediv_of_nonneg (by omega)]
   have q0 : 0 ≤ (18446744073709551615 : Int) / x := Int.ediv_nonneg (by omega) h0
   have q1 : (18446744073709551615 : Int) / x ≤ 18446744073709551615 := Int.ediv_le_self _ (by omega)
   exact pu64 q0 (by omega)
  rw [e]
  have k : (18446744073709551615 / x < y) ↔ (18446744073709551615 < y * x) := Int.ediv_lt_iff_lt_mul c
  rw [Int.mul_comm y x] at k
  by_cases d : x * y < 18446744073709551616
  ·rw [if_neg (by rw [k]; omega), if_pos d]; congr 1; omega
  rw [if_pos (by rw [k]; omega), if_neg d]
 have : x = 0 := by omega
 subst this
 rw [if_neg c, Int.zero_mul, if_pos (by omega)]; rfl
def fillA (x by_ n most : Int) : Int := max x (min most (sadd x (smul by_ n)))
theorem p_fill {x y n m : Int} (hx : U x) (hy : U y) (hn : U n) : Z20 x y n m = some (fillA x y n m) := by
 unfold Z20
 rw [p_mul hy hn, bindO_some]
 dsimp only
 rw [p_add hx (smul_U hy hn), bindO_some]
 rw [pimax, pimin]
 rfl
theorem fillA_U {x y n m : Int} (hx : U x) (hy : U y) (hn : U n) (hm : U m) : U (fillA x y n m) := by
 have h := sadd_U hx (smul_U hy hn)
 have := hx.lo; have := hx.hi; have := hm.lo; have := hm.hi; have := h.lo; have := h.hi
 unfold fillA U
 omega
structure A where
 key : List UInt8
 q : Int
 r : Int
 b : Int
 lim : Int
 sh : Bool
 br : Int
 bb : Int
 bt : Int
 ql : Int
 l : List Pk
deriving Inhabited
def encA (a : A) (ring : List D) (f : Nat) : D :=
 .l [.l [.s a.key, .i a.q, .i a.r, .i a.b, .i a.lim, .b a.sh], .l [.i a.br, .i a.bb, .i a.bt], .l [.i a.ql, .l ring, .i (f : Int), .i (a.l.length : Int)]]
def RC (d : D) (a : A) : Prop := ∃ ring f, d = encA a ring f ∧ QR f a.l.length ring a.l
structure AOk (a : A) : Prop where
 q : U a.q
 br : U a.br
 bb : U a.bb
 bt : U a.bt
 n : a.l.length ≤ 100000
 sz : ∀ p ∈ a.l, 1 ≤ p.2.2 ∧ p.2.2 ≤ 1500
structure Rep (r : List D) (n : Nat) (g : Nat → A) : Prop where
 len : r.length = n
 at_ : ∀ i, i < n → RC (r.getD i (.i 0)) (g i)
theorem setD_same {r : List D} {i : Nat} {d : D} (h : getD r i = d) : setD r i d = r := by
 subst h
 unfold setD getD
 apply List.ext_getElem (by simp)
 intro j h1 h2
 rw [List.getElem_set]
 split
 ·rename_i e; subst e; simp [List.getD_eq_getElem?_getD, h2]
 rfl
theorem Rep.set {r : List D} {n : Nat} {g g' : Nat → A} {i : Nat} {d : D} (h : Rep r n g) (hi : i < n) (hd : RC d (g' i)) (ho : ∀ j, j < n → j ≠ i → g' j = g j) : Rep (setD r i d) n g' := by
 refine ⟨by simp [setD, h.len], fun j hj => ?_⟩
 by_cases e : j = i
 ·subst e
  unfold setD
  rw [getD_set_eq (by rw [h.len]; exact hj)]
  exact hd
 unfold setD
 rw [getD_set_ne (Ne.symm e), ho j hj e]
 exact h.at_ j hj
theorem Rep.congr {r : List D} {n : Nat} {g g' : Nat → A} (h : Rep r n g) (ho : ∀ j, j < n → g' j = g j) : Rep r n g' :=
 ⟨h.len, fun j hj => by rw [ho j hj]; exact h.at_ j hj⟩
def clsIn (d : D) (x : Int) : Bool := decide ((d.fld 0).toI ≤ x) && decide (x ≤ (d.fld 1).toI)
def clsA (rules : List D) (df x : Int) : Int := match rules.find? fun d => clsIn d x with
 | some d => (d.fld 2).toI
 | none => df
theorem p_clsIn {a b c x : Int} : Z1n a b c x = some (decide (a ≤ x) && decide (x ≤ b)) := by
 unfold Z1n
 simp only [pile]
 by_cases h : a ≤ x
 ·rw [if_pos h]; simp [h, ile]
 rw [if_neg h]; simp [h]
theorem p_index {r : List D} {x : Int} (hr : r.length ≤ 1000000) : Zq r x = some (match r.findIdx? fun d => clsIn d x with | some i => (i : Int) | none => -1) := by
 unfold Zq
 have key : ∀ (m i : Nat), i + m = r.length → (∀ j, j < i → (h : j < r.length) → clsIn r[j] x = false) → iter (Z2k r x) (i : Int) = some (match r.findIdx? fun d => clsIn d x with | some i => (i : Int) | none => -1) := by
  intro m
  induction m with
  | zero =>
   intro i hi hp
   apply iter_inr
   unfold Z2k
   dsimp only
   rw [if_neg (by rw [pilt]; simp only [ofN, xlen]; omega)]
   have : r.findIdx? (fun d => clsIn d x) = none := by
    rw [List.findIdx?_eq_none_iff]
    intro d hd
    obtain ⟨j, hj, rfl⟩ := List.getElem_of_mem hd
    exact hp j (by omega) hj
   rw [this]
  | succ m ih =>
   intro i hi hp
   have hl : i < r.length := by omega
   by_cases c : clsIn r[i] x = true
   ·apply iter_inr
    unfold Z2k
    dsimp only
    rw [if_pos (by rw [pilt]; simp only [ofN, xlen]; omega), if_pos (by simp only [ofN, xlen]; omega), p_clsIn, bindO_some, ptoN, pgetD hl]
    have c' : (decide ((r[i].fld 0).toI ≤ x) && decide (x ≤ (r[i].fld 1).toI)) = true := c
    rw [if_pos c']
    have : r.findIdx? (fun d => clsIn d x) = some i := by
     rw [List.findIdx?_eq_some_iff_getElem]
     exact ⟨hl, c, fun j hj => by rw [hp j hj (by omega)]; simp⟩
    rw [this]
   rw [iter_inl (y := ((i + 1 : Nat) : Int))]
   ·exact ih (i + 1) (by omega) fun j hj h => by
     by_cases e : j = i
     ·subst e; simpa using c
     exact hp j (by omega) h
   unfold Z2k
   dsimp only
   rw [if_pos (by rw [pilt]; simp only [ofN, xlen]; omega), if_pos (by simp only [ofN, xlen]; omega), p_clsIn, bindO_some, ptoN, pgetD hl]
   have c' : ¬ (decide ((r[i].fld 0).toI ≤ x) && decide (x ≤ (r[i].fld 1).toI)) = true := c
   rw [if_neg c', pnext (by omega)]
 exact key r.length 0 (by omega) fun j hj => by omega
theorem p_cls {r : List D} {df x : Int} (hr : r.length ≤ 1000000) : Z12 df x r = some (clsA r df x) := by
 unfold Z12
 rw [p_index hr, bindO_some]
 unfold clsA
 cases h : r.findIdx? (fun d => clsIn d x) with
 | none =>
  have : r.find? (fun d => clsIn d x) = none := by
   rw [List.findIdx?_eq_none_iff] at h
   rw [List.find?_eq_none]
   intro d hd; rw [h d hd]; simp
  rw [this]
  dsimp only
  rw [if_pos (by rw [pilt]; omega)]
 | some i =>
  obtain ⟨hi, h1, h2⟩ := List.findIdx?_eq_some_iff_getElem.1 h
  have : r.find? (fun d => clsIn d x) = some r[i] := by
   rw [List.find?_eq_some_iff_getElem]
   exact ⟨h1, i, hi, rfl, fun j hj => by have := h2 j hj; simpa using this⟩
  rw [this]
  dsimp only
  rw [if_neg (by rw [pilt]; omega), if_pos (by simp only [ofN, xlen]; omega), ptoN, pgetD hi]
theorem clsA_ok {r : List D} {df x n : Int} (h0 : 0 ≤ df ∧ df < n) (hr : ∀ d ∈ r, 0 ≤ (d.fld 2).toI ∧ (d.fld 2).toI < n) : 0 ≤ clsA r df x ∧ clsA r df x < n := by
 unfold clsA
 cases h : r.find? (fun d => clsIn d x) with
 | none => exact h0
 | some d => exact hr d (List.mem_of_find?_eq_some h)
def badP (flow size : Int) : Bool := decide (flow < 0) || decide (65535 < flow) || decide (size < 1) || decide (1500 < size)
def putA (a : A) (p : Pk) : A := { a with l := a.l ++ [p] }
def updA (g : Nat → A) (i : Nat) (a : A) : Nat → A := fun j => if j = i then a else g j
def arrS (g : Nat → A) (seq : Int) (c : Nat) (flow size : Int) : Pk × Int × Int × (Nat → A) :=
 if badP flow size = true then ((0, 0, 0), 1, seq, g)
 else if (g c).ql ≤ ((g c).l.length : Int) then ((0, 0, 0), 35, seq, g)
 else ((seq + 1, flow, size), 0, seq + 1, updA g c (putA (g c) (seq + 1, flow, size)))
theorem p_arrive {flow size df seq x5 : Int} {s : List UInt8} {b1 b2 : Bool} {r1 r2 r : List D} {n : Nat} {l1 l2 : List Int} {g : Nat → A}
  (hR : Rep r n g) (hr : r2.length ≤ 1000000) (hc : 0 ≤ clsA r2 df flow ∧ clsA r2 df flow < (n : Int)) (hg : ∀ i, i < n → AOk (g i)) (hs : 0 ≤ seq ∧ seq ≤ 1000000) :
  ∃ r', Z3 flow size s b1 df seq r1 r2 n x5 b2 r l1 l2 = some ((arrS g seq (clsA r2 df flow).toNat flow size).1.1, (arrS g seq (clsA r2 df flow).toNat flow size).1.2.1, (arrS g seq (clsA r2 df flow).toNat flow size).1.2.2,
   (arrS g seq (clsA r2 df flow).toNat flow size).2.1, (arrS g seq (clsA r2 df flow).toNat flow size).2.2.1, r') ∧ Rep r' n (arrS g seq (clsA r2 df flow).toNat flow size).2.2.2 := by
 unfold Z3 arrS badP
 simp only [pilt]
 by_cases c1 : flow < 0
 ·rw [if_pos c1]; simp only [c1, decide_true, Bool.true_or, if_true]; exact ⟨r, rfl, hR⟩
 rw [if_neg c1]
 by_cases c2 : 65535 < flow
 ·rw [if_pos c2]; simp only [c2, decide_true, Bool.or_true, Bool.true_or, if_true]; exact ⟨r, rfl, hR⟩
 rw [if_neg c2]
 by_cases c3 : size < 1
 ·rw [if_pos c3]; simp only [c3, decide_true, Bool.or_true, Bool.true_or, if_true]; exact ⟨r, rfl, hR⟩
 rw [if_neg c3]
 by_cases c4 : 1500 < size
 ·rw [if_pos c4]; simp only [c4, decide_true, Bool.or_true, Bool.true_or, if_true]; exact ⟨r, rfl, hR⟩
 rw [if_neg c4]
 simp only [c1, c2, c3, c4, decide_false, Bool.or_false, Bool.false_eq_true, if_false]
 rw [p_cls hr, bindO_some]
 obtain ⟨k, hk⟩ : ∃ k : Nat, clsA r2 df flow = (k : Int) := ⟨(clsA r2 df flow).toNat, by omega⟩
 rw [hk] at hc ⊢
 have hkn : k < n := by omega
 rw [if_pos (by simp only [ofN]; omega), ptoN]
 simp only [Int.toNat_natCast]
 obtain ⟨ring, f, he, hq⟩ := hR.at_ k hkn
 have he' : getD r k = encA (g k) ring f := he
 rw [he']
 have e1 : iadd .u64 seq 1 = seq + 1 := by simp only [iadd]; exact pu64 (by omega) (by omega)
 rw [e1]
 have hn := (hg k hkn).n
 rcases p_push2 (a := seq + 1) (b := flow) (c := size) (lim := (g k).ql) hq (by omega) with ⟨h1, h2⟩ | ⟨h1, f', r', h2, h3⟩
 ·rw [if_pos h1]
  show ∃ r', bindO (Ze (seq + 1) flow size (g k).ql (f : Int) ((g k).l.length : Int) ring) _ = _ ∧ _
  rw [h2, bindO_some]
  dsimp only
  rw [if_neg (by simp)]
  refine ⟨_, rfl, ?_⟩
  exact hR.set hkn ⟨ring, f, rfl, hq⟩ fun j _ _ => rfl
 rw [if_neg (by omega)]
 show ∃ r', bindO (Ze (seq + 1) flow size (g k).ql (f : Int) ((g k).l.length : Int) ring) _ = _ ∧ _
 rw [h2, bindO_some]
 dsimp only
 rw [if_pos rfl]
 refine ⟨_, rfl, ?_⟩
 refine hR.set hkn (d := D.l [_, _, _]) ⟨r', f', ?_, ?_⟩ fun j _ hj => by simp [updA, hj]
 ·simp only [updA, if_true, encA, putA, List.length_append, List.length_cons, List.length_nil]
  rfl
 simpa [updA, putA] using h3
def tickA (x : Int) (a : A) : A := { a with bt := fillA a.bt a.br x a.bb }
theorem tickA_ok {x : Int} {a : A} (hx : U x) (h : AOk a) : AOk (tickA x a) := ⟨h.q, h.br, h.bb, fillA_U h.bt h.br hx h.bb, h.n, h.sz⟩
theorem p_tick {x df seq x5 : Int} {s : List UInt8} {b1 b2 : Bool} {r1 r2 r : List D} {n : Nat} {l1 l2 : List Int} {g : Nat → A} (hR : Rep r n g) (hx : U x) (hn : n ≤ 1000000) (hg : ∀ i, i < n → AOk (g i)) :
  ∃ r', Z17 x s b1 df seq r1 r2 n x5 b2 r l1 l2 = some r' ∧ Rep r' n fun i => tickA x (g i) := by
 unfold Z17
 have key : ∀ (m i : Nat) (r4 : List D), i + m = n → Rep r4 n (fun j => if j < i then tickA x (g j) else g j) → ∃ r', iter (Z31 n x) ((i : Int), r4) = some r' ∧ Rep r' n fun i => tickA x (g i) := by
  intro m
  induction m with
  | zero =>
   intro i r4 hi h4
   refine ⟨r4, ?_, h4.congr fun j hj => by simp [show j < i by omega]⟩
   apply iter_inr
   unfold Z31
   dsimp only
   rw [if_neg (by rw [pilt]; simp only [ofN]; omega)]
  | succ m ih =>
   intro i r4 hi h4
   have hin : i < n := by omega
   obtain ⟨ring, f, he, hq⟩ := h4.at_ i hin
   simp only [Nat.lt_irrefl, if_false] at he hq
   have he' : getD r4 i = encA (g i) ring f := he
   have hA := hg i hin
   have ht : Zs (g i).br (g i).bb (g i).bt x = some (fillA (g i).bt (g i).br x (g i).bb) := by
    unfold Zs
    rw [p_fill hA.bt hA.br hx, bindO_some]
   obtain ⟨r', h1, h2⟩ := ih (i + 1) (setD r4 i (encA (tickA x (g i)) ring f)) (by omega) (h4.set hin ⟨ring, f, by simp, by simpa [tickA] using hq⟩ fun j _ hj => by
    by_cases c : j < i
    ·simp [c, show j < i + 1 by omega]
    simp [c, show ¬ j < i + 1 by omega])
   refine ⟨r', ?_, h2⟩
   rw [← h1]
   apply iter_inl
   unfold Z31
   dsimp only
   rw [if_pos (by rw [pilt]; simp only [ofN]; omega), if_pos (by simp only [ofN]; omega), ptoN, he']
   show bindO (Zs (g i).br (g i).bb (g i).bt x) _ = _
   rw [ht, bindO_some, pnext (by omega)]
   rfl
 exact key n 0 r (by omega) (hR.congr fun j _ => by simp)
def viewA (up : Bool) (a : A) : Int × Bool := match a.l with
 | [] => (0, false)
 | p :: _ => (p.2.2, up && (!a.sh || decide (p.2.2 ≤ a.bt)))
def vD (v : Int × Bool) : D := .l [.i v.1, .b v.2]
theorem viewA_U {up : Bool} {a : A} (h : AOk a) : U (viewA up a).1 := by
 unfold viewA U
 cases hl : a.l with
 | nil => simp
 | cons p l => have := h.sz p (by rw [hl]; simp); simp; omega
theorem p_view {s s2 : List UInt8} {up b3 : Bool} {df seq x3 x4 x5 x6 x7 x8 x10 : Int} {r1 r2 r3 ring : List D} {n n2 f : Nat} {l1 l2 : List Int} {a : A} (hA : AOk a) (hq : QR f a.l.length ring a.l) :
  Z1l s up df seq s2 x3 x4 x5 x6 a.sh x7 x8 a.bt r1 r2 n x10 b3 a.ql (f : Int) (a.l.length : Int) r3 n2 l1 l2 ring = some (viewA up a) := by
 unfold Z1l viewA
 rw [p_head hq, bindO_some]
 cases hl : a.l with
 | nil => rfl
 | cons p l =>
  have hp := hA.sz p (by rw [hl]; simp)
  simp only [headOf, if_true]
  have e : iconv .u64 p.2.2 = p.2.2 := by simp only [iconv]; exact pu64 (by omega) (by omega)
  rw [e]
  cases up <;> cases a.sh <;> simp [ile]
def viewsS (up : Bool) (n : Nat) (g : Nat → A) : List D := (List.range n).map fun i => vD (viewA up (g i))
def popA (a : A) (p : Pk) (l : List Pk) : A := { a with l := l, bt := if a.sh = true then (if a.bt < p.2.2 then a.bt else a.bt - p.2.2) else a.bt }
def goS (g : Nat → A) (i : Nat) : Pk × (Nat → A) := match (g i).l with
 | [] => ((0, 0, 0), g)
 | p :: l => (p, updA g i (popA (g i) p l))
def nextS (up : Bool) (n : Nat) (g : Nat → A) (q : List Int) (t : Int) (ad : Bool) (d : List Int) : (Pk × List UInt8 × Bool) × (Int × Bool × List Int) × (Nat → A) :=
 let v := nextF q (viewsS up n g) t ad d
 if v.1 < 0 then (((0, 0, 0), [], false), v.2, g)
 else (((goS g v.1.toNat).1, (g v.1.toNat).key, true), v.2, (goS g v.1.toNat).2)
theorem visF_go {q : List Int} {t : Int} {d : List Int} {ad : Bool} {sz : Int} {may : Bool} (h : (visF q t ad d sz may).1 = true) : sz ≠ 0 ∧ may = true ∧ (visF q t ad d sz may).2.1 = t := by
 unfold visF at h ⊢
 by_cases c : sz = 0 ∨ may = false
 ·rw [if_pos c] at h; cases h
 rw [if_neg c] at h ⊢
 by_cases c2 : visL q t ad d < sz
 ·rw [if_pos c2] at h; cases h
 rw [if_neg c2]
 refine ⟨fun e => c (.inl e), ?_, rfl⟩
 cases may with
 | true => rfl
 | false => exact absurd (.inr rfl) c
theorem nextGo_go {q : List Int} {L : List D} (hv : ∀ x ∈ L, U (vSz x)) (hL : L.length = q.length) : ∀ (n : Nat) (t : Int) (ad : Bool) (d : List Int), RingOk q t d →
  RingOk q (nextGo q L n t ad d).2.1 (nextGo q L n t ad d).2.2.2 ∧ ((nextGo q L n t ad d).1 = -1 ∨ (0 ≤ (nextGo q L n t ad d).1 ∧ (nextGo q L n t ad d).1 < q.length ∧ vSz (L.getD (nextGo q L n t ad d).1.toNat (.i 0)) ≠ 0 ∧ vMay (L.getD (nextGo q L n t ad d).1.toNat (.i 0)) = true))
 | 0, t, ad, d, h => ⟨h, .inl rfl⟩
 | n + 1, t, ad, d, h => by
  have h0 := h.t0; have h1 := h.tn
  have hl : t.toNat < L.length := by omega
  have hU : U (vSz (L.getD t.toNat (.i 0))) := by
   have : L.getD t.toNat (.i 0) = L[t.toNat] := by simp [hl]
   rw [this]; exact hv _ (List.getElem_mem hl)
  have hok := visF_ok (ad := ad) (may := vMay (L.getD t.toNat (.i 0))) h hU
  have hgo := visF_go (q := q) (t := t) (ad := ad) (d := d) (sz := vSz (L.getD t.toNat (.i 0))) (may := vMay (L.getD t.toNat (.i 0)))
  unfold nextGo
  revert hok hgo
  rcases visF q t ad d (vSz (L.getD t.toNat (.i 0))) (vMay (L.getD t.toNat (.i 0))) with ⟨b, t', ad', d'⟩
  cases b with
  | true =>
   intro hok hgo
   obtain ⟨g1, g2, g3⟩ := hgo rfl
   dsimp only at g3 ⊢
   subst g3
   exact ⟨hok, .inr ⟨h0, h1, g1, g2⟩⟩
  | false =>
   intro hok _
   exact nextGo_go hv hL n t' ad' d' hok
theorem viewsS_len {up : Bool} {n : Nat} {g : Nat → A} : (viewsS up n g).length = n := by simp [viewsS]
theorem viewsS_at {up : Bool} {n i : Nat} {g : Nat → A} (h : i < n) : (viewsS up n g).getD i (.i 0) = vD (viewA up (g i)) := by simp [viewsS, h]
theorem viewsS_U {up : Bool} {n : Nat} {g : Nat → A} (hg : ∀ i, i < n → AOk (g i)) : ∀ x ∈ viewsS up n g, U (vSz x) := by
 intro x hx
 obtain ⟨i, hi, rfl⟩ := List.mem_map.1 hx
 exact viewA_U (hg i (by simpa using hi))
theorem next_go {up : Bool} {n : Nat} {g : Nat → A} {q : List Int} {t : Int} {ad : Bool} {d : List Int} (hg : ∀ i, i < n → AOk (g i)) (hq : q.length = n) (h : RingOk q t d) :
  RingOk q (nextF q (viewsS up n g) t ad d).2.1 (nextF q (viewsS up n g) t ad d).2.2.2 ∧ ((nextF q (viewsS up n g) t ad d).1 = -1 ∨ ∃ (i : Nat) (p : Pk) (l : List Pk), (nextF q (viewsS up n g) t ad d).1 = (i : Int) ∧ i < n ∧ (g i).l = p :: l ∧ up = true ∧ ((g i).sh = true → p.2.2 ≤ (g i).bt)) := by
 have hv := viewsS_U (up := up) hg
 unfold nextF
 rw [if_pos (by rw [viewsS_len, hq])]
 have h0 := h.t0; have h1 := h.tn
 rw [if_neg (by rw [viewsS_len]; omega)]
 obtain ⟨h2, h3⟩ := nextGo_go hv (by rw [viewsS_len, hq]) ((viewsS up n g).length + 1) t ad d h
 refine ⟨h2, h3.imp id ?_⟩
 rintro ⟨h4, h5, h6, h7⟩
 generalize (nextGo q (viewsS up n g) ((viewsS up n g).length + 1) t ad d).1 = y at *
 obtain ⟨i, rfl⟩ := Int.eq_ofNat_of_zero_le h4
 have hin : i < n := by omega
 rw [Int.toNat_natCast, viewsS_at hin] at h6 h7
 cases hl : (g i).l with
 | nil => exact absurd (by simp [viewA, hl, vD, vSz, D.fld, D.toL, D.toI]) h6
 | cons p l =>
  have h8 : (up && (!(g i).sh || decide (p.2.2 ≤ (g i).bt))) = true := by
   have : vMay (vD (viewA up (g i))) = (viewA up (g i)).2 := rfl
   rw [this] at h7
   simpa [viewA, hl] using h7
  simp only [Bool.and_eq_true, Bool.or_eq_true, Bool.not_eq_true', decide_eq_true_eq] at h8
  refine ⟨i, p, l, rfl, hin, hl, h8.1, fun hs => ?_⟩
  rcases h8.2 with h9 | h9
  ·rw [hs] at h9; cases h9
  exact h9
theorem p_nextS {s : List UInt8} {up ad : Bool} {df seq t : Int} {r1 r2 r : List D} {n : Nat} {q d : List Int} {g : Nat → A} (hR : Rep r n g) (hn : n ≤ 1000) (hg : ∀ i, i < n → AOk (g i)) (hq : q.length = n) (h : RingOk q t d) :
  ∃ r', Z5 s up df seq r1 r2 n t ad r q d = some ((nextS up n g q t ad d).1.1.1, (nextS up n g q t ad d).1.1.2.1, (nextS up n g q t ad d).1.1.2.2, (nextS up n g q t ad d).1.2.1, (nextS up n g q t ad d).1.2.2,
   (nextS up n g q t ad d).2.1.1, (nextS up n g q t ad d).2.1.2.1, (nextS up n g q t ad d).2.1.2.2, r') ∧ Rep r' n (nextS up n g q t ad d).2.2 := by
 unfold Z5
 have key : ∀ (m i : Nat), i + m = n → iter (Zk n s up df seq r1 r2 t ad q d) ((i : Int), viewsS up i g, r) = iter (Zk n s up df seq r1 r2 t ad q d) ((n : Int), viewsS up n g, r) := by
  intro m
  induction m with
  | zero =>
   intro i hi
   have : i = n := by omega
   subst this
   rfl
  | succ m ih =>
   intro i hi
   have hin : i < n := by omega
   rw [← ih (i + 1) (by omega)]
   apply iter_inl
   obtain ⟨ring, f, he, hqr⟩ := hR.at_ i hin
   have he' : getD r i = encA (g i) ring f := he
   unfold Zk
   dsimp only
   rw [if_pos (by rw [pilt]; simp only [ofN]; omega), if_pos (by simp only [ofN]; omega), ptoN, he']
   have hv := p_view (s := s) (s2 := (g i).key) (up := up) (b3 := ad) (df := df) (seq := seq) (x3 := (g i).q) (x4 := (g i).r) (x5 := (g i).b) (x6 := (g i).lim) (x7 := (g i).br) (x8 := (g i).bb) (x10 := t) (r1 := r1) (r2 := r2) (r3 := r) (n := n) (n2 := i) (l1 := q) (l2 := d) (hg i hin) hqr
   refine (congrArg (fun o => bindO o _) hv).trans ?_
   rw [bindO_some]
   have hb : viewsS up (i + 1) g = viewsS up i g ++ [vD (viewA up (g i))] := by simp [viewsS, List.range_succ]
   have hl : (viewsS up i g).length = i := viewsS_len
   rw [hb]
   generalize viewsS up i g = V at *
   generalize hw : viewA up (g i) = w
   obtain ⟨w1, w2⟩ := w
   dsimp only
   rw [if_pos (by simp only [xlen, List.length_cons, List.length_nil]; omega), pnext (by omega)]
   have hset : setD r i (encA (g i) ring f) = r := setD_same he'
   exact congrArg (fun z => some (Sum.inl (((i + 1 : Nat) : Int), V ++ [vD (w1, w2)], z))) hset
 have k0 := key n 0 (by omega)
 rw [show viewsS up 0 g = [] from rfl] at k0
 have k1 : iter (Zk n s up df seq r1 r2 t ad q d) ((0 : Int), ([] : List D), r) = iter (Zk n s up df seq r1 r2 t ad q d) ((n : Int), viewsS up n g, r) := k0
 rw [k1]
 obtain ⟨hok, hgo⟩ := next_go (up := up) (ad := ad) hg hq h
 have hF : Zv (viewsS up n g) t ad q d = some (nextF q (viewsS up n g) t ad d) := p_next (fun _ _ => h) (viewsS_U hg)
 unfold nextS
 generalize hNF : nextF q (viewsS up n g) t ad d = v at *
 obtain ⟨v1, v2, v3, v4⟩ := v
 dsimp only at hok hgo ⊢
 have main : ∃ r', Zk n s up df seq r1 r2 t ad q d ((n : Int), viewsS up n g, r) = some (.inr ((if v1 < 0 then (((0, 0, 0), [], false), (v2, v3, v4), g) else (((goS g v1.toNat).1, (g v1.toNat).key, true), (v2, v3, v4), (goS g v1.toNat).2)).1.1.1, (if v1 < 0 then ((((0, 0, 0) : Pk), ([] : List UInt8), false), (v2, v3, v4), g) else (((goS g v1.toNat).1, (g v1.toNat).key, true), (v2, v3, v4), (goS g v1.toNat).2)).1.1.2.1, (if v1 < 0 then ((((0, 0, 0) : Pk), ([] : List UInt8), false), (v2, v3, v4), g) else (((goS g v1.toNat).1, (g v1.toNat).key, true), (v2, v3, v4), (goS g v1.toNat).2)).1.1.2.2, (if v1 < 0 then ((((0, 0, 0) : Pk), ([] : List UInt8), false), (v2, v3, v4), g) else (((goS g v1.toNat).1, (g v1.toNat).key, true), (v2, v3, v4), (goS g v1.toNat).2)).1.2.1, (if v1 < 0 then ((((0, 0, 0) : Pk), ([] : List UInt8), false), (v2, v3, v4), g) else (((goS g v1.toNat).1, (g v1.toNat).key, true), (v2, v3, v4), (goS g v1.toNat).2)).1.2.2, v2, v3, v4, r')) ∧ Rep r' n (if v1 < 0 then g else (goS g v1.toNat).2) := by
  unfold Zk
  dsimp only
  rw [if_neg (by rw [pilt]; simp only [ofN]; omega), hF, bindO_some]
  dsimp only
  rcases hgo with rfl | ⟨i, p, l, rfl, hin, hl, hup, hsh⟩
  ·exact ⟨r, by rw [if_pos (by rw [pilt]; omega)]; rfl, hR⟩
  have hneg : ¬ ((i : Int) < 0) := by omega
  simp only [if_neg hneg]
  rw [if_neg (by rw [pilt]; omega), if_pos (by simp only [ofN]; omega), ptoN]
  simp only [Int.toNat_natCast]
  obtain ⟨ring, f, he, hqr⟩ := hR.at_ i hin
  have he' : getD r i = encA (g i) ring f := he
  rw [he']
  have hA := hg i hin
  have hnn := hA.n
  rcases p_pop (lim := (g i).ql) hqr (by omega) with ⟨e, _⟩ | ⟨p', l', f', e, hp, hQ⟩
  ·rw [hl] at e; cases e
  rw [hl] at e
  obtain ⟨rfl, rfl⟩ := List.cons.inj e
  have hp2 := hA.sz p (by rw [hl]; simp)
  have ec : iconv .u64 p.2.2 = p.2.2 := by simp only [iconv]; exact pu64 (by omega) (by omega)
  have hgS : goS g i = (p, updA g i (popA (g i) p l)) := by unfold goS; rw [hl]
  rw [hgS]
  have hlen : (g i).l.length - 1 = l.length := by rw [hl]; simp
  rw [hlen] at hp hQ
  show ∃ r', bindO (Zp (g i).ql (f : Int) ((g i).l.length : Int) ring) _ = _ ∧ _
  rw [hp, bindO_some]
  dsimp only
  have fin : ∀ bt', bt' = (popA (g i) p l).bt → Rep (setD r i (encA { g i with bt := bt', l := l } ring f')) n (updA g i (popA (g i) p l)) := by
   rintro _ rfl
   refine hR.set hin ⟨ring, f', by simp only [updA, if_true]; rfl, by simpa [updA, popA] using hQ⟩ fun j _ hj => by simp [updA, hj]
  by_cases cs : (g i).sh = true
  ·have ht : Z2b (g i).br (g i).bb (g i).bt p.2.2 = some ((g i).bt - p.2.2, true) := by
    have := hsh cs
    have := hA.bt.hi
    unfold Z2b
    rw [if_neg (by rw [pilt]; omega)]
    have e5 : isub .u64 (g i).bt p.2.2 = (g i).bt - p.2.2 := by simp only [isub]; exact pu64 (by omega) (by omega)
    rw [e5]
   refine ⟨_, ?_, fin ((g i).bt - p.2.2) (by have := hsh cs; simp only [popA]; rw [if_pos cs, if_neg (by omega)])⟩
   refine (if_pos (show (g i).sh = true from cs)).trans ?_
   rw [ec]
   refine (congrArg (fun o => bindO o _) ht).trans ?_
   rfl
  refine ⟨_, ?_, fin (g i).bt (by simp only [popA]; rw [if_neg cs])⟩
  refine (if_neg (show ¬ (g i).sh = true from cs)).trans ?_
  rfl
 obtain ⟨r', h1, h2⟩ := main
 refine ⟨r', iter_inr ?_, ?_⟩
 ·rw [h1]
  by_cases c : v1 < 0
  ·simp only [if_pos c]
  simp only [if_neg c]
 by_cases c : v1 < 0
 ·simp only [if_pos c] at h2 ⊢; exact h2
 simp only [if_neg c] at h2 ⊢; exact h2
def allN (n : Nat) (P : Nat → Bool) : Bool := (List.range n).all P
theorem allN_iff {n : Nat} {P : Nat → Bool} : allN n P = true ↔ ∀ i, i < n → P i = true := by
 simp [allN, List.all_eq_true]
theorem iter_all {B : Int → Option (Int ⊕ Bool)} {P : Nat → Bool} {n : Nat} {e : Bool} (hs : ∀ i, i < n → B (i : Int) = if P i = true then some (.inl ((i + 1 : Nat) : Int)) else some (.inr false))
  (he : B (n : Int) = some (.inr e)) : iter B (0 : Int) = some (allN n P && e) := by
 have key : ∀ (m i : Nat), i + m = n → (∀ j, j < i → P j = true) → iter B (i : Int) = some (allN n P && e) := by
  intro m
  induction m with
  | zero =>
   intro i hi hp
   have : i = n := by omega
   subst this
   rw [iter_inr he, allN_iff.2 hp, Bool.true_and]
  | succ m ih =>
   intro i hi hp
   by_cases c : P i = true
   ·rw [iter_inl ((hs i (by omega)).trans (if_pos c))]
    exact ih (i + 1) (by omega) fun j hj => by
     by_cases e : j = i
     ·subst e; exact c
     exact hp j (by omega)
   rw [iter_inr ((hs i (by omega)).trans (if_neg c))]
   have : allN n P = false := by
    cases h : allN n P with
    | false => rfl
    | true => exact absurd (allN_iff.1 h i (by omega)) c
   rw [this, Bool.false_and]
 exact key n 0 (by omega) fun j hj => by omega
def cKey (d : D) : List UInt8 := (d.fld 0).toS
def cQ (d : D) : Int := (d.fld 1).toI
def cLim (d : D) : Int := (d.fld 4).toI
def clsOk (r1 : List D) (i : Nat) : Bool :=
 !decide (cQ (getD r1 i) < 1500) && !decide (cLim (getD r1 i) < 1) && !decide (64 < cLim (getD r1 i)) && (decide (i = 0) || slt (cKey (getD r1 (i - 1))) (cKey (getD r1 i)))
def inN (n : Nat) (x : Int) : Bool := decide (0 ≤ x) && decide (x < (n : Int))
def rightB (r1 r2 : List D) (df : Int) : Bool :=
 !decide (r1.length < 1) && !decide (8 < r1.length) && inN r1.length df && (allN r1.length (clsOk r1) && (allN r2.length (fun i => inN r1.length ((getD r2 i).fld 2).toI) && true))
theorem p_in {x : Int} {n : Nat} : Z6 x (ofN n) = some (inN n x) := by
 unfold Z6 inN
 simp only [pile]
 by_cases h : 0 ≤ x
 ·rw [if_pos h]; show some (decide (x < (n : Int))) = _; simp [h]
 rw [if_neg h]; simp [h]
theorem p_rightL1 {r1 r2 : List D} (hn : r1.length ≤ 1000000) (i : Nat) (hi : i < r1.length) : Z2d r1 r2 (i : Int) = if clsOk r1 i = true then some (.inl ((i + 1 : Nat) : Int)) else some (.inr false) := by
 unfold Z2d
 dsimp only
 rw [if_pos (by rw [pilt]; simp only [ofN, xlen]; omega), if_pos (by simp only [ofN, xlen]; omega), ptoN]
 unfold clsOk
 have e1 : D.toI (D.fld (getD r1 i) 1) = cQ (getD r1 i) := rfl
 have e2 : D.toI (D.fld (getD r1 i) 4) = cLim (getD r1 i) := rfl
 rw [e1, e2]
 simp only [pilt]
 by_cases c1 : cQ (getD r1 i) < 1500
 ·rw [if_pos c1]; simp [c1]
 rw [if_neg c1]
 by_cases c2 : cLim (getD r1 i) < 1
 ·rw [if_pos c2]; simp [c2]
 rw [if_neg c2]
 by_cases c3 : 64 < cLim (getD r1 i)
 ·rw [if_pos c3]; simp [c3]
 rw [if_neg c3]
 simp only [c1, c2, c3, decide_false, Bool.not_false, Bool.true_and]
 by_cases c4 : i = 0
 ·subst c4
  rw [if_neg (by omega), pnext (by omega)]
  simp
 rw [if_pos (by omega)]
 have e3 : isub .i64 (i : Int) 1 = ((i - 1 : Nat) : Int) := by simp only [isub]; rw [pwi64 (by omega) (by omega)]; omega
 rw [e3, if_pos (by simp only [ofN, xlen]; omega), ptoN, pnext (by omega)]
 simp only [c4, decide_false, Bool.false_or]
 rfl
theorem p_right {s : List UInt8} {b : Bool} {r1 r2 : List D} {df : Int} (hn : r1.length ≤ 1000000) (hr : r2.length ≤ 1000000) : Zb s b r1 r2 df = some (rightB r1 r2 df) := by
 unfold Zb rightB
 simp only [pilt, ofN, xlen]
 by_cases c1 : r1.length < 1
 ·rw [if_pos (by omega)]; simp [c1]
 rw [if_neg (by omega)]
 by_cases c2 : 8 < r1.length
 ·rw [if_pos (by omega)]; simp [c2]
 rw [if_neg (by omega)]
 have hin : Z6 df (r1.length : Int) = some (inN r1.length df) := p_in
 rw [hin, bindO_some]
 by_cases c3 : inN r1.length df = true
 ·rw [if_pos c3]
  simp only [c1, c2, c3, decide_false, Bool.not_false, Bool.true_and]
  refine iter_all (P := clsOk r1) (n := r1.length) (fun i hi => p_rightL1 hn i hi) ?_
  unfold Z2d
  dsimp only
  rw [if_neg (by rw [pilt]; simp only [ofN, xlen]; omega)]
  have := iter_all (B := Z21 r2 r1) (P := fun i => inN r1.length ((getD r2 i).fld 2).toI) (n := r2.length) (e := true) (fun i hi => by
   unfold Z21
   dsimp only
   rw [if_pos (by rw [pilt]; simp only [ofN, xlen]; omega), if_pos (by simp only [ofN, xlen]; omega), ptoN]
   have h2 : Z6 (D.toI (D.fld (getD r2 i) 2)) (ofN (xlen r1)) = some (inN r1.length ((getD r2 i).fld 2).toI) := p_in
   rw [h2, bindO_some, pnext (by omega)]) (by
   unfold Z21
   dsimp only
   rw [if_neg (by rw [pilt]; simp only [ofN, xlen]; omega)])
  rw [this]
  rfl
 rw [if_neg c3]
 simp [c3]
structure RightP (r1 r2 : List D) (df : Int) : Prop where
 n1 : 1 ≤ r1.length
 n8 : r1.length ≤ 8
 df : 0 ≤ df ∧ df < (r1.length : Int)
 q : ∀ i, i < r1.length → 1500 ≤ cQ (getD r1 i)
 lim : ∀ i, i < r1.length → 1 ≤ cLim (getD r1 i) ∧ cLim (getD r1 i) ≤ 64
 keys : ∀ i, i + 1 < r1.length → slt (cKey (getD r1 i)) (cKey (getD r1 (i + 1))) = true
 rules : ∀ d ∈ r2, 0 ≤ (d.fld 2).toI ∧ (d.fld 2).toI < (r1.length : Int)
theorem rightB_P {r1 r2 : List D} {df : Int} (h : rightB r1 r2 df = true) : RightP r1 r2 df := by
 unfold rightB at h
 simp only [Bool.and_eq_true, Bool.not_eq_true', decide_eq_false_iff_not, allN_iff, and_true, inN, decide_eq_true_eq] at h
 obtain ⟨⟨⟨h1, h2⟩, h3⟩, h4, h5⟩ := h
 have h6 : ∀ i, i < r1.length → (¬ cQ (getD r1 i) < 1500) ∧ (¬ cLim (getD r1 i) < 1) ∧ (¬ 64 < cLim (getD r1 i)) ∧ (i = 0 ∨ slt (cKey (getD r1 (i - 1))) (cKey (getD r1 i)) = true) := fun i hi => by
  have := h4 i hi
  simp only [clsOk, Bool.and_eq_true, Bool.or_eq_true, Bool.not_eq_true', decide_eq_false_iff_not, decide_eq_true_eq] at this
  obtain ⟨⟨⟨a, b⟩, c⟩, d⟩ := this
  exact ⟨a, b, c, d⟩
 refine ⟨by omega, by omega, h3, fun i hi => ?_, fun i hi => ?_, fun i hi => ?_, fun d hd => ?_⟩
 ·obtain ⟨a, b, c, d⟩ := h6 i hi; omega
 ·obtain ⟨a, b, c, d⟩ := h6 i hi; omega
 ·obtain ⟨a, b, c, d⟩ := h6 (i + 1) hi
  rcases d with d | d
  ·omega
  simpa using d
 obtain ⟨j, hj, rfl⟩ := List.getElem_of_mem hd
 have := h5 j hj
 rw [pgetD hj] at this
 exact this
theorem right_nil {s : List UInt8} {b : Bool} {x : Int} {r1 : List D} : Zi s b x r1 = Zb s b r1 [] x := by
 have hL : Z3u r1 = Z2d r1 [] := by
  funext i
  unfold Z3u Z2d
  have e1 : iter Z3p () = some true := iter_inr (by unfold Z3p; rw [if_neg (by rw [pilt]; simp only [ofN]; omega)])
  have e2 : iter (Z21 [] r1) (0 : Int) = some true := iter_inr (by unfold Z21; dsimp only; rw [if_neg (by rw [pilt]; simp [ofN, xlen])])
  dsimp only
  rw [e1, e2]
 unfold Zi Zb
 rw [hL]
def freshA (d : D) : A := { key := cKey d, q := cQ d, r := (d.fld 2).toI, b := (d.fld 3).toI, lim := cLim d, sh := (d.fld 5).toB, br := (d.fld 2).toI, bb := (d.fld 3).toI, bt := (d.fld 3).toI, ql := cLim d, l := [] }
theorem p_cloneC {l : List D} (h : l.length ≤ 1000000) : cloneC l = some l := by
 unfold cloneC
 rw [if_pos (by simp only [xlen]; simp; omega)]
theorem p_cloneR {l : List D} (h : l.length ≤ 1000000) : cloneR l = some l := by
 unfold cloneR
 rw [if_pos (by simp only [xlen]; simp; omega)]
theorem p_own {s : List UInt8} {b : Bool} {r1 r2 : List D} {x : Int} (hn : r1.length ≤ 1000000) (hr : r2.length ≤ 1000000) : Z14 s b r1 r2 x = some (r1, r2) := by
 unfold Z14
 rw [p_cloneC hn, bindO_some]
 dsimp only
 rw [p_cloneR hr]
 rfl
theorem p_byL {r1 q1 q2 : List D} (hn : r1.length ≤ 1000) : ∃ r', iter (Z1a r1 q1 q2) ((0 : Int), ([] : List Int), 0, ([] : List D)) = some (q1, q2, r1.length, r', r1.map cQ, List.replicate r1.length 0) ∧ Rep r' r1.length fun i => freshA (getD r1 i) := by
 have key : ∀ (m i : Nat) (r3 : List D), i + m = r1.length → r3.length = i → (∀ j, j < i → RC (r3.getD j (.i 0)) (freshA (getD r1 j))) →
   ∃ r', iter (Z1a r1 q1 q2) ((i : Int), (r1.take i).map cQ, i, r3) = some (q1, q2, r1.length, r', r1.map cQ, List.replicate r1.length 0) ∧ Rep r' r1.length fun i => freshA (getD r1 i) := by
  intro m
  induction m with
  | zero =>
   intro i r3 hi h3 hp
   have hi' : i = r1.length := by omega
   subst hi'
   refine ⟨r3, iter_inr ?_, h3, hp⟩
   unfold Z1a
   dsimp only
   rw [if_neg (by rw [pilt]; simp only [ofN, xlen]; omega), List.take_length, p_new (by simpa using hn), bindO_some]
   simp
  | succ m ih =>
   intro i r3 hi h3 hp
   have hl : i < r1.length := by omega
   obtain ⟨r', h1, h2⟩ := ih (i + 1) (r3 ++ [encA (freshA (getD r1 i)) [] 0]) (by omega) (by simp [h3]) (fun j hj => by
    by_cases e : j < i
    ·rw [getD_append_l (by omega)]; exact hp j e
    have : j = i := by omega
    subst this
    have : (r3 ++ [encA (freshA (getD r1 j)) [] 0]).getD j (.i 0) = encA (freshA (getD r1 j)) [] 0 := by
     rw [List.getD_eq_getElem?_getD, List.getElem?_append_right (by omega)]; simp [h3]
    rw [this]
    exact ⟨[], 0, rfl, QR.nil⟩)
   refine ⟨r', ?_, h2⟩
   rw [← h1]
   apply iter_inl
   unfold Z1a
   dsimp only
   rw [if_pos (by rw [pilt]; simp only [ofN, xlen]; omega), if_pos (by simp only [ofN, xlen]; omega), ptoN]
   unfold Zr
   rw [bindO_some]
   unfold Zu
   rw [bindO_some]
   rw [if_pos (by omega), if_pos (by simp only [xlen, List.length_map, List.length_take, List.length_cons, List.length_nil]; omega), pnext (by omega)]
   have e : (r1.take (i + 1)).map cQ = cat ((r1.take i).map cQ) [D.toI (D.fld (getD r1 i) 1)] := by
    rw [List.take_succ_eq_append_getElem hl, List.map_append, pgetD hl]; rfl
   rw [e]
   rfl
 exact key r1.length 0 [] (by omega) rfl fun j hj => by omega
theorem p_by {s s2 : List UInt8} {b b2 : Bool} {r1 r2 : List D} {df x2 x3 : Int} (hn : r1.length ≤ 1000) (hr : r2.length ≤ 1000000) : ∃ r', Z2a s b r1 r2 df s2 b2 x2 x3 = some (r1, r2, r1.length, r', r1.map cQ, List.replicate r1.length 0) ∧ Rep r' r1.length fun i => freshA (getD r1 i) := by
 unfold Z2a
 rw [p_own (by omega) hr, bindO_some]
 exact p_byL hn
theorem p_newS {s : List UInt8} {b : Bool} {r1 r2 : List D} {df : Int} (hn : r1.length ≤ 1000000) (hr : r2.length ≤ 1000000) :
  (rightB r1 r2 df = false ∧ Z13 s b r1 r2 df = some (.inl ())) ∨
  (rightB r1 r2 df = true ∧ ∃ r', Z13 s b r1 r2 df = some (.inr (r1, r2, r1.length, r', r1.map cQ, List.replicate r1.length 0)) ∧ Rep r' r1.length fun i => freshA (getD r1 i)) := by
 unfold Z13
 rw [p_right hn hr, bindO_some]
 cases c : rightB r1 r2 df with
 | false => exact .inl ⟨rfl, rfl⟩
 | true =>
  have := (rightB_P c).n8
  obtain ⟨r', h1, h2⟩ := p_by (s := s) (s2 := []) (b := b) (b2 := false) (r1 := r1) (r2 := r2) (df := df) (x2 := 0) (x3 := 0) (by omega) hr
  refine .inr ⟨rfl, r', ?_, h2⟩
  rw [h1]
  rfl
theorem p_newN {s : List UInt8} {b : Bool} {r1 : List D} {df : Int} (hn : r1.length ≤ 1000000) (hb : rightB r1 [] df = true) :
  ∃ r', Z1t s b df r1 = some (.inr (r1, [], r1.length, r', r1.map cQ, List.replicate r1.length 0)) ∧ Rep r' r1.length fun i => freshA (getD r1 i) := by
 unfold Z1t
 rw [right_nil, p_right hn (by simp), bindO_some, hb]
 have := (rightB_P hb).n8
 have hL : Z62 r1 = Z1a r1 := rfl
 obtain ⟨r', h1, h2⟩ := p_byL (q1 := r1) (q2 := []) (r1 := r1) (by omega)
 refine ⟨r', ?_, h2⟩
 dsimp only
 rw [if_pos rfl]
 unfold Z2j Z2s
 rw [p_cloneC hn, bindO_some]
 dsimp only
 rw [p_cloneR (by simp), bindO_some]
 dsimp only [bindO]
 rw [hL, h1]
def cntS : Nat → (Nat → A) → Nat
 | 0, _ => 0
 | n + 1, g => cntS n g + (g n).l.length
theorem p_len {s : List UInt8} {b b2 : Bool} {df seq x : Int} {r1 r2 r : List D} {n : Nat} {l1 l2 : List Int} {g : Nat → A} (hR : Rep r n g) (hn : n ≤ 1000) (hg : ∀ i, i < n → AOk (g i)) :
  Z29 s b df seq r1 r2 n x b2 r l1 l2 = some ((cntS n g : Int), r) := by
 unfold Z29
 have hle : ∀ i, i ≤ n → cntS i g ≤ 100000 * i := by
  intro i
  induction i with
  | zero => intro _; simp [cntS]
  | succ i ih => intro h; have := ih (by omega); have := (hg i (by omega)).n; simp only [cntS]; omega
 have key : ∀ (m i : Nat), i + m = n → iter (Z2w n) ((cntS i g : Int), (i : Int), r) = some ((cntS n g : Int), r) := by
  intro m
  induction m with
  | zero =>
   intro i hi
   have : i = n := by omega
   subst this
   apply iter_inr
   unfold Z2w
   dsimp only
   rw [if_neg (by rw [pilt]; simp only [ofN]; omega)]
  | succ m ih =>
   intro i hi
   have hin : i < n := by omega
   rw [← ih (i + 1) (by omega)]
   obtain ⟨ring, f, he, hq⟩ := hR.at_ i hin
   have he' : getD r i = encA (g i) ring f := he
   have := hle i (by omega)
   have := (hg i hin).n
   apply iter_inl
   unfold Z2w Zj
   dsimp only [bindO]
   rw [if_pos (by rw [pilt]; simp only [ofN]; omega), if_pos (by simp only [ofN]; omega), ptoN, he', pnext (by omega)]
   have e : iadd .i64 (cntS i g : Int) ((g i).l.length : Int) = ((cntS (i + 1) g : Nat) : Int) := by simp only [iadd, cntS]; rw [pwi64 (by omega) (by omega)]; omega
   have hset : setD r i (encA (g i) ring f) = r := setD_same he'
   rw [← e]
   exact congrArg (fun z => some (Sum.inl (_, _, z))) hset
 exact key n 0 (by omega)
theorem p_allM {lim : Int} {f n : Nat} {r : List D} {l : List Pk} (h : QR f n r l) (hn : n ≤ 400000) : Z1x lim (f : Int) (n : Int) r = some (l.map mkP) := by
 unfold Z1x Zj
 dsimp only [bindO]
 have hle := h.le
 have hbig := h.big
 have hl := h.hn
 have key : ∀ (m i : Nat), i + m = n → iter (Z3c (n : Int) lim (f : Int) r) ((i : Int), (l.take i).map mkP) = some (l.map mkP) := by
  intro m
  induction m with
  | zero =>
   intro i hi
   apply iter_inr
   unfold Z3c
   dsimp only
   rw [if_neg (by rw [pilt]; omega), List.take_of_length_le (by omega)]
  | succ m ih =>
   intro i hi
   have hf : f < r.length := by rcases h.hf with hf | ⟨rfl, _⟩; exact hf; simp at hle; omega
   have hlt : (f + i) % r.length < r.length := Nat.mod_lt _ (by omega)
   rw [← ih (i + 1) (by omega)]
   apply iter_inl
   unfold Z3c
   dsimp only
   rw [if_pos (by rw [pilt]; omega), p_at (by omega) (by omega) (by omega), bindO_some]
   rw [if_pos (by simp only [ofN, xlen]; omega), if_pos (by simp only [xlen, List.length_map, List.length_take, List.length_cons, List.length_nil]; omega), pnext (by omega), ptoN]
   have e : (l.take (i + 1)).map mkP = cat ((l.take i).map mkP) [mkP (pk (getD r ((f + i) % r.length)))] := by
    have h3 : pk (getD r ((f + i) % r.length)) = l[i]'(by omega) := h.at_ i (by omega)
    rw [List.take_succ_eq_append_getElem (by omega), List.map_append, h3]; rfl
   rw [e]
   rfl
 exact key n 0 (by omega)
def queuesS (n : Nat) (g : Nat → A) : List D := (List.range n).map fun i => .l ((g i).l.map mkP)
theorem p_queues {s : List UInt8} {b b2 : Bool} {df seq x : Int} {r1 r2 r : List D} {n : Nat} {l1 l2 : List Int} {g : Nat → A} (hR : Rep r n g) (hn : n ≤ 1000) (hg : ∀ i, i < n → AOk (g i)) :
  Z18 s b df seq r1 r2 n x b2 r l1 l2 = some (queuesS n g, r) := by
 unfold Z18
 have key : ∀ (m i : Nat), i + m = n → iter (Z39 n) ((i : Int), queuesS i g, r) = some (queuesS n g, r) := by
  intro m
  induction m with
  | zero =>
   intro i hi
   have : i = n := by omega
   subst this
   apply iter_inr
   unfold Z39
   dsimp only
   rw [if_neg (by rw [pilt]; simp only [ofN]; omega)]
  | succ m ih =>
   intro i hi
   have hin : i < n := by omega
   rw [← ih (i + 1) (by omega)]
   obtain ⟨ring, f, he, hq⟩ := hR.at_ i hin
   have he' : getD r i = encA (g i) ring f := he
   have := (hg i hin).n
   have hb : queuesS (i + 1) g = cat (queuesS i g) [.l ((g i).l.map mkP)] := by simp [queuesS, List.range_succ, cat]
   have hl : (queuesS i g).length = i := by simp [queuesS]
   apply iter_inl
   unfold Z39
   dsimp only
   rw [if_pos (by rw [pilt]; simp only [ofN]; omega), if_pos (by simp only [ofN]; omega), ptoN, he']
   refine (congrArg (fun o => bindO o _) (p_allM (lim := (g i).ql) hq (by omega))).trans ?_
   rw [bindO_some]
   rw [if_pos (by simp only [xlen, List.length_cons, List.length_nil]; omega), pnext (by omega), hb]
   have hset : setD r i (encA (g i) ring f) = r := setD_same he'
   exact congrArg (fun z => some (Sum.inl (_, _, z))) hset
 exact key n 0 (by omega)
def tokensS (n : Nat) (g : Nat → A) : List Int := (List.range n).map fun i => (g i).bt
theorem p_snap {s : List UInt8} {b b2 : Bool} {df seq x : Int} {r1 r2 r : List D} {n : Nat} {l1 l2 : List Int} {g : Nat → A} (hR : Rep r n g) (hn : n ≤ 1000) (h2 : l2.length ≤ 1000) (hg : ∀ i, i < n → AOk (g i)) :
  Z8 s b df seq r1 r2 n x b2 r l1 l2 = some (tokensS n g, l2, queuesS n g, r) := by
 unfold Z8
 rw [p_state h2, bindO_some]
 dsimp only
 rw [p_queues hR hn hg, bindO_some]
 dsimp only
 have key : ∀ (m i : Nat), i + m = n → iter (Z3f n l2 (queuesS n g)) ((i : Int), r, tokensS i g) = some (tokensS n g, l2, queuesS n g, r) := by
  intro m
  induction m with
  | zero =>
   intro i hi
   have : i = n := by omega
   subst this
   apply iter_inr
   unfold Z3f
   dsimp only
   rw [if_neg (by rw [pilt]; simp only [ofN]; omega)]
  | succ m ih =>
   intro i hi
   have hin : i < n := by omega
   rw [← ih (i + 1) (by omega)]
   obtain ⟨ring, f, he, hq⟩ := hR.at_ i hin
   have he' : getD r i = encA (g i) ring f := he
   have hb : tokensS (i + 1) g = cat (tokensS i g) [(g i).bt] := by simp [tokensS, List.range_succ, cat]
   have hl : (tokensS i g).length = i := by simp [tokensS]
   apply iter_inl
   unfold Z3f
   dsimp only
   rw [if_pos (by rw [pilt]; simp only [ofN]; omega), if_pos (by simp only [ofN]; omega), ptoN, he']
   rw [if_pos (by simp only [xlen, List.length_cons, List.length_nil]; omega), pnext (by omega), hb]
   have hset : setD r i (encA (g i) ring f) = r := setD_same he'
   exact congrArg (fun z => some (Sum.inl (_, z, _))) hset
 exact key n 0 (by omega)
theorem p_concat3 {x y z : List D} (h : x.length + y.length + z.length ≤ 1000000) : Z1b [(D.l x), (D.l y), (D.l z)] = some (x ++ y ++ z) := by
 have g0 : getD [(D.l x), (D.l y), (D.l z)] (toN 0) = .l x := rfl
 have g1 : getD [(D.l x), (D.l y), (D.l z)] (toN 1) = .l y := rfl
 have g2 : getD [(D.l x), (D.l y), (D.l z)] (toN 2) = .l z := rfl
 have t : ∀ l, D.toL (.l l) = l := fun l => rfl
 have i0 : iadd .i64 (0 : Int) 1 = 1 := by decide
 have i1 : iadd .i64 (1 : Int) 1 = 2 := by decide
 have i2 : iadd .i64 (2 : Int) 1 = 3 := by decide
 have hx : ofN (xlen [(D.l x), (D.l y), (D.l z)]) = 3 := rfl
 have s0 : iadd .i64 (0 : Int) (ofN (xlen x)) = ((x.length : Nat) : Int) := by simp only [iadd, ofN, xlen]; rw [pwi64 (by omega) (by omega)]; omega
 have s1 : iadd .i64 ((x.length : Nat) : Int) (ofN (xlen y)) = ((x.length + y.length : Nat) : Int) := by simp only [iadd, ofN, xlen]; rw [pwi64 (by omega) (by omega)]; omega
 have s2 : iadd .i64 ((x.length + y.length : Nat) : Int) (ofN (xlen z)) = ((x.length + y.length + z.length : Nat) : Int) := by simp only [iadd, ofN, xlen]; rw [pwi64 (by omega) (by omega)]; omega
 have l0 : cat ([] : List D) x = x := by simp [cat]
 have l1 : cat x y = x ++ y := rfl
 have l2 : cat (x ++ y) z = x ++ y ++ z := rfl
 have body2 : iter (Zy [(D.l x), (D.l y), (D.l z)]) ((0 : Int), ([] : List D)) = some (x ++ y ++ z) := by
  rw [iter_inl (y := ((1 : Int), x)), iter_inl (y := ((2 : Int), x ++ y)), iter_inl (y := ((3 : Int), x ++ y ++ z))]
  ·apply iter_inr
   unfold Zy
   dsimp only
   rw [hx, if_neg (by rw [pilt]; omega)]
  ·unfold Zy
   dsimp only
   rw [hx, if_pos (by rw [pilt]; omega), if_pos (by omega), g2, t, if_pos (by simp only [xlen, List.length_append]; omega), i2, l2]
  ·unfold Zy
   dsimp only
   rw [hx, if_pos (by rw [pilt]; omega), if_pos (by omega), g1, t, if_pos (by simp only [xlen]; omega), i1, l1]
  unfold Zy
  dsimp only
  rw [hx, if_pos (by rw [pilt]; omega), if_pos (by omega), g0, t, if_pos (by simp only [xlen, List.length_nil]; omega), i0, l0]
 have e3 : Z6l [(D.l x), (D.l y), (D.l z)] = Zy [(D.l x), (D.l y), (D.l z)] := funext fun v => rfl
 unfold Z1b
 rw [iter_inl (y := (((x.length : Nat) : Int), (1 : Int))), iter_inl (y := (((x.length + y.length : Nat) : Int), (2 : Int))), iter_inl (y := (((x.length + y.length + z.length : Nat) : Int), (3 : Int)))]
 ·apply iter_inr
  unfold Z2p
  dsimp only
  rw [hx, if_neg (by rw [pilt]; omega), e3, body2]
  unfold growP
  rw [if_neg (by omega)]
  by_cases h0 : ((x.length + y.length + z.length : Nat) : Int) = 0
  ·rw [if_pos h0]; rfl
  rw [if_neg h0, if_pos (by omega)]; rfl
 ·unfold Z2p
  dsimp only
  rw [hx, if_pos (by rw [pilt]; omega), if_pos (by omega), g2, t, s2, if_neg (by rw [pilt]; omega), i2]
 ·unfold Z2p
  dsimp only
  rw [hx, if_pos (by rw [pilt]; omega), if_pos (by omega), g1, t, s1, if_neg (by rw [pilt]; omega), i1]
 unfold Z2p
 dsimp only
 rw [hx, if_pos (by rw [pilt]; omega), if_pos (by omega), g0, t, s0, if_neg (by rw [pilt]; omega), i0]
def mrg : List Pk → List Pk → List Pk
 | [], b => b
 | x :: a, [] => x :: a
 | x :: a, y :: b => if y.1 < x.1 then y :: mrg (x :: a) b else x :: mrg a (y :: b)
termination_by a b => a.length + b.length
theorem mrg_len : ∀ (n : Nat) (a b : List Pk), a.length + b.length ≤ n → (mrg a b).length = a.length + b.length
 | n, [], b, h => by simp [mrg]
 | n, x :: a, [], h => by simp [mrg]
 | 0, x :: a, y :: b, h => by simp at h
 | n + 1, x :: a, y :: b, h => by
  simp only [List.length_cons] at h
  unfold mrg
  split
  ·simp only [List.length_cons, mrg_len n (x :: a) b (by simp only [List.length_cons]; omega)]; omega
  simp only [List.length_cons, mrg_len n a (y :: b) (by simp only [List.length_cons]; omega)]; omega
theorem tail1 (d : D) (t : List D) : lsub (d :: t) (toN (1 : Int)) (ndec (xlen (d :: t)) (toN (1 : Int))) = t := by
 show ((d :: t).drop 1).take ((d :: t).length - 1) = t
 simp
theorem getD0 (d : D) (t : List D) : getD (d :: t) (toN (0 : Int)) = d := rfl
theorem lenc (d : D) (t : List D) : ofN (xlen (d :: t)) = (t.length : Int) + 1 := by simp [ofN, xlen]
theorem len0 : ofN (xlen ([] : List D)) = 0 := rfl
theorem p_merge_loop : ∀ (n : Nat) (a b out : List D), a.length + b.length ≤ n → out.length + a.length + b.length ≤ 1000000 → ∃ q, iter Z28 (a, b, out) = some q ∧ q.map pk = out.map pk ++ mrg (a.map pk) (b.map pk)
 | n, [], b, out, h, hb => by
  refine ⟨out ++ [] ++ b, ?_, by simp [mrg]⟩
  apply iter_inr
  unfold Z28
  dsimp only
  rw [len0, if_neg (by rw [pilt]; omega), p_concat3 (by omega), bindO_some]
 | n, d :: a, [], out, h, hb => by
  refine ⟨out ++ (d :: a) ++ [], ?_, by simp [mrg]⟩
  apply iter_inr
  unfold Z28
  dsimp only
  rw [lenc, if_pos (by rw [pilt]; omega), len0, if_neg (by rw [pilt]; omega), p_concat3 (by omega), bindO_some]
 | 0, d :: a, e :: b, out, h, hb => by simp at h
 | n + 1, d :: a, e :: b, out, h, hb => by
  simp only [List.length_cons] at h hb
  by_cases c : (pk e).1 < (pk d).1
  ·obtain ⟨q, h1, h2⟩ := p_merge_loop n (d :: a) b (out ++ [D.l [D.i (D.toI (D.fld e 0)), D.i (D.toI (D.fld e 1)), D.i (D.toI (D.fld e 2))]]) (by simp only [List.length_cons]; omega) (by simp only [List.length_cons, List.length_append, List.length_nil]; omega)
   refine ⟨q, ?_, ?_⟩
   ·rw [← h1]
    apply iter_inl
    unfold Z28
    dsimp only
    have c' : (D.toI (D.fld e 0)) < (D.toI (D.fld d 0)) := c
    rw [tail1, getD0, getD0, lenc, lenc, if_pos (by rw [pilt]; omega), if_pos (by rw [pilt]; omega), if_pos (by omega), if_pos (by omega), if_pos (by rw [pilt]; exact c'), if_pos (by omega), if_pos (by simp only [xlen, List.length_cons, List.length_nil]; omega), if_pos (by omega)]
    rfl
   rw [h2]
   simp only [List.map_cons, List.map_append, List.map_nil, List.append_assoc]
   congr 1
   rw [mrg, if_pos c]
   rfl
  obtain ⟨q, h1, h2⟩ := p_merge_loop n a (e :: b) (out ++ [D.l [D.i (D.toI (D.fld d 0)), D.i (D.toI (D.fld d 1)), D.i (D.toI (D.fld d 2))]]) (by simp only [List.length_cons]; omega) (by simp only [List.length_cons, List.length_append, List.length_nil]; omega)
  refine ⟨q, ?_, ?_⟩
  ·rw [← h1]
   apply iter_inl
   unfold Z28
   dsimp only
   have c' : ¬ (D.toI (D.fld e 0)) < (D.toI (D.fld d 0)) := c
   rw [tail1, getD0, getD0, lenc, lenc, if_pos (by rw [pilt]; omega), if_pos (by rw [pilt]; omega), if_pos (by omega), if_pos (by omega), if_neg (by rw [pilt]; exact c'), if_pos (by omega), if_pos (by simp only [xlen, List.length_cons, List.length_nil]; omega), if_pos (by omega), tail1]
   rfl
  rw [h2]
  simp only [List.map_cons, List.map_append, List.map_nil, List.append_assoc]
  congr 1
  rw [mrg, if_neg c]
  rfl
theorem p_merge {a b : List D} (h : a.length + b.length ≤ 1000000) : ∃ q, Z2m a b = some q ∧ q.map pk = mrg (a.map pk) (b.map pk) := by
 obtain ⟨q, h1, h2⟩ := p_merge_loop _ a b [] (Nat.le_refl _) (by simpa using h)
 exact ⟨q, h1, by simpa using h2⟩
theorem p_load2_loop {x : Int} {s : List D} (hs : s.length ≤ 400000) : ∀ (m i f : Nat) (r : List D), i + m = s.length → QR f i r ((s.map pk).take i) →
  ∃ (f' : Nat) (r' : List D), iter (Z3d s x) ((i : Int), (f : Int), (i : Int), r) = some ((f' : Int), (s.length : Int), r') ∧ QR f' s.length r' (s.map pk)
 | 0, i, f, r, hi, hq => by
  have : i = s.length := by omega
  subst this
  rw [List.take_of_length_le (by simp)] at hq
  refine ⟨f, r, ?_, hq⟩
  apply iter_inr
  unfold Z3d
  dsimp only
  rw [if_neg (by rw [pilt]; simp only [ofN, xlen]; omega)]
 | m + 1, i, f, r, hi, hq => by
  obtain ⟨f', r', h1, h2⟩ := p_put2 (a := D.toI (D.fld (getD s (toN (i : Int))) 0)) (b := D.toI (D.fld (getD s (toN (i : Int))) 1)) (c := D.toI (D.fld (getD s (toN (i : Int))) 2)) (x := x) hq (by omega)
  have e : (s.map pk).take (i + 1) = (s.map pk).take i ++ [(D.toI (D.fld (getD s (toN (i : Int))) 0), D.toI (D.fld (getD s (toN (i : Int))) 1), D.toI (D.fld (getD s (toN (i : Int))) 2))] := by
   rw [List.take_succ_eq_append_getElem (by simp; omega)]
   congr 1
   rw [ptoN, pgetD (by omega)]
   simp [pk]
  rw [← e] at h2
  obtain ⟨f2, r2, h3, h4⟩ := p_load2_loop hs m (i + 1) f' r' (by omega) h2
  refine ⟨f2, r2, ?_, h4⟩
  rw [← h3]
  apply iter_inl
  unfold Z3d
  dsimp only
  rw [if_pos (by rw [pilt]; simp only [ofN, xlen]; omega), if_pos (by simp only [ofN, xlen]; omega), h1, bindO_some]
  dsimp only
  rw [pnext (by omega)]
theorem p_load2 {x y z : Int} {s r : List D} (hs : s.length ≤ 400000) (hr : r.length ≤ 1000000) : ∃ (f' : Nat) (r' : List D), Z9 s x y z r = some ((f' : Int), (s.length : Int), r') ∧ QR f' s.length r' (s.map pk) := by
 unfold Z9
 have := p_load2_loop (x := x) hs s.length 0 0 (@lrep D (xlen r) (D.l [(D.i (0 : Int)), (D.i (0 : Int)), (D.i (0 : Int))])) (by omega) (by
  rw [List.take_zero]
  by_cases h0 : r.length = 0
  ·have : @lrep D (xlen r) (D.l [(D.i (0 : Int)), (D.i (0 : Int)), (D.i (0 : Int))]) = [] := by simp [lrep, xlen, h0]
   rw [this]
   exact QR.nil
  exact QR.zero (by simp [lrep, xlen]; omega) (by simpa [lrep, xlen] using hr))
 exact this
theorem bindO_st {α β : Type} {o : Option α} {k : α → Option β} {r : β} {a : α} (e : o = some a) (h : k a = some r) : bindO o k = some r := by
 rw [e]; exact h
theorem getD_setD {r : List D} {i j : Nat} {d : D} (h : i < r.length) : getD (setD r i d) j = if i = j then d else getD r j := by
 by_cases e : i = j
 ·subst e; rw [if_pos rfl]; exact getD_set_eq h
 rw [if_neg e]; exact getD_set_ne e
theorem len_setD {r : List D} {i : Nat} {d : D} : (setD r i d).length = r.length := by simp [setD]
def pks (r : List D) (c : Nat) : List Pk := (D.toL (getD r c)).map pk
theorem pks_len {r : List D} {c : Nat} : (D.toL (getD r c)).length = (pks r c).length := by simp [pks]
theorem pks_set {r : List D} {i j : Nat} {l : List D} (h : i < r.length) : pks (setD r i (.l l)) j = if i = j then l.map pk else pks r j := by
 unfold pks
 rw [getD_setD h]
 split
 ·rfl
 rfl
theorem pks_rep {n c : Nat} : pks (@lrep D n (.l [])) c = [] := by
 unfold pks
 by_cases h : c < n
 ·rw [pgetD (by simpa [lrep] using h)]; simp [lrep, D.toL]
 have : getD (@lrep D n (.l [])) c = .i 0 := by simp [getD, lrep, h]
 rw [this]; rfl
def selQ (cls : Int → Int) (c : Nat) (l : List Pk) : List Pk := l.filter fun p => cls p.2.1 == (c : Int)
theorem selQ_len {cls : Int → Int} {c : Nat} {l : List Pk} : (selQ cls c l).length ≤ l.length := List.length_filter_le _ _
theorem p_cls2 {r : List D} {df x : Int} (hr : r.length ≤ 1000000) : Z1c r df x = some (clsA r df x) := by
 have : Z1c r df x = Z12 df x r := rfl
 rw [this, p_cls hr]
theorem p_remapL2 {C' R' C r5 r10 r11 : List D} {df' : Int} {i : Nat} {l : List Pk} (hi : i < r5.length) (hq : D.toL (getD r5 i) = l.map mkP) (hl : l.length ≤ 100000) (hR : R'.length ≤ 1000000)
  (hc : ∀ x, 0 ≤ clsA R' df' x ∧ clsA R' df' x < (C'.length : Int)) : ∀ (m k : Nat) (r : List D), k + m = l.length → r.length = C'.length → (∀ c, c < C'.length → pks r c = selQ (clsA R' df') c (l.take k)) →
  ∃ r', iter (Z1e r5 (i : Int) R' df' C' C r10 r11) ((k : Int), r) = iter (Za C' (i : Int) C) ((0 : Int), r10, r11, r') ∧ r'.length = C'.length ∧ ∀ c, c < C'.length → pks r' c = selQ (clsA R' df') c l
 | 0, k, r, hk, hr, hp => by
  refine ⟨r, ?_, hr, fun c h => ?_⟩
  ·have hB : Z1e r5 (i : Int) R' df' C' C r10 r11 ((k : Int), r) = Option.map (fun t => (.inr t)) (iter (Za C' (i : Int) C) ((0 : Int), r10, r11, r)) := by
    unfold Z1e
    dsimp only
    rw [ptoN, hq, if_neg (by rw [pilt]; simp only [ofN, xlen, List.length_map]; omega)]
   rw [iter_eq, hB]
   cases iter (Za C' (i : Int) C) ((0 : Int), r10, r11, r) with
   | none => rfl
   | some x => rfl
  rw [hp c h, List.take_of_length_le (by omega)]
 | m + 1, k, r, hk, hr, hp => by
  have hkl : k < l.length := by omega
  have hcc := hc l[k].2.1
  obtain ⟨c, hce⟩ : ∃ c : Nat, clsA R' df' l[k].2.1 = (c : Int) := ⟨(clsA R' df' l[k].2.1).toNat, by omega⟩
  rw [hce] at hcc
  have hcl : c < r.length := by omega
  have hlen : (D.toL (getD r c)).length ≤ k := by
   rw [pks_len, hp c (by omega)]
   have := selQ_len (cls := clsA R' df') (c := c) (l := l.take k)
   simp at this; omega
  obtain ⟨r', h1, h2, h3⟩ := p_remapL2 (C := C) (r10 := r10) (r11 := r11) hi hq hl hR hc m (k + 1) (setD r c (.l (cat (D.toL (getD r c)) [mkP l[k]]))) (by omega) (by rw [len_setD]; exact hr) (fun j hj => by
   have e : selQ (clsA R' df') j (l.take (k + 1)) = selQ (clsA R' df') j (l.take k) ++ (if c = j then [l[k]] else []) := by
    unfold selQ
    rw [List.take_succ_eq_append_getElem hkl, List.filter_append]
    congr 1
    by_cases e : c = j
    ·subst e; simp [hce]
    rw [if_neg e, List.filter_cons_of_neg (by rw [hce]; simp; omega)]; rfl
   rw [pks_set hcl, e]
   by_cases e : c = j
   ·subst e
    rw [if_pos rfl, if_pos rfl]
    simp only [cat, List.map_append, List.map_cons, List.map_nil]
    rw [show (D.toL (getD r c)).map pk = pks r c from rfl, hp c hj]
    rfl
   rw [if_neg e, if_neg e, hp j hj, List.append_nil])
  refine ⟨r', ?_, h2, h3⟩
  rw [← h1]
  apply iter_inl
  have hg : getD (D.toL (getD r5 i)) k = mkP l[k] := by rw [hq, pgetD (by simpa using hkl)]; simp
  unfold Z1e
  dsimp only
  rw [ptoN, ptoN, hg]
  have hcls : Z1c R' df' (D.toI (D.fld (mkP l[k]) 1)) = some (c : Int) := by
   have := p_cls2 (r := R') (df := df') (x := l[k].2.1) hR
   rw [hce] at this; exact this
  rw [if_pos (by rw [pilt, hq]; simp only [ofN, xlen, List.length_map]; omega), if_pos (by rw [hq]; simp only [ofN, xlen, List.length_map]; omega), hcls, bindO_some]
  rw [ptoN, if_pos (by rw [pile]; omega), if_pos (by rw [pilt]; simp only [ofN, xlen, toN]; omega), if_pos (by simp only [ofN, xlen, toN]; omega), if_pos (by simp only [xlen, List.length_cons, List.length_nil]; omega), if_pos (by simp only [ofN, xlen, toN]; omega), pnext (by omega)]
  rfl
def mv1 (C C' : List D) (i : Nat) (row : List Pk) (c : Nat) : Bool := decide (0 < row.length) && bnot (seq (cKey (getD C i)) (cKey (getD C' c)))
theorem p_remapL3 {C' C : List D} {i : Nat} {old row : Nat → List Pk} {mv : Nat → Bool} (hi : i < C.length) (hC : C.length ≤ 1000) (hn : C'.length ≤ 1000) (hb : ∀ j, j < C'.length → (old j).length + (row j).length ≤ 1000000) : ∀ (m c : Nat) (r17 r18 r19 : List D), c + m = C'.length → r17.length = C'.length → r18.length = C'.length → r19.length = C'.length →
  (∀ j, j < C'.length → pks r17 j = if j < c then mrg (old j) (row j) else old j) → (∀ j, j < C'.length → D.toB (getD r18 j) = if j < c then (mv j || mv1 C C' i (row j) j) else mv j) → (∀ j, j < C'.length → pks r19 j = row j) →
  ∃ r17' r18', iter (Za C' (i : Int) C) ((c : Int), r17, r18, r19) = some (.inl (((i + 1 : Nat) : Int), r17', r18')) ∧ r17'.length = C'.length ∧ r18'.length = C'.length ∧ (∀ j, j < C'.length → pks r17' j = mrg (old j) (row j)) ∧ ∀ j, j < C'.length → D.toB (getD r18' j) = (mv j || mv1 C C' i (row j) j)
 | 0, c, r17, r18, r19, hc, h17, h18, h19, hp, hv, hq => by
  refine ⟨r17, r18, ?_, h17, h18, fun j hj => by rw [hp j hj, if_pos (by omega)], fun j hj => by rw [hv j hj, if_pos (by omega)]⟩
  apply iter_inr
  unfold Za
  dsimp only
  rw [if_neg (by rw [pilt]; simp only [ofN, xlen, toN]; omega), pnext (by omega)]
 | m + 1, c, r17, r18, r19, hc, h17, h18, h19, hp, hv, hq => by
  have hcl : c < C'.length := by omega
  obtain ⟨q, h1, h2⟩ := p_merge (a := D.toL (getD r17 c)) (b := D.toL (getD r19 c)) (by
   rw [pks_len, pks_len, hp c hcl, hq c hcl, if_neg (by omega)]; exact hb c hcl)
  have h2' : q.map pk = mrg (old c) (row c) := by
   rw [h2]
   have e1 : (D.toL (getD r17 c)).map pk = old c := by have := hp c hcl; rw [if_neg (by omega)] at this; exact this
   have e2 : (D.toL (getD r19 c)).map pk = row c := hq c hcl
   rw [e1, e2]
  have next : ∃ r17' r18', iter (Za C' (i : Int) C) (((c + 1 : Nat) : Int), setD r17 c (.l q), setD r18 c (.b (mv c || mv1 C C' i (row c) c)), setD r19 c (.l (D.toL (getD r19 c)))) = some (.inl (((i + 1 : Nat) : Int), r17', r18')) ∧ r17'.length = C'.length ∧ r18'.length = C'.length ∧ (∀ j, j < C'.length → pks r17' j = mrg (old j) (row j)) ∧ ∀ j, j < C'.length → D.toB (getD r18' j) = (mv j || mv1 C C' i (row j) j) :=
   p_remapL3 hi hC hn hb m (c + 1) _ _ _ (by omega) (by rw [len_setD]; exact h17) (by rw [len_setD]; exact h18) (by rw [len_setD]; exact h19) (fun j hj => by
    rw [pks_set (by omega)]
    by_cases e : c = j
    ·subst e; rw [if_pos rfl, if_pos (by omega), h2']
    ·rw [if_neg e, hp j hj]
     by_cases e2 : j < c
     ·rw [if_pos e2, if_pos (by omega)]
     rw [if_neg e2, if_neg (by omega)]) (fun j hj => by
    rw [getD_setD (by omega)]
    by_cases e : c = j
    ·subst e; rw [if_pos rfl, if_pos (by omega)]; rfl
    ·rw [if_neg e, hv j hj]
     by_cases e2 : j < c
     ·rw [if_pos e2, if_pos (by omega)]
     rw [if_neg e2, if_neg (by omega)]) (fun j hj => by
    rw [pks_set (by omega)]
    by_cases e : c = j
    ·subst e; rw [if_pos rfl]; exact hq c hcl
    rw [if_neg e, hq j hj])
  have hvc := hv c hcl
  rw [if_neg (Nat.lt_irrefl _)] at hvc
  have hlen : (D.toL (getD r19 c)).length = (row c).length := by rw [pks_len, hq c hcl]
  have hB : Za C' (i : Int) C ((c : Int), r17, r18, r19) = some (.inl (((c + 1 : Nat) : Int), setD r17 c (.l q), setD r18 c (.b (mv c || mv1 C C' i (row c) c)), setD r19 c (.l (D.toL (getD r19 c))))) := by
   unfold Za
   dsimp only
   rw [ptoN, ptoN, pnext (by omega), if_pos (by rw [pilt]; simp only [ofN, xlen, toN]; omega), if_pos (by simp only [ofN, xlen, toN]; omega), if_pos (by simp only [ofN, xlen]; omega), h1, bindO_some]
   rw [if_pos (by simp only [ofN, xlen]; omega), if_pos (by simp only [ofN, xlen]; omega), hvc]
   cases hm : mv c with
   | true => rw [if_pos rfl, if_pos (by simp only [ofN, xlen]; omega), Bool.true_or]
   | false =>
    rw [if_neg (by simp), Bool.false_or]
    unfold mv1
    by_cases c2 : 0 < (row c).length
    ·rw [if_pos (by rw [pilt]; simp only [ofN, xlen]; omega), if_pos (by simp only [ofN, xlen]; omega), if_pos (by simp only [ofN, xlen]; omega), if_pos (by simp only [ofN, xlen]; omega), decide_eq_true c2, Bool.true_and]
     rfl
    rw [if_neg (by rw [pilt]; simp only [ofN, xlen]; omega), if_pos (by simp only [ofN, xlen]; omega), decide_eq_false c2, Bool.false_and]
  obtain ⟨r17', r18', k1, k2⟩ := next
  exact ⟨r17', r18', by rw [← k1]; exact iter_inl hB, k2⟩
def accQ (cls : Int → Int) (qs : Nat → List Pk) (c : Nat) : Nat → List Pk
 | 0 => []
 | i + 1 => mrg (accQ cls qs c i) (selQ cls c (qs i))
def mvB (cls : Int → Int) (qs : Nat → List Pk) (C C' : List D) (c : Nat) : Nat → Bool
 | 0 => false
 | i + 1 => mvB cls qs C C' c i || mv1 C C' i (selQ cls c (qs i)) c
def fitsB (cls : Int → Int) (qs : Nat → List Pk) (C C' : List D) : Bool := allN C'.length fun c => !(mvB cls qs C C' c C.length && decide (cLim (getD C' c) < ((accQ cls qs c C.length).length : Int)))
theorem iter_allT {T : Type} {B : Int → Option (Int ⊕ T)} {P : Nat → Bool} {n : Nat} {a b : T} (hs : ∀ i, i < n → B (i : Int) = if P i = true then some (.inl ((i + 1 : Nat) : Int)) else some (.inr a))
  (he : B (n : Int) = some (.inr b)) : iter B (0 : Int) = some (if allN n P = true then b else a) := by
 have key : ∀ (m i : Nat), i + m = n → (∀ j, j < i → P j = true) → iter B (i : Int) = some (if allN n P = true then b else a) := by
  intro m
  induction m with
  | zero =>
   intro i hi hp
   have : i = n := by omega
   subst this
   rw [iter_inr he, if_pos (allN_iff.2 hp)]
  | succ m ih =>
   intro i hi hp
   by_cases c : P i = true
   ·rw [iter_inl ((hs i (by omega)).trans (if_pos c))]
    exact ih (i + 1) (by omega) fun j hj => by
     by_cases e : j = i
     ·subst e; exact c
     exact hp j (by omega)
   rw [iter_inr ((hs i (by omega)).trans (if_neg c)), if_neg (fun h => c (allN_iff.1 h i (by omega)))]
 exact key n 0 (by omega) fun j hj => by omega
def sumL (qs : Nat → List Pk) : Nat → Nat
 | 0 => 0
 | i + 1 => sumL qs i + (qs i).length
theorem accQ_len {cls : Int → Int} {qs : Nat → List Pk} {c : Nat} : ∀ i, (accQ cls qs c i).length ≤ sumL qs i
 | 0 => by simp [accQ, sumL]
 | i + 1 => by
  simp only [accQ, sumL]
  rw [mrg_len _ _ _ (Nat.le_refl _)]
  have := accQ_len (cls := cls) (qs := qs) (c := c) i
  have := selQ_len (cls := cls) (c := c) (l := qs i)
  omega
theorem sumL_mono {qs : Nat → List Pk} : ∀ {i j : Nat}, i ≤ j → sumL qs i ≤ sumL qs j
 | i, 0, h => by
  have : i = 0 := by omega
  subst this
  exact Nat.le_refl _
 | i, j + 1, h => by
  by_cases e : i = j + 1
  ·subst e; exact Nat.le_refl _
  have := sumL_mono (qs := qs) (i := i) (j := j) (by omega)
  simp only [sumL]; omega
theorem p_remapL4 {C' r10 r11 : List D} {mv : Nat → Bool} {ac : Nat → List Pk} (hn : C'.length ≤ 1000) (h10 : r10.length = C'.length) (h11 : r11.length = C'.length) (hv : ∀ j, j < C'.length → D.toB (getD r11 j) = mv j) (hp : ∀ j, j < C'.length → pks r10 j = ac j) :
  iter (Z2g r11 r10 C') (0 : Int) = some (allN C'.length (fun c => !(mv c && decide (cLim (getD C' c) < ((ac c).length : Int)))), r10) := by
 have := iter_allT (B := Z2g r11 r10 C') (P := fun c => !(mv c && decide (cLim (getD C' c) < ((ac c).length : Int)))) (n := C'.length) (a := (false, r10)) (b := (true, r10)) (fun i hi => by
  have hl : (D.toL (getD r10 i)).length = (ac i).length := by rw [pks_len, hp i hi]
  unfold Z2g
  dsimp only
  rw [ptoN, pnext (by omega), if_pos (by rw [pilt]; simp only [ofN, xlen]; omega), if_pos (by simp only [ofN, xlen]; omega), hv i hi]
  cases mv i with
  | false => rw [if_neg (by simp)]; simp
  | true =>
   rw [if_pos rfl, if_pos (by simp only [ofN, xlen]; omega), if_pos (by simp only [ofN, xlen]; omega)]
   by_cases c2 : cLim (getD C' i) < ((ac i).length : Int)
   ·rw [if_pos (by rw [pilt]; simp only [ofN, xlen, hl]; exact c2)]; simp [c2]
   rw [if_neg (by rw [pilt]; simp only [ofN, xlen, hl]; exact c2)]; simp [c2]) (by
  unfold Z2g
  dsimp only
  rw [if_neg (by rw [pilt]; simp only [ofN, xlen]; omega)])
 rw [this]
 cases allN C'.length (fun c => !(mv c && decide (cLim (getD C' c) < ((ac c).length : Int)))) <;> rfl
theorem p_remapL1 {C' R' C r5 : List D} {df' : Int} {qs : Nat → List Pk} (hn : C'.length ≤ 1000) (hC : C.length ≤ 1000) (h5 : r5.length = C.length) (hq : ∀ i, i < C.length → D.toL (getD r5 i) = (qs i).map mkP) (hl : sumL qs C.length ≤ 100000) (hR : R'.length ≤ 1000000)
  (hc : ∀ x, 0 ≤ clsA R' df' x ∧ clsA R' df' x < (C'.length : Int)) : ∀ (m i : Nat) (r10 r11 : List D), i + m = C.length → r10.length = C'.length → r11.length = C'.length → (∀ c, c < C'.length → pks r10 c = accQ (clsA R' df') qs c i) → (∀ c, c < C'.length → D.toB (getD r11 c) = mvB (clsA R' df') qs C C' c i) →
  ∃ out, iter (Z36 r5 C' R' df' C) ((i : Int), r10, r11) = some (fitsB (clsA R' df') qs C C', out) ∧ out.length = C'.length ∧ ∀ c, c < C'.length → pks out c = accQ (clsA R' df') qs c C.length
 | 0, i, r10, r11, hi, h10, h11, hp, hv => by
  have hi' : i = C.length := by omega
  subst hi'
  have h' := p_remapL4 hn h10 h11 hv hp
  refine ⟨r10, ?_, h10, hp⟩
  apply iter_inr
  unfold Z36
  dsimp only
  rw [if_neg (by rw [pilt]; simp only [ofN, xlen]; omega)]
  rw [h']; rfl
 | m + 1, i, r10, r11, hi, h10, h11, hp, hv => by
  have hiC : i < C.length := by omega
  have hql : (qs i).length ≤ 100000 := by
   have := sumL_mono (qs := qs) (i := i + 1) (j := C.length) (by omega)
   simp only [sumL] at this; omega
  obtain ⟨rows, h1, h2, h3⟩ := p_remapL2 (C := C) (r10 := r10) (r11 := r11) (by omega) (hq i hiC) hql hR hc (qs i).length 0 (@lrep D C'.length (.l [])) (by omega) (by simp [lrep]) (fun c _ => by rw [pks_rep]; rfl)
  obtain ⟨r17, r18, k1, k2, k3, k4, k5⟩ := p_remapL3 (C' := C') (C := C) (i := i) (mv := fun c => mvB (clsA R' df') qs C C' c i) (old := fun c => accQ (clsA R' df') qs c i) (row := fun c => selQ (clsA R' df') c (qs i)) hiC hC hn (fun j hj => by
   have a := accQ_len (cls := clsA R' df') (qs := qs) (c := j) i
   have b := selQ_len (cls := clsA R' df') (c := j) (l := qs i)
   have := sumL_mono (qs := qs) (i := i + 1) (j := C.length) (by omega)
   simp only [sumL] at this; omega) C'.length 0 r10 r11 rows (by omega) h10 h11 h2 (fun j hj => by rw [if_neg (by omega), hp j hj]) (fun j hj => by rw [if_neg (by omega), hv j hj]) h3
  obtain ⟨out, g1, g2, g3⟩ := p_remapL1 hn hC h5 hq hl hR hc m (i + 1) r17 r18 (by omega) k2 k3 (fun c hc' => by rw [k4 c hc']; rfl) (fun c hc' => by rw [k5 c hc']; rfl)
  refine ⟨out, ?_, g2, g3⟩
  rw [← g1]
  apply iter_inl
  unfold Z36
  dsimp only
  rw [if_pos (by rw [pilt]; simp only [ofN, xlen]; omega), if_pos (by simp only [ofN, xlen]; omega), if_pos (by simp only [ofN, xlen]; omega)]
  have h1' : iter (Z1e r5 (i : Int) R' df' C' C r10 r11) ((0 : Int), (@lrep D (toN (ofN (xlen C'))) (D.l ([] : List D)))) = _ := h1
  rw [h1']
  have k1' : iter (Za C' (i : Int) C) ((0 : Int), r10, r11, rows) = _ := k1
  rw [k1']
theorem p_remap {s1 s2 : List UInt8} {b1 b2 : Bool} {x1 : Int} {C' R' C R r5 : List D} {df' : Int} {qs : Nat → List Pk} (hn : C'.length ≤ 1000) (hC : C.length ≤ 1000) (h5 : r5.length = C.length) (hq : ∀ i, i < C.length → D.toL (getD r5 i) = (qs i).map mkP) (hl : sumL qs C.length ≤ 100000) (hR : R'.length ≤ 1000000)
  (hc : ∀ x, 0 ≤ clsA R' df' x ∧ clsA R' df' x < (C'.length : Int)) :
  ∃ out, Z1s s1 b1 x1 s2 b2 C' R' df' C R r5 = some (fitsB (clsA R' df') qs C C', out) ∧ out.length = C'.length ∧ ∀ c, c < C'.length → pks out c = accQ (clsA R' df') qs c C.length := by
 unfold Z1s
 rw [if_pos (by rw [pieq]; simp only [ofN, xlen]; omega), if_pos (by simp only [ofN, xlen]; omega), if_pos (by simp only [ofN, xlen]; omega)]
 exact p_remapL1 hn hC h5 hq hl hR hc C.length 0 _ _ (by omega) (by simp [lrep, toN, ofN, xlen]) (by simp [lrep, toN, ofN, xlen]) (fun c _ => by
  have : pks (@lrep D C'.length (.l [])) c = [] := pks_rep
  exact this) (fun c hc' => by
  have : getD (@lrep D C'.length (.b false)) c = .b false := by rw [pgetD (by simpa [lrep] using hc')]; simp [lrep]
  show D.toB (getD (@lrep D C'.length (.b false)) c) = false
  rw [this]; rfl)
def eqCls (a b : D) : Bool := decide ((a.fld 0).toS = (b.fld 0).toS ∧ (a.fld 1).toI = (b.fld 1).toI ∧ (a.fld 2).toI = (b.fld 2).toI ∧ (a.fld 3).toI = (b.fld 3).toI ∧ (a.fld 4).toI = (b.fld 4).toI ∧ (a.fld 5).toB = (b.fld 5).toB)
def eqRule (a b : D) : Bool := decide ((a.fld 0).toI = (b.fld 0).toI ∧ (a.fld 1).toI = (b.fld 1).toI ∧ (a.fld 2).toI = (b.fld 2).toI)
def eqRows (e : D → D → Bool) (r1 r2 : List D) : Bool := decide (r1.length = r2.length) && allN r1.length fun i => e (getD r1 i) (getD r2 i)
theorem p_eqC {r1 r2 : List D} (h1 : r1.length ≤ 1000000) : Zh r1 r2 = some (eqRows eqCls r1 r2) := by
 unfold Zh eqRows
 by_cases c : r1.length = r2.length
 ·rw [if_pos (by rw [pieq]; simp only [ofN, xlen]; omega)]
  simp only [c, decide_true, Bool.true_and]
  rw [← c]
  have := iter_all (B := Z22 r1 r2) (P := fun i => eqCls (getD r1 i) (getD r2 i)) (n := r1.length) (e := true) (fun i hi => by
   unfold Z22
   dsimp only
   rw [if_pos (by rw [pilt]; simp only [ofN, xlen]; omega), if_pos (by simp only [ofN, xlen]; omega), if_pos (by simp only [ofN, xlen]; omega), ptoN, pnext (by omega)]
   simp only [pband, pseq, pieq, pbeq2, and_true, eqCls, decide_eq_true_eq]) (by
   unfold Z22
   dsimp only
   rw [if_neg (by rw [pilt]; simp only [ofN, xlen]; omega)])
  rw [this, Bool.and_true]
 rw [if_neg (by rw [pieq]; simp only [ofN, xlen]; omega)]
 simp [c]
theorem p_eqR {r1 r2 : List D} (h1 : r1.length ≤ 1000000) : Zf r1 r2 = some (eqRows eqRule r1 r2) := by
 unfold Zf eqRows
 by_cases c : r1.length = r2.length
 ·rw [if_pos (by rw [pieq]; simp only [ofN, xlen]; omega)]
  simp only [c, decide_true, Bool.true_and]
  rw [← c]
  have := iter_all (B := Z2l r1 r2) (P := fun i => eqRule (getD r1 i) (getD r2 i)) (n := r1.length) (e := true) (fun i hi => by
   unfold Z2l
   dsimp only
   rw [if_pos (by rw [pilt]; simp only [ofN, xlen]; omega), if_pos (by simp only [ofN, xlen]; omega), if_pos (by simp only [ofN, xlen]; omega), ptoN, pnext (by omega)]
   simp only [pband, pieq, and_true, eqRule, decide_eq_true_eq]) (by
   unfold Z2l
   dsimp only
   rw [if_neg (by rw [pilt]; simp only [ofN, xlen]; omega)])
  rw [this, Bool.and_true]
 rw [if_neg (by rw [pieq]; simp only [ofN, xlen]; omega)]
 simp [c]
def sameP (s1 : List UInt8) (b1 : Bool) (r1 r2 : List D) (x1 : Int) (s2 : List UInt8) (b2 : Bool) (x2 : Int) (r3 r4 : List D) : Bool := decide (s1 = s2) && (decide (b1 = b2) && (eqRows eqCls r1 r3 && (eqRows eqRule r2 r4 && decide (x1 = x2))))
theorem p_planSame {s1 s2 : List UInt8} {b1 b2 : Bool} {r1 r2 r3 r4 : List D} {x1 x2 : Int} (h1 : r1.length ≤ 1000000) (h2 : r2.length ≤ 1000000) : Z25 s1 b1 r1 r2 x1 s2 b2 x2 r3 r4 = some (sameP s1 b1 r1 r2 x1 s2 b2 x2 r3 r4) := by
 unfold Z25 sameP
 rw [p_eqC h1, p_eqR h2]
 simp only [bindO_some, pseq, pbeq2]
 by_cases c1 : s1 = s2
 ·rw [if_pos c1]
  by_cases c2 : b1 = b2
  ·rw [if_pos c2]
   cases eqRows eqCls r1 r3 <;> cases eqRows eqRule r2 r4 <;> simp [c1, c2, ieq, Bool.beq_eq_decide_eq]
  rw [if_neg c2]; simp [c2]
 rw [if_neg c1]; simp [c1]
def bD (a : A) : D := .l [.i a.br, .i a.bb, .i a.bt]
def lastB (g : Nat → A) (k : List UInt8) : Nat → Option A
 | 0 => none
 | i + 1 => if (g i).key = k then some (g i) else lastB g k i
theorem mfind_cons {k : List UInt8} {d : D} {l : List D} : mfind k (d :: l) = if (d.fld 0).toS = k then some (d.fld 1) else mfind k l := by
 by_cases h : (d.fld 0).toS = k
 ·have e : ((d.fld 0).toS == k) = true := by simpa using h
  simp only [mfind, e, if_pos h]
 have e : ((d.fld 0).toS == k) = false := by simpa using h
 simp only [mfind, e, if_neg h]
theorem mput_cons {k : List UInt8} {d x : D} {l : List D} : mput (d :: l) k x = if (d.fld 0).toS = k then .l [.s k, x] :: l else d :: mput l k x := by
 by_cases h : (d.fld 0).toS = k
 ·have e : ((d.fld 0).toS == k) = true := by simpa using h
  rw [if_pos h]
  simp only [mput, e]
 have e : ((d.fld 0).toS == k) = false := by simpa using h
 rw [if_neg h]
 simp only [mput, e]
theorem mfind_put {k k' : List UInt8} {x : D} : ∀ l : List D, mfind k (mput l k' x) = if k' = k then some x else mfind k l
 | [] => by
  have : mput [] k' x = [.l [.s k', x]] := rfl
  rw [this, mfind_cons]
  rfl
 | d :: l => by
  have ih := mfind_put (k := k) (k' := k') (x := x) l
  rw [mput_cons, mfind_cons]
  by_cases h1 : (d.fld 0).toS = k'
  ·rw [if_pos h1, mfind_cons]
   have e : D.toS (D.fld (D.l [D.s k', x]) 0) = k' := rfl
   rw [e]
   by_cases h : k' = k
   ·rw [if_pos h, if_pos h]; rfl
   rw [if_neg h, if_neg h, if_neg (by rw [h1]; exact h)]
  rw [if_neg h1, mfind_cons, ih]
  by_cases h2 : (d.fld 0).toS = k
  ·rw [if_pos h2, if_neg (fun h3 => h1 (h2.trans h3.symm)), if_pos h2]
  rw [if_neg h2, if_neg h2]
def tuneB (o : Option A) (x : Int) : Int := match o with
 | some a => min a.bt x
 | none => x
def newA (d : D) (o : Option A) (l : List Pk) : A := { freshA d with bt := tuneB o (d.fld 3).toI, l := l }
theorem lastB_mem {g : Nat → A} {k : List UInt8} {a : A} : ∀ {n}, lastB g k n = some a → ∃ i, i < n ∧ g i = a
 | 0, h => by cases h
 | n + 1, h => by
  unfold lastB at h
  split at h
  ·exact ⟨n, by omega, Option.some.inj h⟩
  obtain ⟨i, h1, h2⟩ := lastB_mem h
  exact ⟨i, by omega, h2⟩
theorem newA_ok {d : D} {g : Nat → A} {n : Nat} {l : List Pk} (hg : ∀ i, i < n → AOk (g i)) (hd : U (cQ d) ∧ U (D.toI (D.fld d 2)) ∧ U (D.toI (D.fld d 3))) (hl : l.length ≤ 100000) (hs : ∀ p ∈ l, 1 ≤ p.2.2 ∧ p.2.2 ≤ 1500) : AOk (newA d (lastB g (cKey d) n) l) := by
 refine ⟨hd.1, hd.2.1, hd.2.2, ?_, hl, hs⟩
 show U (tuneB (lastB g (cKey d) n) (D.toI (D.fld d 3)))
 cases h : lastB g (cKey d) n with
 | none => exact hd.2.2
 | some a =>
  obtain ⟨i, hi, rfl⟩ := lastB_mem h
  have h1 := (hg i hi).bt
  have h2 := hd.2.2
  have := h1.lo; have := h1.hi; have := h2.lo; have := h2.hi
  show U (min (g i).bt _)
  unfold U
  omega
theorem p_byL3 {r1 q1 q2 : List D} (hn : r1.length ≤ 1000) : ∃ r', iter (Z3s r1 q1 q2) ((0 : Int), ([] : List Int), 0, ([] : List D)) = some (q1, q2, r1.length, r', r1.map cQ, List.replicate r1.length 0) ∧ Rep r' r1.length fun i => freshA (getD r1 i) := by
 have : Z3s r1 q1 q2 = Z1a r1 q1 q2 := rfl
 rw [this]
 exact p_byL hn
theorem p_applyL2 {C' R' q3 r6 : List D} {n : Nat} {s1 : List UInt8} {b1 : Bool} {x1 : Int} {g : Nat → A} (hC : C'.length ≤ 1000) (hq : q3.length = C'.length) (hl : ∀ c, c < C'.length → (pks q3 c).length ≤ 100000) (h6 : ∀ k, mfind k r6 = (lastB g k n).map bD) : ∀ (m i : Nat) (r : List D), i + m = C'.length →
  Rep r C'.length (fun c => if c < i then newA (getD C' c) (lastB g (cKey (getD C' c)) n) (pks q3 c) else freshA (getD C' c)) →
  ∃ r', iter (Zn C'.length r6 q3 s1 b1 x1 C' R' (C'.map cQ) (List.replicate C'.length 0)) ((i : Int), r) = some ((0 : Int), s1, b1, x1, C', R', C'.length, (0 : Int), false, r', C'.map cQ, List.replicate C'.length 0) ∧
   Rep r' C'.length fun c => newA (getD C' c) (lastB g (cKey (getD C' c)) n) (pks q3 c)
 | 0, i, r, hi, hR => by
  refine ⟨r, iter_inr ?_, hR.congr fun j hj => by rw [if_pos (by omega)]⟩
  unfold Zn
  dsimp only
  rw [if_neg (by rw [pilt]; simp only [ofN]; omega)]
 | m + 1, i, r, hi, hR => by
  have hin : i < C'.length := by omega
  obtain ⟨ring, f, he, hqr⟩ := hR.at_ i hin
  rw [if_neg (Nat.lt_irrefl _)] at he hqr
  have he' : getD r i = encA (freshA (getD C' i)) ring f := he
  obtain ⟨f', r', hld, hqr'⟩ := p_load2 (x := cLim (getD C' i)) (y := (f : Int)) (z := 0) (s := D.toL (getD q3 i)) (r := ring) (by rw [pks_len]; have := hl i hin; omega) hqr.big
  have hlen : (D.toL (getD q3 i)).length = (pks q3 i).length := pks_len
  have step : ∀ y, y = tuneB (lastB g (cKey (getD C' i)) n) (D.toI (D.fld (getD C' i) 3)) →
    ∃ r2, iter (Zn C'.length r6 q3 s1 b1 x1 C' R' (C'.map cQ) (List.replicate C'.length 0)) (((i + 1 : Nat) : Int), setD r i (encA { freshA (getD C' i) with bt := y, l := pks q3 i } r' f')) = some ((0 : Int), s1, b1, x1, C', R', C'.length, (0 : Int), false, r2, C'.map cQ, List.replicate C'.length 0) ∧
     Rep r2 C'.length fun c => newA (getD C' c) (lastB g (cKey (getD C' c)) n) (pks q3 c) := fun y hy =>
   p_applyL2 hC hq hl h6 m (i + 1) _ (by omega) (hR.set hin ⟨r', f', by rw [if_pos (by omega), hy]; rfl, by
    rw [if_pos (by omega)]
    show QR f' (pks q3 i).length r' (pks q3 i)
    rw [← hlen]; exact hqr'⟩ fun j _ hj => by
     by_cases c : j < i
     ·rw [if_pos c, if_pos (by omega)]
     rw [if_neg c, if_neg (by omega)])
  have hkey : D.toS (D.fld (D.fld (encA (freshA (getD C' i)) ring f) 0) 0) = cKey (getD C' i) := rfl
  have hf := h6 (cKey (getD C' i))
  unfold tuneB at step
  cases ho : lastB g (cKey (getD C' i)) n with
  | none =>
   rw [ho] at step hf
   obtain ⟨r2, k1, k2⟩ := step _ rfl
   refine ⟨r2, ?_, k2⟩
   rw [← k1]
   apply iter_inl
   unfold Zn
   dsimp only
   rw [if_pos (by rw [pilt]; simp only [ofN]; omega), if_pos (by simp only [ofN]; omega), ptoN, he', hkey]
   rw [if_neg (by unfold mhas; rw [hf]; simp), if_pos (by simp only [ofN, xlen]; omega)]
   refine bindO_st hld ?_
   rw [pnext (by omega), hlen]
   rfl
  | some a =>
   rw [ho] at step hf
   obtain ⟨r2, k1, k2⟩ := step _ rfl
   refine ⟨r2, ?_, k2⟩
   rw [← k1]
   apply iter_inl
   unfold Zn
   dsimp only
   rw [if_pos (by rw [pilt]; simp only [ofN]; omega), if_pos (by simp only [ofN]; omega), ptoN, he', hkey]
   have hv : mval (D.l [(D.i (0 : Int)), (D.i (0 : Int)), (D.i (0 : Int))]) r6 (cKey (getD C' i)) = bD a := by unfold mval; rw [hf]; rfl
   rw [if_pos (by unfold mhas; rw [hf]; rfl), hv]
   have ht : Z1d (D.toI (D.fld (bD a) 0)) (D.toI (D.fld (bD a) 1)) (D.toI (D.fld (bD a) 2)) (D.toI (D.fld (D.fld (encA (freshA (getD C' i)) ring f) 0) 2)) (D.toI (D.fld (D.fld (encA (freshA (getD C' i)) ring f) 0) 3)) = some (min a.bt (D.toI (D.fld (getD C' i) 3))) := by
    unfold Z1d
    rw [pimin]; rfl
   refine bindO_st ht ?_
   rw [if_pos (by simp only [ofN, xlen]; omega)]
   refine bindO_st hld ?_
   rw [pnext (by omega), hlen]
   rfl
theorem p_applyL1 {C' R' C R q3 : List D} {n : Nat} {s1 s2 : List UInt8} {b1 b3 b4 : Bool} {x1 x2 x3 x4 : Int} {l1 l2 : List Int} {g : Nat → A} (hn : n ≤ 1000) (hC : C'.length ≤ 1000) (hR2 : R'.length ≤ 1000000) (hq : q3.length = C'.length) (hl : ∀ c, c < C'.length → (pks q3 c).length ≤ 100000) : ∀ (m i : Nat) (r6 r : List D), i + m = n →
  Rep r n g → (∀ k, mfind k r6 = (lastB g k i).map bD) →
  ∃ r', iter (Z23 n s1 b1 C' R' x1 s2 b3 x2 x3 C R x4 b4 l1 l2 q3) ((i : Int), r6, r) = some ((0 : Int), s1, b1, x1, C', R', C'.length, (0 : Int), false, r', C'.map cQ, List.replicate C'.length 0) ∧
   Rep r' C'.length fun c => newA (getD C' c) (lastB g (cKey (getD C' c)) n) (pks q3 c)
 | 0, i, r6, r, hi, hR, h6 => by
  have : i = n := by omega
  subst this
  obtain ⟨r0, k1, k2⟩ := p_byL3 (r1 := C') (q1 := C') (q2 := R') hC
  obtain ⟨r', k3, k4⟩ := p_applyL2 (R' := R') (s1 := s1) (b1 := b1) (x1 := x1) hC hq hl h6 C'.length 0 r0 (by omega) (k2.congr fun j _ => by rw [if_neg (by omega)])
  refine ⟨r', iter_inr ?_, k4⟩
  unfold Z23
  dsimp only
  rw [if_neg (by rw [pilt]; simp only [ofN]; omega)]
  have hb : Z11 s1 b1 C' R' x1 s2 b3 x2 x3 C R i x4 b4 r l1 l2 = some (C', R', C'.length, r0, C'.map cQ, List.replicate C'.length 0) := by
   unfold Z11
   refine bindO_st (p_own (by omega) hR2) ?_
   exact k1
  refine bindO_st hb ?_
  have k3' : iter (Zn C'.length r6 q3 s1 b1 x1 C' R' (C'.map cQ) (List.replicate C'.length 0)) ((0 : Int), r0) = _ := k3
  show Option.map _ (iter (Zn C'.length r6 q3 s1 b1 x1 C' R' (C'.map cQ) (List.replicate C'.length 0)) ((0 : Int), r0)) = _
  rw [k3']
  rfl
 | m + 1, i, r6, r, hi, hR, h6 => by
  have hin : i < n := by omega
  obtain ⟨ring, f, he, hqr⟩ := hR.at_ i hin
  have he' : getD r i = encA (g i) ring f := he
  obtain ⟨r', k1, k2⟩ := p_applyL1 (C := C) (R := R) (s1 := s1) (s2 := s2) (b1 := b1) (b3 := b3) (b4 := b4) (x1 := x1) (x2 := x2) (x3 := x3) (x4 := x4) (l1 := l1) (l2 := l2) hn hC hR2 hq hl m (i + 1) (mput r6 (g i).key (bD (g i))) r (by omega) hR (fun k => by
   rw [mfind_put, h6 k]
   unfold lastB
   by_cases c : (g i).key = k
   ·rw [if_pos c, if_pos c]; rfl
   rw [if_neg c, if_neg c]; cases i <;> rfl)
  refine ⟨r', ?_, k2⟩
  rw [← k1]
  apply iter_inl
  unfold Z23
  dsimp only
  rw [if_pos (by rw [pilt]; simp only [ofN]; omega), if_pos (by simp only [ofN]; omega), ptoN, he', pnext (by omega)]
  have hset : setD r i (encA (g i) ring f) = r := setD_same he'
  exact congrArg (fun z => some (Sum.inl (((i + 1 : Nat) : Int), mput r6 (g i).key (bD (g i)), z))) hset
def qsOf (g : Nat → A) : Nat → List Pk := fun i => (g i).l
theorem p_applyE {s1 s2 : List UInt8} {b1 b2 b3 b4 : Bool} {C' R' C R r : List D} {df' df sq t : Int} {q d : List Int} {g : Nat → A} (hR : Rep r C.length g) (hC : C.length ≤ 1000) (hg : ∀ i, i < C.length → AOk (g i)) (hC' : C'.length ≤ 1000000) (hR' : R'.length ≤ 1000000) (ht : sumL (qsOf g) C.length ≤ 100000) :
  (rightB C' R' df' = false ∧ Z4 s1 b1 C' R' df' b2 s2 b3 df sq C R C.length t b4 r q d = some (1, s2, b3, df, C, R, C.length, t, b4, r, q, d)) ∨
  (rightB C' R' df' = true ∧ sameP s1 b1 C' R' df' s2 b3 df C R = true ∧ Z4 s1 b1 C' R' df' b2 s2 b3 df sq C R C.length t b4 r q d = some (0, s2, b3, df, C, R, C.length, t, b4, r, q, d)) ∨
  (rightB C' R' df' = true ∧ sameP s1 b1 C' R' df' s2 b3 df C R = false ∧ fitsB (clsA R' df') (qsOf g) C C' = false ∧ b2 = false ∧ Z4 s1 b1 C' R' df' b2 s2 b3 df sq C R C.length t b4 r q d = some (35, s2, b3, df, C, R, C.length, t, b4, r, q, d)) ∨
  (rightB C' R' df' = true ∧ sameP s1 b1 C' R' df' s2 b3 df C R = false ∧ (fitsB (clsA R' df') (qsOf g) C C' = true ∨ b2 = true) ∧ ∃ r', Z4 s1 b1 C' R' df' b2 s2 b3 df sq C R C.length t b4 r q d = some (0, s1, b1, df', C', R', C'.length, 0, false, r', C'.map cQ, List.replicate C'.length 0) ∧
   Rep r' C'.length fun c => newA (getD C' c) (lastB g (cKey (getD C' c)) C.length) (accQ (clsA R' df') (qsOf g) c C.length)) := by
 unfold Z4
 rw [p_right hC' hR', bindO_some, p_planSame hC' hR', bindO_some]
 cases c1 : rightB C' R' df' with
 | false => exact .inl ⟨rfl, rfl⟩
 | true =>
  have hP := rightB_P c1
  have hn8 := hP.n8
  dsimp only
  rw [if_pos rfl]
  refine .inr ?_
  cases c2 : sameP s1 b1 C' R' df' s2 b3 df C R with
  | true => exact .inl ⟨rfl, rfl, rfl⟩
  | false =>
   refine .inr ?_
   rw [if_neg (by simp), p_queues hR hC hg, bindO_some]
   dsimp only
   have hcls : ∀ x, 0 ≤ clsA R' df' x ∧ clsA R' df' x < (C'.length : Int) := fun x => clsA_ok hP.df hP.rules
   obtain ⟨out, k1, k2, k3⟩ := p_remap (s1 := s2) (s2 := s1) (b1 := b3) (b2 := b1) (x1 := df) (R := R) (C := C) (C' := C') (R' := R') (df' := df') (qs := qsOf g) (r5 := queuesS C.length g) (by omega) hC (by simp [queuesS]) (fun i hi => by
    rw [pgetD (by simpa [queuesS] using hi)]; simp [queuesS, D.toL, qsOf]) ht hR' hcls
   rw [k1, bindO_some]
   dsimp only
   have hlen : ∀ c, c < C'.length → (pks out c).length ≤ 100000 := fun c hc => by
    rw [k3 c hc]
    have := accQ_len (cls := clsA R' df') (qs := qsOf g) (c := c) C.length
    omega
   obtain ⟨r', h1, h2⟩ := p_applyL1 (C := C) (R := R) (s1 := s1) (s2 := s2) (b1 := b1) (b3 := b3) (b4 := b4) (x1 := df') (x2 := df) (x3 := sq) (x4 := t) (l1 := q) (l2 := d) hC (by omega) hR' k2 hlen C.length 0 [] r (by omega) hR (fun k => rfl)
   have h2' : Rep r' C'.length fun c => newA (getD C' c) (lastB g (cKey (getD C' c)) C.length) (accQ (clsA R' df') (qsOf g) c C.length) := h2.congr fun j hj => by rw [k3 j hj]
   have hL : Z8v C.length s1 b1 C' R' df' s2 b3 df sq C R t b4 q d out = Z23 C.length s1 b1 C' R' df' s2 b3 df sq C R t b4 q d out := rfl
   rw [hL]
   have h1' : iter (Z23 C.length s1 b1 C' R' df' s2 b3 df sq C R t b4 q d out) ((0 : Int), ([] : List D), r) = _ := h1
   rw [h1']
   generalize fitsB (clsA R' df') (qsOf g) C C' = b
   cases b with
   | true => exact .inr ⟨rfl, rfl, .inl rfl, r', by rw [if_pos rfl], h2'⟩
   | false =>
    cases b2 with
    | true => exact .inr ⟨rfl, rfl, .inr rfl, r', by rw [if_neg (by simp), if_pos rfl], h2'⟩
    | false => exact .inl ⟨rfl, rfl, rfl, rfl, by rw [if_neg (by simp), if_neg (by simp)]⟩
theorem p_apply {s1 s2 : List UInt8} {b1 b2 b3 b4 : Bool} {C' R' C R r : List D} {df' df sq t : Int} {q d : List Int} {g : Nat → A} (hR : Rep r C.length g) (hC : C.length ≤ 1000) (hg : ∀ i, i < C.length → AOk (g i)) (hC' : C'.length ≤ 1000000) (hR' : R'.length ≤ 1000000) (ht : sumL (qsOf g) C.length ≤ 100000) :
  (∃ e, (e = 0 → sameP s1 b1 C' R' df' s2 b3 df C R = true) ∧ (rightB C' R' df' = false ↔ e = 1) ∧ Z4 s1 b1 C' R' df' b2 s2 b3 df sq C R C.length t b4 r q d = some (e, s2, b3, df, C, R, C.length, t, b4, r, q, d) ∧ (b2 = true → rightB C' R' df' = true → e = 0)) ∨
  (rightB C' R' df' = true ∧ ∃ r', Z4 s1 b1 C' R' df' b2 s2 b3 df sq C R C.length t b4 r q d = some (0, s1, b1, df', C', R', C'.length, 0, false, r', C'.map cQ, List.replicate C'.length 0) ∧
   Rep r' C'.length fun c => newA (getD C' c) (lastB g (cKey (getD C' c)) C.length) (accQ (clsA R' df') (qsOf g) c C.length)) := by
 rcases p_applyE (s1 := s1) (s2 := s2) (b1 := b1) (b2 := b2) (b3 := b3) (b4 := b4) (df' := df') (df := df) (sq := sq) (t := t) (q := q) (d := d) (R := R) hR hC hg hC' hR' ht with ⟨h1, h2⟩ | ⟨h1, h2, h3⟩ | ⟨h1, h2, h3, h4, h5⟩ | ⟨h1, h2, h3, h4⟩
 ·exact .inl ⟨1, fun h => by omega, by simp [h1], h2, fun _ h => by rw [h1] at h; cases h⟩
 ·exact .inl ⟨0, fun _ => h2, by simp [h1], h3, fun _ _ => rfl⟩
 ·exact .inl ⟨35, fun h => by omega, by simp [h1], h5, fun h => by rw [h4] at h; cases h⟩
 exact .inr ⟨h1, h4⟩
theorem p_queueOk {r2 : List D} {x1 : Int} (h : r2.length ≤ 1000000) : ∀ (m i : Nat) (last : Int), i + m = r2.length → ∃ b, iter (Z19 r2 x1) (last, (i : Int)) = some b
 | 0, i, last, hi => ⟨true, iter_inr (by
   unfold Z19
   dsimp only
   rw [if_neg (by rw [pilt]; simp only [ofN, xlen]; omega)])⟩
 | m + 1, i, last, hi => by
  have hB : Z19 r2 x1 (last, (i : Int)) = some (.inr false) ∨ ∃ y, Z19 r2 x1 (last, (i : Int)) = some (.inl (y, ((i + 1 : Nat) : Int))) := by
   unfold Z19
   dsimp only
   rw [if_pos (by rw [pilt]; simp only [ofN, xlen]; omega), if_pos (by simp only [ofN, xlen]; omega), pnext (by omega)]
   repeat' split
   all_goals first | exact .inl rfl | exact .inr ⟨_, rfl⟩
  rcases hB with h1 | ⟨y, h1⟩
  ·exact ⟨false, iter_inr h1⟩
  obtain ⟨b, h2⟩ := p_queueOk h m (i + 1) y (by omega)
  exact ⟨b, by rw [← h2]; exact iter_inl h1⟩
theorem p_idxQ2 {r1 r2 : List D} {x1 x2 : Int} {l1 l2 : List Int} {b1 : Bool} (h : r1.length ≤ 1000000) (hq : ∀ i, i < r1.length → (D.toL (getD r1 i)).length ≤ 1000000) : ∀ (m i : Nat), i + m = r1.length → ∃ y, iter (Zt r1 x1 l1 x2 b1 l2 r2) (i : Int) = some y
 | 0, i, hi => ⟨-1, iter_inr (by
   unfold Zt
   dsimp only
   rw [if_neg (by rw [pilt]; simp only [ofN, xlen]; omega)])⟩
 | m + 1, i, hi => by
  obtain ⟨b, hb⟩ := p_queueOk (x1 := x1) (hq i (by omega)) (D.toL (getD r1 i)).length 0 0 (by omega)
  have hin : Z1o (D.toL (getD r1 i)) x1 l1 x2 b1 l2 r2 = some (bnot b) := by
   unfold Z1o Z2e
   have hb' : iter (Z19 (D.toL (getD r1 i)) x1) ((0 : Int), (0 : Int)) = some b := hb
   exact bindO_st hb' rfl
  have hB : Zt r1 x1 l1 x2 b1 l2 r2 (i : Int) = some (.inr (i : Int)) ∨ Zt r1 x1 l1 x2 b1 l2 r2 (i : Int) = some (.inl ((i + 1 : Nat) : Int)) := by
   unfold Zt
   dsimp only
   rw [if_pos (by rw [pilt]; simp only [ofN, xlen]; omega), if_pos (by simp only [ofN, xlen]; omega), pnext (by omega), ptoN, hin, bindO_some]
   split
   ·exact .inl rfl
   exact .inr rfl
  rcases hB with h1 | h1
  ·exact ⟨_, iter_inr h1⟩
  obtain ⟨y, h2⟩ := p_idxQ2 (x1 := x1) (x2 := x2) (l1 := l1) (l2 := l2) (b1 := b1) (r2 := r2) h hq m (i + 1) (by omega)
  exact ⟨y, by rw [← h2]; exact iter_inl h1⟩
theorem p_snapRight {r1 : List D} {x1 x2 : Int} {l1 l2 : List Int} {b1 : Bool} (h : r1.length ≤ 1000000) (hq : ∀ i, i < r1.length → (D.toL (getD r1 i)).length ≤ 1000000) : ∃ b, Z1v x1 l1 x2 b1 l2 r1 = some b ∧ (b = true → r1.length = l1.length) := by
 obtain ⟨y, hy⟩ := p_idxQ2 (r2 := r1) (x1 := x1) (x2 := x2) (l1 := l1) (l2 := l2) (b1 := b1) h hq r1.length 0 (by omega)
 have hc : Z26 r1 x1 l1 x2 b1 l2 r1 = some (ile 0 y) := by
  unfold Z26 Z2r
  have hy' : iter (Zt r1 x1 l1 x2 b1 l2 r1) (0 : Int) = some y := hy
  exact bindO_st hy' rfl
 unfold Z1v
 rw [hc, bindO_some]
 by_cases c1 : ilt (8 : Int) (ofN (xlen l1)) = true
 ·rw [if_pos c1]; exact ⟨_, rfl, fun e => by cases e⟩
 rw [if_neg c1]
 by_cases c2 : ieq (ofN (xlen r1)) (ofN (xlen l1)) = true
 ·rw [if_pos c2]
  rw [pieq] at c2
  have c3 : r1.length = l1.length := by simp only [ofN, xlen] at c2; omega
  repeat' split
  all_goals exact ⟨_, rfl, fun _ => c3⟩
 rw [if_neg c2]; exact ⟨_, rfl, fun e => by cases e⟩
theorem tokens_len {n : Nat} {g : Nat → A} : (tokensS n g).length = n := by simp [tokensS]
theorem queues_len {n : Nat} {g : Nat → A} : (queuesS n g).length = n := by simp [queuesS]
theorem queues_at {n i : Nat} {g : Nat → A} (h : i < n) : D.toL (getD (queuesS n g) i) = (g i).l.map mkP := by
 rw [pgetD (by rw [queues_len]; exact h)]; simp [queuesS, D.toL]
theorem tokens_at {n i : Nat} {g : Nat → A} (h : i < n) : getI (tokensS n g) i = (g i).bt := by
 rw [pgetI (by rw [tokens_len]; exact h)]; simp [tokensS]
theorem map_pk_mkP (l : List Pk) : (l.map mkP).map pk = l := by
 rw [List.map_map]
 have : pk ∘ mkP = id := by funext p; rfl
 rw [this, List.map_id]
theorem p_restore {s : List UInt8} {b2 b1 : Bool} {df sq t : Int} {C R r : List D} {n : Nat} {q d : List Int} {g : Nat → A} (hR : Rep r n g) (hn : n ≤ 1000) (hd : d.length ≤ 1000) (hg : ∀ i, i < n → AOk (g i)) :
  ∃ e r', Z1k sq (tokensS n g) t b1 d (queuesS n g) s b2 df sq C R n t b1 r q d = some (e, sq, t, b1, r', d) ∧ Rep r' n g := by
 unfold Z1k
 obtain ⟨b, h1, h2⟩ := p_snapRight (r1 := queuesS n g) (x1 := sq) (x2 := t) (l1 := tokensS n g) (l2 := d) (b1 := b1) (by rw [queues_len]; omega) (fun i hi => by
  rw [queues_len] at hi
  rw [queues_at hi, List.length_map]; have := (hg i hi).n; omega)
 rw [h1, bindO_some]
 cases b with
 | false => exact ⟨1, r, rfl, hR⟩
 | true =>
  dsimp only
  rw [if_pos rfl, if_pos (by rw [pieq]; simp only [ofN, xlen, tokens_len])]
  have hring : ∃ b, Z1y t b1 d t b1 q d = some (b, t, b1, d) := by
   unfold Z1y
   have hc : Z1i t b1 d = some d := by
    have : Z1i t b1 d = Z16 t b1 d := rfl
    rw [this]; exact p_copied hd
   rw [hc, bindO_some]
   repeat' split
   all_goals exact ⟨_, rfl⟩
  obtain ⟨b, hb⟩ := hring
  rw [hb, bindO_some]
  dsimp only
  have key : ∀ (m i : Nat) (r4 : List D), i + m = n → Rep r4 n g → ∃ r', iter (Z3a n (tokensS n g) (queuesS n g) sq t b1 d) ((i : Int), r4) = some ((0 : Int), sq, t, b1, r', d) ∧ Rep r' n g := by
   intro m
   induction m with
   | zero =>
    intro i r4 hi h4
    refine ⟨r4, iter_inr ?_, h4⟩
    unfold Z3a
    dsimp only
    rw [if_neg (by rw [pilt]; simp only [ofN]; omega)]
   | succ m ih =>
    intro i r4 hi h4
    have hin : i < n := by omega
    obtain ⟨ring, f, he, hqr⟩ := h4.at_ i hin
    have he' : getD r4 i = encA (g i) ring f := he
    have hA := hg i hin
    have hAn := hA.n
    obtain ⟨f', r', hld, hqr'⟩ := p_load2 (x := (g i).ql) (y := (f : Int)) (z := ((g i).l.length : Int)) (s := (g i).l.map mkP) (r := ring) (by rw [List.length_map]; omega) hqr.big
    rw [map_pk_mkP, List.length_map] at hqr'
    rw [List.length_map] at hld
    obtain ⟨r2, k1, k2⟩ := ih (i + 1) (setD r4 i (encA (g i) r' f')) (by omega) (h4.set hin ⟨r', f', rfl, hqr'⟩ fun j _ _ => rfl)
    refine ⟨r2, ?_, k2⟩
    rw [← k1]
    apply iter_inl
    unfold Z3a
    dsimp only
    rw [if_pos (by rw [pilt]; simp only [ofN]; omega), if_pos (by simp only [ofN]; omega), if_pos (by simp only [ofN, xlen, tokens_len]; omega), if_pos (by simp only [ofN, xlen, queues_len]; omega), ptoN, he', queues_at hin, tokens_at hin]
    refine bindO_st hld ?_
    rw [pnext (by omega)]
    rfl
  obtain ⟨r', k⟩ := key n 0 r (by omega) hR
  exact ⟨0, r', k⟩
theorem sumL_congr {q q' : Nat → List Pk} : ∀ {n : Nat}, (∀ i, i < n → (q i).length = (q' i).length) → sumL q n = sumL q' n
 | 0, _ => rfl
 | n + 1, h => by
  simp only [sumL]
  rw [sumL_congr (fun i hi => h i (by omega)), h n (by omega)]
theorem sumL_upd {q q' : Nat → List Pk} {c : Nat} : ∀ {n : Nat}, c < n → (∀ i, i < n → i ≠ c → (q' i).length = (q i).length) → sumL q' n + (q c).length = sumL q n + (q' c).length
 | 0, h, _ => by omega
 | n + 1, h, hq => by
  simp only [sumL]
  by_cases e : c = n
  ·subst e
   have := sumL_congr (q := q') (q' := q) (n := c) fun i hi => hq i (by omega) (by omega)
   omega
  have := sumL_upd (n := n) (c := c) (by omega) fun i hi hne => hq i (by omega) hne
  have := hq n (by omega) (by omega)
  omega
theorem sumL_add {q q1 q2 : Nat → List Pk} : ∀ {n : Nat}, (∀ i, i < n → (q i).length = (q1 i).length + (q2 i).length) → sumL q n = sumL q1 n + sumL q2 n
 | 0, _ => rfl
 | n + 1, h => by
  simp only [sumL]
  rw [sumL_add (fun i hi => h i (by omega)), h n (by omega)]
  omega
theorem sumL_nil {n : Nat} : sumL (fun _ => []) n = 0 := by
 induction n with
 | zero => rfl
 | succ n ih => simp only [sumL, ih]; rfl
theorem sumL_sel {cls : Int → Int} {n : Nat} (hc : ∀ x, 0 ≤ cls x ∧ cls x < (n : Int)) : ∀ l : List Pk, sumL (fun c => selQ cls c l) n = l.length
 | [] => by
  have : (fun c => selQ cls c []) = fun _ => [] := by funext c; rfl
  rw [this, sumL_nil]; rfl
 | p :: l => by
  have ih := sumL_sel hc l
  have hp := hc p.2.1
  have e := sumL_upd (q := fun c => selQ cls c l) (q' := fun c => selQ cls c (p :: l)) (c := (cls p.2.1).toNat) (n := n) (by omega) (fun i hi hne => by
   simp only [selQ]
   rw [List.filter_cons_of_neg (by simp; omega)])
  have h1 : selQ cls (cls p.2.1).toNat (p :: l) = p :: selQ cls (cls p.2.1).toNat l := by
   simp only [selQ]
   rw [List.filter_cons_of_pos (by simp; omega)]
  rw [h1] at e
  simp only [List.length_cons] at e ⊢
  omega
theorem sumL_acc {cls : Int → Int} {qs : Nat → List Pk} {n : Nat} (hc : ∀ x, 0 ≤ cls x ∧ cls x < (n : Int)) : ∀ i, sumL (fun c => accQ cls qs c i) n = sumL qs i
 | 0 => by
  have : (fun c => accQ cls qs c 0) = fun _ => [] := by funext c; rfl
  rw [this, sumL_nil]; rfl
 | i + 1 => by
  rw [sumL_add (q1 := fun c => accQ cls qs c i) (q2 := fun c => selQ cls c (qs i)) (fun c _ => by simp only [accQ]; exact mrg_len _ _ _ (Nat.le_refl _)), sumL_acc hc i, sumL_sel hc]
  rfl
theorem mem_mrg {x : Pk} : ∀ (n : Nat) (a b : List Pk), a.length + b.length ≤ n → (x ∈ mrg a b ↔ x ∈ a ∨ x ∈ b)
 | n, [], b, h => by simp [mrg]
 | n, p :: a, [], h => by simp [mrg]
 | 0, p :: a, q :: b, h => by simp at h
 | n + 1, p :: a, q :: b, h => by
  simp only [List.length_cons] at h
  rw [mrg]
  split
  ·rw [List.mem_cons, mem_mrg n (p :: a) b (by simp only [List.length_cons]; omega), List.mem_cons, List.mem_cons]
   constructor
   ·rintro (h1 | h1 | h1)
    ·exact .inr (.inl h1)
    ·exact .inl h1
    exact .inr (.inr h1)
   rintro (h1 | h1 | h1)
   ·exact .inr (.inl h1)
   ·exact .inl h1
   exact .inr (.inr h1)
  rw [List.mem_cons, mem_mrg n a (q :: b) (by simp only [List.length_cons]; omega), List.mem_cons, List.mem_cons]
  constructor
  ·rintro (h1 | h1 | h1)
   ·exact .inl (.inl h1)
   ·exact .inl (.inr h1)
   exact .inr h1
  rintro ((h1 | h1) | h1)
  ·exact .inl h1
  ·exact .inr (.inl h1)
  exact .inr (.inr h1)
theorem mem_acc {cls : Int → Int} {qs : Nat → List Pk} {c : Nat} {x : Pk} : ∀ n, x ∈ accQ cls qs c n ↔ ∃ i, i < n ∧ x ∈ qs i ∧ cls x.2.1 = (c : Int)
 | 0 => by simp [accQ]
 | n + 1 => by
  simp only [accQ]
  rw [mem_mrg _ _ _ (Nat.le_refl _), mem_acc n]
  simp only [selQ, List.mem_filter, beq_iff_eq]
  constructor
  ·rintro (⟨i, h1, h2⟩ | h)
   ·exact ⟨i, by omega, h2⟩
   exact ⟨n, by omega, h⟩
  rintro ⟨i, h1, h2⟩
  by_cases e : i = n
  ·subst e; exact .inr h2
  exact .inl ⟨i, by omega, h2⟩
structure W where
 key : List UInt8
 up : Bool
 df : Int
 sq : Int
 C : List D
 R : List D
 t : Int
 ad : Bool
 d : List Int
 g : Nat → A
def W.cls (w : W) : Int → Int := clsA w.R w.df
def clsU (C : List D) : Prop := ∀ c ∈ C, U (cQ c) ∧ U (D.toI (D.fld c 2)) ∧ U (D.toI (D.fld c 3))
structure SW (w : W) (r : List D) (m : Nat) : Prop where
 right : RightP w.C w.R w.df
 rl : w.R.length ≤ 1000000
 ud : clsU w.C
 rep : Rep r w.C.length w.g
 ok : ∀ j, j < w.C.length → AOk (w.g j)
 of : ∀ j, j < w.C.length → ∃ bt l, w.g j = { freshA (getD w.C j) with bt := bt, l := l }
 ring : RingOk (w.C.map cQ) w.t w.d
 sq : 0 ≤ w.sq ∧ w.sq ≤ (m : Int)
 tot : sumL (qsOf w.g) w.C.length ≤ m
theorem SW.cls {w : W} {r : List D} {m : Nat} (h : SW w r m) (x : Int) : 0 ≤ w.cls x ∧ w.cls x < (w.C.length : Int) := clsA_ok h.right.df h.right.rules
def z3 : Pk := (0, 0, 0)
inductive Ev (w w' : W) (a b : Pk) : Prop
 | same (ha : a = z3) (hb : b = z3) (hs : w'.sq = w.sq) (hn : w'.C.length = w.C.length) (hc : w'.cls = w.cls) (hq : ∀ j, j < w.C.length → (w'.g j).l = (w.g j).l)
 | came (flow size : Int) (c : Nat) (hp : badP flow size = false) (hcl : w.cls flow = (c : Int)) (hl : ((w.g c).l.length : Int) < (w.g c).ql) (ha : a = (w.sq + 1, flow, size)) (hb : b = z3) (hs : w'.sq = w.sq + 1) (hn : w'.C.length = w.C.length) (hc : w'.cls = w.cls) (hq : ∀ j, j < w.C.length → (w'.g j).l = if j = c then (w.g c).l ++ [a] else (w.g j).l)
 | went (c : Nat) (l : List Pk) (hcn : c < w.C.length) (hl : (w.g c).l = b :: l) (ha : a = z3) (hs : w'.sq = w.sq) (hn : w'.C.length = w.C.length) (hc : w'.cls = w.cls) (hq : ∀ j, j < w.C.length → (w'.g j).l = if j = c then l else (w.g j).l)
 | moved (ha : a = z3) (hb : b = z3) (hs : w'.sq = w.sq) (hq : ∀ c, c < w'.C.length → (w'.g c).l = accQ w'.cls (qsOf w.g) c w.C.length)
theorem SW.more {w : W} {r r' : List D} {m : Nat} (h : SW w r m) (hr : Rep r' w.C.length w.g) : SW w r' (m + 1) :=
 { h with rep := hr, sq := by have := h.sq; omega, tot := by have := h.tot; omega }
theorem SW.arr {w : W} {r r' : List D} {m : Nat} (h : SW w r m) (hm : m ≤ 1000) {flow size : Int} (hR : Rep r' w.C.length (arrS w.g w.sq (w.cls flow).toNat flow size).2.2.2) :
  ∃ w' : W, w' = { w with sq := (arrS w.g w.sq (w.cls flow).toNat flow size).2.2.1, g := (arrS w.g w.sq (w.cls flow).toNat flow size).2.2.2 } ∧ SW w' r' (m + 1) ∧ Ev w w' (arrS w.g w.sq (w.cls flow).toNat flow size).1 z3 := by
 refine ⟨_, rfl, ?_⟩
 have hcl := h.cls flow
 have hce : w.cls flow = ((w.cls flow).toNat : Int) := by omega
 have hcn : (w.cls flow).toNat < w.C.length := by omega
 generalize (w.cls flow).toNat = c at *
 revert hR
 unfold arrS
 by_cases c1 : badP flow size = true
 ·rw [if_pos c1]; exact fun hR => ⟨h.more hR, .same rfl rfl rfl rfl rfl fun _ _ => rfl⟩
 rw [if_neg c1]
 by_cases c2 : (w.g c).ql ≤ ((w.g c).l.length : Int)
 ·rw [if_pos c2]; exact fun hR => ⟨h.more hR, .same rfl rfl rfl rfl rfl fun _ _ => rfl⟩
 rw [if_neg c2]
 intro hR
 have hsz : 1 ≤ size ∧ size ≤ 1500 := by
  simp only [badP, Bool.or_eq_true, decide_eq_true_eq] at c1; omega
 have hA := h.ok c hcn
 have htot := h.tot
 have hl1 : (w.g c).l.length ≤ 1000 := by
  have := sumL_mono (qs := qsOf w.g) (i := c + 1) (j := w.C.length) (by omega)
  have e : (qsOf w.g c).length = (w.g c).l.length := rfl
  simp only [sumL] at this; omega
 have hp : AOk (putA (w.g c) (w.sq + 1, flow, size)) := ⟨hA.q, hA.br, hA.bb, hA.bt, by simp [putA]; omega, fun p hp => by
  rcases List.mem_append.1 hp with hp | hp
  ·exact hA.sz p hp
  simp at hp; subst hp; exact hsz⟩
 have hS := h.sq
 refine ⟨⟨h.right, h.rl, h.ud, hR, fun j hj => ?_, fun j hj => ?_, h.ring, by dsimp only; omega, ?_⟩, .came flow size c (by simpa using c1) hce (by omega) rfl rfl rfl rfl rfl fun j hj => ?_⟩
 ·by_cases e : j = c
  ·subst e; simpa [updA] using hp
  simpa [updA, e] using h.ok j hj
 ·obtain ⟨bt, l, e1⟩ := h.of j hj
  by_cases e : j = c
  ·subst e
   refine ⟨bt, l ++ [(w.sq + 1, flow, size)], ?_⟩
   dsimp only at hj ⊢
   simp only [updA, if_true, putA, e1]
  exact ⟨bt, l, by simpa [updA, e] using e1⟩
 ·have := sumL_upd (q := qsOf w.g) (q' := qsOf (updA w.g c (putA (w.g c) (w.sq + 1, flow, size)))) (c := c) (n := w.C.length) hcn (fun i hi hne => by simp [qsOf, updA, hne])
  have e : (qsOf (updA w.g c (putA (w.g c) (w.sq + 1, flow, size))) c).length = (qsOf w.g c).length + 1 := by simp [qsOf, updA, putA]
  dsimp only
  omega
 by_cases e : j = c
 ·subst e; simp [updA, putA]
 simp [updA, e]
theorem SW.tick {w : W} {r r' : List D} {m : Nat} {x : Int} (h : SW w r m) (hx : U x) (hR : Rep r' w.C.length fun i => tickA x (w.g i)) : SW { w with g := fun i => tickA x (w.g i) } r' (m + 1) ∧ Ev w { w with g := fun i => tickA x (w.g i) } z3 z3 :=
 ⟨⟨h.right, h.rl, h.ud, hR, fun j hj => tickA_ok hx (h.ok j hj), fun j hj => by obtain ⟨bt, l, e⟩ := h.of j hj; exact ⟨_, l, by dsimp only; rw [e]; rfl⟩, h.ring, by have := h.sq; dsimp only; omega, by have := h.tot; show sumL (qsOf w.g) w.C.length ≤ _; omega⟩, .same rfl rfl rfl rfl rfl fun _ _ => rfl⟩
theorem SW.go {w : W} {r r' : List D} {m : Nat} (h : SW w r m) (hR : Rep r' w.C.length (nextS w.up w.C.length w.g (w.C.map cQ) w.t w.ad w.d).2.2) :
  ∃ w' : W, w' = { w with t := (nextS w.up w.C.length w.g (w.C.map cQ) w.t w.ad w.d).2.1.1, ad := (nextS w.up w.C.length w.g (w.C.map cQ) w.t w.ad w.d).2.1.2.1, d := (nextS w.up w.C.length w.g (w.C.map cQ) w.t w.ad w.d).2.1.2.2, g := (nextS w.up w.C.length w.g (w.C.map cQ) w.t w.ad w.d).2.2 } ∧
   SW w' r' (m + 1) ∧ Ev w w' z3 (nextS w.up w.C.length w.g (w.C.map cQ) w.t w.ad w.d).1.1 := by
 refine ⟨_, rfl, ?_⟩
 obtain ⟨hok, hgo⟩ := next_go (up := w.up) (ad := w.ad) h.ok (by simp) h.ring
 revert hR
 unfold nextS
 generalize nextF (w.C.map cQ) (viewsS w.up w.C.length w.g) w.t w.ad w.d = v at *
 obtain ⟨v1, v2, v3, v4⟩ := v
 dsimp only at hok hgo ⊢
 have hsq := h.sq
 have htot := h.tot
 rcases hgo with rfl | ⟨c, p, l, rfl, hc, hl, hup, hsh⟩
 ·rw [if_pos (by omega)]
  intro hR
  exact ⟨⟨h.right, h.rl, h.ud, hR, h.ok, h.of, hok, by dsimp only; omega, by dsimp only; omega⟩, .same rfl rfl rfl rfl rfl fun _ _ => rfl⟩
 rw [if_neg (by omega)]
 simp only [Int.toNat_natCast]
 have hgS : goS w.g c = (p, updA w.g c (popA (w.g c) p l)) := by unfold goS; rw [hl]
 rw [hgS]
 intro hR
 have hA := h.ok c hc
 have hb := hA.bt.lo
 have hb1 := hA.bt.hi
 have hp2 := hA.sz p (by rw [hl]; simp)
 have hn5 := hA.n
 have hp : AOk (popA (w.g c) p l) := ⟨hA.q, hA.br, hA.bb, by
  have := hA.bt
  unfold popA
  dsimp only
  split
  ·split
   ·exact this
   unfold U; omega
  exact this, by rw [hl] at hn5; simp at hn5; simp [popA]; omega, fun y hy => hA.sz y (by rw [hl]; exact List.mem_cons_of_mem _ hy)⟩
 refine ⟨⟨h.right, h.rl, h.ud, hR, fun j hj => ?_, fun j hj => ?_, hok, by dsimp only; omega, ?_⟩, .went c l hc hl rfl rfl rfl rfl fun j hj => ?_⟩
 ·by_cases e : j = c
  ·subst e; simpa [updA] using hp
  simpa [updA, e] using h.ok j hj
 ·obtain ⟨bt, l2, e1⟩ := h.of j hj
  by_cases e : j = c
  ·subst e
   refine ⟨(popA (w.g j) p l).bt, l, ?_⟩
   dsimp only at hj ⊢
   simp only [updA, if_true]
   have : popA (w.g j) p l = { w.g j with bt := (popA (w.g j) p l).bt, l := l } := rfl
   rw [this, e1]
  exact ⟨bt, l2, by simpa [updA, e] using e1⟩
 ·have := sumL_upd (q := qsOf w.g) (q' := qsOf (updA w.g c (popA (w.g c) p l))) (c := c) (n := w.C.length) hc (fun i hi hne => by simp [qsOf, updA, hne])
  have e : (qsOf (updA w.g c (popA (w.g c) p l)) c).length + 1 = (qsOf w.g c).length := by simp [qsOf, updA, popA, hl]
  dsimp only
  omega
 by_cases e : j = c
 ·subst e; simp [updA, popA]
 simp [updA, e]
theorem SW.apply {w : W} {r r' : List D} {m : Nat} {s1 : List UInt8} {b1 : Bool} {C' R' : List D} {df' : Int} (h : SW w r m) (hm : m ≤ 1000) (hr : R'.length ≤ 1000000) (hu : clsU C') (hP : RightP C' R' df')
  (hR : Rep r' C'.length fun c => newA (getD C' c) (lastB w.g (cKey (getD C' c)) w.C.length) (accQ (clsA R' df') (qsOf w.g) c w.C.length)) :
  SW ⟨s1, b1, df', w.sq, C', R', 0, false, List.replicate C'.length 0, fun c => newA (getD C' c) (lastB w.g (cKey (getD C' c)) w.C.length) (accQ (clsA R' df') (qsOf w.g) c w.C.length)⟩ r' (m + 1) ∧
  Ev w ⟨s1, b1, df', w.sq, C', R', 0, false, List.replicate C'.length 0, fun c => newA (getD C' c) (lastB w.g (cKey (getD C' c)) w.C.length) (accQ (clsA R' df') (qsOf w.g) c w.C.length)⟩ z3 z3 := by
 have h1 := hP.n1; have h8 := hP.n8
 have hcls : ∀ x, 0 ≤ clsA R' df' x ∧ clsA R' df' x < (C'.length : Int) := fun x => clsA_ok hP.df hP.rules
 have htot := h.tot
 refine ⟨⟨hP, hr, hu, hR, fun j hj => ?_, fun j hj => ⟨_, _, rfl⟩, ⟨by dsimp only; omega, by dsimp only; simp; omega, by dsimp only; simp; omega, by dsimp only; simp, fun x hx => ?_, fun x hx => ?_⟩, by have := h.sq; dsimp only; omega, ?_⟩, .moved rfl rfl rfl fun c hc => rfl⟩
 ·have hd : getD C' j ∈ C' := by rw [pgetD hj]; exact List.getElem_mem hj
  refine newA_ok h.ok (hu _ hd) ?_ fun p hp => ?_
  ·have := accQ_len (cls := clsA R' df') (qs := qsOf w.g) (c := j) w.C.length
   omega
  obtain ⟨i, hi, hp1, _⟩ := (mem_acc _).1 hp
  exact (h.ok i hi).sz p hp1
 ·obtain ⟨d, hd, rfl⟩ := List.mem_map.1 hx
  exact (hu d hd).1
 ·have := List.eq_of_mem_replicate hx
  subst this; unfold U; omega
 have : sumL (qsOf fun c => newA (getD C' c) (lastB w.g (cKey (getD C' c)) w.C.length) (accQ (clsA R' df') (qsOf w.g) c w.C.length)) C'.length = sumL (qsOf w.g) w.C.length := sumL_acc hcls _
 dsimp only
 rw [this]; omega
theorem wf_U {x : Int} (h : (Lit.int .u64 x).wf = true) : U x := by
 have : 0 ≤ x ∧ x ≤ 18446744073709551615 := by simpa [Lit.wf, IntKind.min, IntKind.max, IntKind.signed, IntKind.bits, Int.lt_add_one_iff, Int.le_sub_one_iff] using h
 unfold U; omega
theorem wf_u8 {x : Int} (h : (Lit.int .u8 x).wf = true) : 0 ≤ x ∧ x < 256 := by
 have : 0 ≤ x ∧ x ≤ 255 := by simpa [Lit.wf, IntKind.min, IntKind.max, IntKind.signed, IntKind.bits, Int.lt_add_one_iff, Int.le_sub_one_iff] using h
 omega
def pCls (d : D) : List D := D.toL (D.fld d 2)
def pRules (d : D) : List D := D.toL (D.fld (D.fld d 3) 0)
def pDf (d : D) : Int := D.toI (D.fld (D.fld d 3) 1)
def fewP (r1 : List D) (i : Nat) : Bool := !decide (20 < (pCls (getD r1 i)).length) && !decide (40 < (pRules (getD r1 i)).length)
def fewB (r1 r2 : List D) : Bool := allN r1.length (fewP r1) && (decide (0 < r1.length) && (decide (r1.length ≤ 10) && decide (r2.length ≤ 300)))
theorem p_few {r1 r2 : List D} (h : r1.length ≤ maxLen) : Z1p r1 r2 = some (fewB r1 r2) := by
 unfold Z1p fewB
 unfold maxLen at h
 refine iter_all (P := fewP r1) (fun i hi => ?_) ?_
 ·unfold Z3x fewP pCls pRules
  dsimp only
  rw [if_pos (by rw [pilt]; simp only [ofN, xlen]; omega), if_pos (by simp only [ofN, xlen]; omega), ptoN]
  simp only [pilt, ofN, xlen]
  by_cases c1 : 20 < (D.toL (D.fld (getD r1 i) 2)).length
  ·rw [if_pos (by omega)]; simp [c1]
  rw [if_neg (by omega), if_pos (by omega)]
  by_cases c2 : 40 < (D.toL (D.fld (D.fld (getD r1 i) 3) 0)).length
  ·rw [if_pos (by omega)]; simp [c2]
  rw [if_neg (by omega), pnext (by omega)]
  simp [c1, c2]
 unfold Z3x
 dsimp only
 rw [if_neg (by rw [pilt]; simp only [ofN, xlen]; omega)]
 simp only [pilt, pile, ofN, xlen]
 by_cases c1 : 0 < r1.length
 ·rw [if_pos (by omega)]
  by_cases c2 : r1.length ≤ 10
  ·rw [if_pos (by omega)]
   simp only [c1, c2, decide_true, Bool.true_and, ile]
   congr 2
   rw [decide_eq_decide]; omega
  rw [if_neg (by omega)]; simp [c2]
 rw [if_neg (by omega)]; simp [c1]
theorem fewB_ok {r1 r2 : List D} (h : fewB r1 r2 = true) : 1 ≤ r1.length ∧ r1.length ≤ 10 ∧ r2.length ≤ 300 ∧ ∀ i, i < r1.length → (pCls (getD r1 i)).length ≤ 20 ∧ (pRules (getD r1 i)).length ≤ 40 := by
 unfold fewB fewP at h
 simp only [Bool.and_eq_true, Bool.not_eq_true', decide_eq_false_iff_not, allN_iff, decide_eq_true_eq] at h
 obtain ⟨h1, h2, h3, h4⟩ := h
 exact ⟨by omega, h3, h4, fun i hi => by have := h1 i hi; omega⟩
def portT : Ty := .st [.str, .bool, .row 83 (.st [.str, .int .u64, .int .u64, .int .u64, .int .i64, .bool]), .st [.row 96 (.st [.int .i64, .int .i64, .int .i64]), .int .i64]]
theorem port_cls {d : D} (h : portT.rng d) : ∀ c ∈ pCls d, U (cQ c) ∧ U (D.toI (D.fld c 2)) ∧ U (D.toI (D.fld c 3)) := fun c hc => by
 simp only [portT, Ty.rng, Ty.rngL] at h
 have h1 := h.2.2.1.2 c hc
 exact ⟨wf_U h1.2.1, wf_U h1.2.2.1, wf_U h1.2.2.2.1⟩
structure PortsOk (r1 : List D) : Prop where
 n : 1 ≤ r1.length ∧ r1.length ≤ 10
 cls : ∀ i, i < r1.length → (pCls (getD r1 i)).length ≤ 20
 rules : ∀ i, i < r1.length → (pRules (getD r1 i)).length ≤ 40
 ud : ∀ i, i < r1.length → clsU (pCls (getD r1 i))
theorem p_idx {r1 : List D} {x : Int} (h : 1 ≤ r1.length) (hx : 0 ≤ x ∧ x < 256) : ∃ k : Nat, k < r1.length ∧ irem (iconv .i64 x) (ofN (xlen r1)) = (k : Int) := by
 refine ⟨x.toNat % r1.length, Nat.mod_lt _ (by omega), ?_⟩
 simp only [irem, iconv, ofN, xlen]
 rw [pwi64 (by omega) (by omega), Int.tmod_eq_emod_of_nonneg hx.1]
 rw [Int.natCast_emod, Int.toNat_of_nonneg hx.1]
theorem p_do {r1 : List D} {x1 x2 x3 x4 x5 : Int} {w : W} {r : List D} {m : Nat} (hp : PortsOk r1) (S : SW w r m) (hm : m ≤ 1000) (h4 : U x4) (h5 : 0 ≤ x5 ∧ x5 < 256) :
  ∃ (a b : Pk) (w' : W) (r' : List D), Z1r r1 x1 x2 x3 x4 x5 w.key w.up w.df w.sq w.C w.R w.C.length w.t w.ad r (w.C.map cQ) w.d =
   some (a.1, a.2.1, a.2.2, b.1, b.2.1, b.2.2, w'.key, w'.up, w'.df, w'.sq, w'.C, w'.R, w'.C.length, w'.t, w'.ad, r', w'.C.map cQ, w'.d) ∧ SW w' r' (m + 1) ∧ Ev w w' a b ∧ (x1 ≠ 3 → x1 ≠ 4 → w'.C = w.C ∧ w'.R = w.R ∧ w'.df = w.df ∧ w'.key = w.key ∧ w'.up = w.up) := by
 have h8 := S.right.n8
 have hsq := S.sq
 unfold Z1r
 by_cases c0 : x1 = 0
 ·rw [if_pos (by rw [pieq]; exact c0)]
  obtain ⟨r', e1, e2⟩ := p_arrive (flow := x2) (size := x3) (df := w.df) (seq := w.sq) (x5 := w.t) (s := w.key) (b1 := w.up) (b2 := w.ad) (r1 := w.C) (r2 := w.R) (l1 := w.C.map cQ) (l2 := w.d) S.rep S.rl (S.cls x2) S.ok (by omega)
  obtain ⟨w', rfl, k1, k2⟩ := S.arr hm (flow := x2) (size := x3) e2
  exact ⟨_, _, _, r', bindO_st e1 rfl, k1, k2, fun _ _ => ⟨rfl, rfl, rfl, rfl, rfl⟩⟩
 rw [if_neg (by rw [pieq]; exact c0)]
 by_cases c1 : x1 = 1
 ·rw [if_pos (by rw [pieq]; exact c1)]
  obtain ⟨r', e1, e2⟩ := p_tick (x := x4) (df := w.df) (seq := w.sq) (x5 := w.t) (s := w.key) (b1 := w.up) (b2 := w.ad) (r1 := w.C) (r2 := w.R) (l1 := w.C.map cQ) (l2 := w.d) S.rep h4 (by omega) S.ok
  obtain ⟨k1, k2⟩ := S.tick h4 e2
  exact ⟨z3, z3, { w with g := fun i => tickA x4 (w.g i) }, r', bindO_st e1 rfl, k1, k2, fun _ _ => ⟨rfl, rfl, rfl, rfl, rfl⟩⟩
 rw [if_neg (by rw [pieq]; exact c1)]
 by_cases c2 : x1 = 2
 ·rw [if_pos (by rw [pieq]; exact c2)]
  obtain ⟨r', e1, e2⟩ := p_nextS (up := w.up) (ad := w.ad) (df := w.df) (seq := w.sq) (t := w.t) (s := w.key) (r1 := w.C) (r2 := w.R) (q := w.C.map cQ) (d := w.d) S.rep (by omega) S.ok (by simp) S.ring
  obtain ⟨w', rfl, k1, k2⟩ := S.go e2
  exact ⟨z3, _, _, r', bindO_st e1 rfl, k1, k2, fun _ _ => ⟨rfl, rfl, rfl, rfl, rfl⟩⟩
 rw [if_neg (by rw [pieq]; exact c2)]
 obtain ⟨k, hk, hi⟩ := p_idx hp.n.1 h5
 have hn := hp.n
 have hcl := hp.cls k hk
 have hru := hp.rules k hk
 have app : ∀ b2 : Bool, ∃ (e : Int) (w' : W) (r' : List D), Z4 (D.toS (D.fld (getD r1 k) 0)) (D.toB (D.fld (getD r1 k) 1)) (D.toL (D.fld (getD r1 k) 2)) (D.toL (D.fld (D.fld (getD r1 k) 3) 0)) (D.toI (D.fld (D.fld (getD r1 k) 3) 1)) b2 w.key w.up w.df w.sq w.C w.R w.C.length w.t w.ad r (w.C.map cQ) w.d =
   some (e, w'.key, w'.up, w'.df, w'.C, w'.R, w'.C.length, w'.t, w'.ad, r', w'.C.map cQ, w'.d) ∧ w'.sq = w.sq ∧ SW w' r' (m + 1) ∧ Ev w w' z3 z3 := fun b2 => by
  have htot := S.tot
  rcases p_apply (s1 := D.toS (D.fld (getD r1 k) 0)) (s2 := w.key) (b1 := D.toB (D.fld (getD r1 k) 1)) (b2 := b2) (b3 := w.up) (b4 := w.ad) (C' := pCls (getD r1 k)) (R' := pRules (getD r1 k)) (df' := pDf (getD r1 k)) (df := w.df) (sq := w.sq) (t := w.t) (R := w.R) (q := w.C.map cQ) (d := w.d) S.rep (by omega) S.ok (by omega) (by omega) (by omega) with ⟨e, _, _, e1, _⟩ | ⟨hb, r', e1, e2⟩
  ·exact ⟨e, w, r, e1, rfl, S.more S.rep, .same rfl rfl rfl rfl rfl fun _ _ => rfl⟩
  obtain ⟨k1, k2⟩ := S.apply (s1 := D.toS (D.fld (getD r1 k) 0)) (b1 := D.toB (D.fld (getD r1 k) 1)) hm (by omega) (hp.ud k hk) (rightB_P hb) e2
  exact ⟨0, ⟨D.toS (D.fld (getD r1 k) 0), D.toB (D.fld (getD r1 k) 1), pDf (getD r1 k), w.sq, pCls (getD r1 k), pRules (getD r1 k), 0, false, List.replicate (pCls (getD r1 k)).length 0, _⟩, r', e1, rfl, k1, k2⟩
 by_cases c3 : x1 = 3
 ·rw [if_pos (by rw [pieq]; exact c3), if_pos (by rw [pieq]; exact c3), if_pos (by simp only [ofN, xlen]; omega), hi, if_pos (by simp only [ofN, xlen]; omega), ptoN]
  obtain ⟨e, w', r', e1, e2, e3, e4⟩ := app (ieq x1 4)
  refine ⟨z3, z3, w', r', bindO_st e1 ?_, e3, e4, fun h _ => absurd c3 h⟩
  dsimp only
  rw [e2]; rfl
 rw [if_neg (by rw [pieq]; exact c3)]
 by_cases c4 : x1 = 4
 ·rw [if_pos (by rw [pieq]; exact c4), if_pos (by simp only [ofN, xlen]; omega), hi, if_pos (by simp only [ofN, xlen]; omega), ptoN]
  obtain ⟨e, w', r', e1, e2, e3, e4⟩ := app (ieq x1 4)
  refine ⟨z3, z3, w', r', bindO_st e1 ?_, e3, e4, fun _ h => absurd c4 h⟩
  dsimp only
  rw [e2]; rfl
 rw [if_neg (by rw [pieq]; exact c4)]
 by_cases c5 : x1 = 5
 ·rw [if_pos (by rw [pieq]; exact c5)]
  have hd : w.d.length ≤ 1000 := by have := S.ring.l; simp at this; omega
  have e1 := p_snap (s := w.key) (b := w.up) (b2 := w.ad) (df := w.df) (seq := w.sq) (x := w.t) (r1 := w.C) (r2 := w.R) (l1 := w.C.map cQ) (l2 := w.d) S.rep (by omega) hd S.ok
  obtain ⟨e, r', e2, e3⟩ := p_restore (s := w.key) (b2 := w.up) (b1 := w.ad) (df := w.df) (sq := w.sq) (t := w.t) (C := w.C) (R := w.R) (q := w.C.map cQ) (d := w.d) S.rep (by omega) hd S.ok
  exact ⟨z3, z3, w, r', bindO_st e1 (bindO_st e2 rfl), S.more e3, .same rfl rfl rfl rfl rfl fun _ _ => rfl, fun _ _ => ⟨rfl, rfl, rfl, rfl, rfl⟩⟩
 rw [if_neg (by rw [pieq]; exact c5)]
 exact ⟨z3, z3, w, r, rfl, S.more S.rep, .same rfl rfl rfl rfl rfl fun _ _ => rfl, fun _ _ => ⟨rfl, rfl, rfl, rfl, rfl⟩⟩
def canonC (d : D) : D := .l [.s (D.toS (D.fld d 0)), .i (D.toI (D.fld d 1)), .i (D.toI (D.fld d 2)), .i (D.toI (D.fld d 3)), .i (D.toI (D.fld d 4)), .b (D.toB (D.fld d 5))]
def canonR (d : D) : D := .l [.i (D.toI (D.fld d 0)), .i (D.toI (D.fld d 1)), .i (D.toI (D.fld d 2))]
theorem getD_map {f : D → D} {l : List D} {k : Nat} (h : k < l.length) : getD (l.map f) k = f (getD l k) := by
 rw [pgetD (by simpa using h), pgetD h]; simp
theorem take_map_next {f : D → D} {l : List D} {k : Nat} (h : k < l.length) : cat ((l.take k).map f) [f (getD l k)] = (l.take (k + 1)).map f := by
 rw [List.take_succ_eq_append_getElem h, List.map_append, pgetD h]; rfl
theorem p_port {s : List UInt8} {b b2 : Bool} {df sq x : Int} {C R r : List D} {n : Nat} {l1 l2 : List Int} (hC : C.length ≤ 1000000) (hR : R.length ≤ 1000000) : Zm s b df sq C R n x b2 r l1 l2 = some (C, R) := by
 unfold Zm Z1q
 refine bindO_st (bindO_st (p_cloneC hC) (bindO_st (p_cloneR hR) rfl)) rfl
theorem p_plain {s : List UInt8} {b : Bool} {df : Int} {C R : List D} (hC : C.length ≤ 1000000) (hR : R.length ≤ 1000000) : Z2f s b C R df = some (C.map canonC, R.map canonR) := by
 have h2 : ∀ (m i : Nat), i + m = C.length → iter (Z2u C (R.map canonR)) ((i : Int), (C.take i).map canonC) = some (C.map canonC, R.map canonR) := by
  intro m
  induction m with
  | zero =>
   intro i hi
   apply iter_inr
   unfold Z2u
   dsimp only
   rw [if_neg (by rw [pilt]; simp only [ofN, xlen]; omega), List.take_of_length_le (by omega)]
  | succ m ih =>
   intro i hi
   rw [← ih (i + 1) (by omega)]
   apply iter_inl
   unfold Z2u
   dsimp only
   rw [if_pos (by rw [pilt]; simp only [ofN, xlen]; omega), if_pos (by simp only [ofN, xlen]; omega), if_pos (by simp only [xlen, List.length_map, List.length_take, List.length_cons, List.length_nil]; omega), pnext (by omega), ptoN, ← take_map_next (by omega)]
   rfl
 have h1 : ∀ (m i : Nat), i + m = R.length → iter (Z37 R C) ((i : Int), (R.take i).map canonR) = some (C.map canonC, R.map canonR) := by
  intro m
  induction m with
  | zero =>
   intro i hi
   apply iter_inr
   unfold Z37
   dsimp only
   have h2' : iter (Z2u C (R.map canonR)) ((0 : Int), ([] : List D)) = _ := h2 C.length 0 (by omega)
   rw [if_neg (by rw [pilt]; simp only [ofN, xlen]; omega), List.take_of_length_le (by omega), h2']
   rfl
  | succ m ih =>
   intro i hi
   rw [← ih (i + 1) (by omega)]
   apply iter_inl
   unfold Z37
   dsimp only
   rw [if_pos (by rw [pilt]; simp only [ofN, xlen]; omega), if_pos (by simp only [ofN, xlen]; omega), if_pos (by simp only [xlen, List.length_map, List.length_take, List.length_cons, List.length_nil]; omega), pnext (by omega), ptoN, ← take_map_next (by omega)]
   rfl
 exact h1 R.length 0 (by omega)
theorem p_class23 {R : List D} {df x : Int} (hR : R.length ≤ 1000000) : Z2c (R.map canonR) df x = some (clsA R df x) := by
 unfold Z2c
 have key : ∀ (m i : Nat), i + m = R.length → (∀ j, j < i → (h : j < R.length) → clsIn R[j] x = false) → iter (Z2q (R.map canonR) x df) (i : Int) = some (clsA R df x) := by
  intro m
  induction m with
  | zero =>
   intro i hi hp
   apply iter_inr
   unfold Z2q
   dsimp only
   rw [if_neg (by rw [pilt]; simp only [ofN, xlen, List.length_map]; omega)]
   have : R.find? (fun d => clsIn d x) = none := by
    rw [List.find?_eq_none]
    intro d hd
    obtain ⟨j, hj, rfl⟩ := List.getElem_of_mem hd
    rw [hp j (by omega) hj]; simp
   unfold clsA
   rw [this]
  | succ m ih =>
   intro i hi hp
   have hl : i < R.length := by omega
   have g0 : D.toI (D.fld (getD (R.map canonR) i) 0) = (R[i].fld 0).toI := by rw [getD_map hl, pgetD hl]; rfl
   have g1 : D.toI (D.fld (getD (R.map canonR) i) 1) = (R[i].fld 1).toI := by rw [getD_map hl, pgetD hl]; rfl
   have g2 : D.toI (D.fld (getD (R.map canonR) i) 2) = (R[i].fld 2).toI := by rw [getD_map hl, pgetD hl]; rfl
   by_cases c : clsIn R[i] x = true
   ·have c' := c
    simp only [clsIn, Bool.and_eq_true, decide_eq_true_eq] at c'
    apply iter_inr
    unfold Z2q
    dsimp only
    rw [if_pos (by rw [pilt]; simp only [ofN, xlen, List.length_map]; omega), if_pos (by simp only [ofN, xlen, List.length_map]; omega), ptoN, g0, g1, g2, if_pos (by rw [pile]; exact c'.1), if_pos (by simp only [ofN, xlen, List.length_map]; omega), if_pos (by rw [pile]; exact c'.2), if_pos (by simp only [ofN, xlen, List.length_map]; omega)]
    have : R.find? (fun d => clsIn d x) = some R[i] := by
     rw [List.find?_eq_some_iff_getElem]
     exact ⟨c, i, hl, rfl, fun j hj => by rw [hp j hj (by omega)]; rfl⟩
    unfold clsA
    rw [this]
   rw [← ih (i + 1) (by omega) fun j hj h => by
     by_cases e : j = i
     ·subst e; simpa using c
     exact hp j (by omega) h]
   simp only [clsIn, Bool.and_eq_true, decide_eq_true_eq] at c
   apply iter_inl
   unfold Z2q
   dsimp only
   rw [if_pos (by rw [pilt]; simp only [ofN, xlen, List.length_map]; omega), if_pos (by simp only [ofN, xlen, List.length_map]; omega), ptoN, g0, g1, g2, pnext (by omega)]
   by_cases c2 : (R[i].fld 0).toI ≤ x
   ·rw [if_pos (by rw [pile]; exact c2), if_pos (by simp only [ofN, xlen, List.length_map]; omega), if_neg (by rw [pile]; exact fun h => c ⟨c2, h⟩)]
   rw [if_neg (by rw [pile]; exact c2)]
 exact key R.length 0 (by omega) fun j hj => by omega
theorem allN_true {n : Nat} : allN n (fun _ => true) = true := by simp [allN_iff]
theorem p_same22 {r : List D} (h : r.length ≤ 1000000) : Z1z r r = some true := by
 unfold Z1z
 rw [if_pos (by rw [pieq])]
 have := iter_all (B := Z2v r r) (P := fun _ => true) (n := r.length) (e := true) (fun i hi => by
  unfold Z2v
  dsimp only
  rw [if_pos (by rw [pilt]; simp only [ofN, xlen]; omega), if_pos (by simp only [ofN, xlen]; omega), if_pos (by simp only [ofN, xlen]; omega), if_pos (by simp [band, ieq]), pnext (by omega)]
  rfl) (by
  unfold Z2v
  dsimp only
  rw [if_neg (by rw [pilt]; simp only [ofN, xlen]; omega)])
 rw [this, allN_true]; rfl
theorem p_same24 {r : List Int} (h : r.length ≤ 1000000) : Zw r r = some true := by
 unfold Zw
 rw [if_pos (by rw [pieq])]
 have := iter_all (B := Z2z r r) (P := fun _ => true) (n := r.length) (e := true) (fun i hi => by
  unfold Z2z
  dsimp only
  rw [if_pos (by rw [pilt]; simp only [ofN, xlen]; omega), if_pos (by simp only [ofN, xlen]; omega), if_pos (by simp only [ofN, xlen]; omega), if_pos (by rw [pieq]), pnext (by omega)]
  rfl) (by
  unfold Z2z
  dsimp only
  rw [if_neg (by rw [pilt]; simp only [ofN, xlen]; omega)])
 rw [this, allN_true]; rfl
theorem p_same26 {x t : Int} {l d : List Int} {b : Bool} {n : Nat} {g : Nat → A} (hl : l.length ≤ 1000000) (hd : d.length ≤ 1000000) (hn : n ≤ 1000000) (hg : ∀ i, i < n → AOk (g i)) : Z7 x l t b d (queuesS n g) x l t b d (queuesS n g) = some true := by
 unfold Z7
 rw [if_pos (by rw [pieq]), if_pos (by rw [pieq]), if_pos (by rw [pbeq2]), if_pos (by rw [pieq]), p_same24 hl, bindO_some, p_same24 hd, bindO_some]
 dsimp only
 rw [if_pos rfl, if_pos rfl]
 have := iter_all (B := Z32 (queuesS n g) (queuesS n g)) (P := fun _ => true) (n := n) (e := true) (fun i hi => by
  have hA := (hg i hi).n
  unfold Z32
  dsimp only
  rw [if_pos (by rw [pilt]; simp only [ofN, xlen, queues_len]; omega), if_pos (by simp only [ofN, xlen, queues_len]; omega), if_pos (by simp only [ofN, xlen, queues_len]; omega), ptoN, queues_at hi, p_same22 (by rw [List.length_map]; omega), bindO_some, pnext (by omega)]) (by
  unfold Z32
  dsimp only
  rw [if_neg (by rw [pilt]; simp only [ofN, xlen, queues_len]; omega)])
 rw [this, allN_true]; rfl
theorem bindO_step {α β : Type} {o : Option α} {k : α → Option β} {r : β} {a : α} (e : o = some a) (h : k a = some r) : bindO o k = some r := by
 rw [e]; exact h
theorem Rep.one {r : List D} {n : Nat} {g : Nat → A} {a : A} (h : Rep r n g) (hn : n = 1) (e : g 0 = a) : Rep r 1 (fun _ => a) := by
 subst hn
 refine h.congr fun j hj => ?_
 have : j = 0 := by omega
 subst this
 exact e.symm
def exC : D := .l [.s [120], .i 1500, .i 10, .i 100, .i 2, .b true]
def exA (bt : Int) (l : List Pk) : A := { key := [120], q := 1500, r := 10, b := 100, lim := 2, sh := true, br := 10, bb := 100, bt := bt, ql := 2, l := l }
theorem exA_ok {bt : Int} {l : List Pk} (h : 0 ≤ bt ∧ bt ≤ 100) (hn : l.length ≤ 10) (hs : ∀ p ∈ l, 1 ≤ p.2.2 ∧ p.2.2 ≤ 1500) : ∀ i, i < 1 → AOk ((fun _ => exA bt l) i) := fun i _ =>
 ⟨by unfold U exA; dsimp only; omega, by unfold U exA; dsimp only; omega, by unfold U exA; dsimp only; omega, by unfold U exA; dsimp only; omega, by unfold exA; dsimp only; omega, hs⟩
theorem p_sameC : Zh [exC] [exC] = some true := by
 unfold Zh
 rw [if_pos (by rw [pieq])]
 refine (iter_inl (y := (1 : Int)) ?_).trans (iter_inr ?_)
 ·unfold Z22
  dsimp only
  rw [if_pos (by rw [pilt]; decide), if_pos (by decide), if_pos (by decide)]
  rfl
 unfold Z22
 dsimp only
 rw [if_neg (by rw [pilt]; decide)]
theorem p_sameR : Zf [] [] = some true := by
 unfold Zf
 rw [if_pos (by rw [pieq])]
 refine iter_inr ?_
 unfold Z2l
 dsimp only
 rw [if_neg (by rw [pilt]; decide)]
theorem p_idxQ : Z1f [] 0 0 false = some (-1) := by
 unfold Z1f
 refine iter_inr ?_
 unfold Z6v
 dsimp only
 rw [if_neg (by rw [pilt]; decide)]
theorem p_rightQ : Z1w 0 0 false = some true := by
 unfold Z1w
 rw [if_neg (by rw [pilt]; decide), if_pos (by rw [pieq]), if_pos (by rw [pieq]), if_neg (by rw [pilt]; decide), if_neg (by rw [pile]; decide)]
 refine bindO_step (a := false) ?_ rfl
 unfold Z2o
 exact bindO_step p_idxQ rfl
theorem p_right0 : Z1h [] false 0 = some false := by
 unfold Z1h
 rw [if_pos (by rw [pilt]; decide)]
theorem q1500 : ∀ x ∈ [(1500 : Int)], U x := by intro x hx; simp at hx; subst hx; unfold U; omega
theorem rok {d : Int} (h : 0 ≤ d ∧ d ≤ 2000) : RingOk [1500] 0 [d] := ⟨by decide, by decide, by decide, rfl, q1500, by intro x hx; simp at hx; subst hx; unfold U; omega⟩
def pk1 : Pk := (1, 1, 60)
def pk2 : Pk := (2, 2, 70)
theorem p_awake : Z27 = some true := by
 unfold Z27
 obtain ⟨r0, h0, R0⟩ := p_newN (s := [112]) (b := true) (r1 := [exC]) (df := 0) (by decide) (by decide)
 replace R0 : Rep r0 1 (fun _ => exA 100 []) := R0.one rfl rfl
 refine bindO_step h0 ?_
 dsimp only
 obtain ⟨r1, h1, R1⟩ := p_arrive (flow := 1) (size := 60) (seq := 0) (x5 := 0) (b2 := false) (l2 := [0]) (df := 0) (s := [112]) (b1 := true) (r1 := [exC]) (r2 := []) (l1 := [1500]) R0 (by decide) (by decide) (exA_ok (by decide) (by decide) (by simp [pk1, pk2])) (by decide)
 replace h1 : Z3 1 60 [112] true 0 0 [exC] [] 1 0 false r0 [1500] [0] = some (1, 1, 60, 0, 1, r1) := h1
 replace R1 : Rep r1 1 (fun _ => exA 100 [pk1]) := R1.one rfl rfl
 refine bindO_step h1 ?_
 dsimp only
 obtain ⟨r2, h2, R2⟩ := p_arrive (flow := 2) (size := 70) (seq := 1) (x5 := 0) (b2 := false) (l2 := [0]) (df := 0) (s := [112]) (b1 := true) (r1 := [exC]) (r2 := []) (l1 := [1500]) R1 (by decide) (by decide) (exA_ok (by decide) (by decide) (by simp [pk1, pk2])) (by decide)
 replace h2 : Z3 2 70 [112] true 0 1 [exC] [] 1 0 false r1 [1500] [0] = some (2, 2, 70, 0, 2, r2) := h2
 replace R2 : Rep r2 1 (fun _ => exA 100 [pk1, pk2]) := R2.one rfl rfl
 refine bindO_step h2 ?_
 dsimp only
 obtain ⟨r3, h3, R3⟩ := p_arrive (flow := 1) (size := 5) (seq := 2) (x5 := 0) (b2 := false) (l2 := [0]) (df := 0) (s := [112]) (b1 := true) (r1 := [exC]) (r2 := []) (l1 := [1500]) R2 (by decide) (by decide) (exA_ok (by decide) (by decide) (by simp [pk1, pk2])) (by decide)
 replace h3 : Z3 1 5 [112] true 0 2 [exC] [] 1 0 false r2 [1500] [0] = some (0, 0, 0, 35, 2, r3) := h3
 replace R3 : Rep r3 1 (fun _ => exA 100 [pk1, pk2]) := R3.one rfl rfl
 refine bindO_step h3 ?_
 dsimp only
 obtain ⟨r4, h4, R4⟩ := p_nextS (s := [112]) (up := true) (ad := false) (df := 0) (seq := 2) (t := 0) (r1 := [exC]) (r2 := []) (q := [1500]) (d := [0]) R3 (by decide) (exA_ok (by decide) (by decide) (by simp [pk1, pk2])) rfl (rok (by decide))
 replace h4 : Z5 [112] true 0 2 [exC] [] 1 0 false r3 [1500] [0] = some (1, 1, 60, [120], true, 0, true, [1440], r4) := h4
 replace R4 : Rep r4 1 (fun _ => exA 40 [pk2]) := R4.one rfl rfl
 refine bindO_step h4 ?_
 dsimp only
 obtain ⟨r5, h5, R5⟩ := p_nextS (s := [112]) (up := true) (ad := true) (df := 0) (seq := 2) (t := 0) (r1 := [exC]) (r2 := []) (q := [1500]) (d := [1440]) R4 (by decide) (exA_ok (by decide) (by decide) (by simp [pk1, pk2])) rfl (rok (by decide))
 replace h5 : Z5 [112] true 0 2 [exC] [] 1 0 true r4 [1500] [1440] = some (0, 0, 0, [], false, 0, false, [0], r5) := h5
 replace R5 : Rep r5 1 (fun _ => exA 40 [pk2]) := R5.one rfl rfl
 refine bindO_step h5 ?_
 dsimp only
 obtain ⟨r6, h6, R6⟩ := p_tick (x := 3) (seq := 2) (x5 := 0) (b2 := false) (l2 := [0]) (df := 0) (s := [112]) (b1 := true) (r1 := [exC]) (r2 := []) (l1 := [1500]) R5 (by unfold U; omega) (by decide) (exA_ok (by decide) (by decide) (by simp [pk1, pk2]))
 replace R6 : Rep r6 1 (fun _ => exA 70 [pk2]) := R6.one rfl rfl
 refine bindO_step h6 ?_
 obtain ⟨r7, h7, R7⟩ := p_nextS (s := [112]) (up := true) (ad := false) (df := 0) (seq := 2) (t := 0) (r1 := [exC]) (r2 := []) (q := [1500]) (d := [0]) R6 (by decide) (exA_ok (by decide) (by decide) (by simp [pk1, pk2])) rfl (rok (by decide))
 replace h7 : Z5 [112] true 0 2 [exC] [] 1 0 false r6 [1500] [0] = some (2, 2, 70, [120], true, 0, true, [1430], r7) := h7
 replace R7 : Rep r7 1 (fun _ => exA 0 []) := R7.one rfl rfl
 refine bindO_step h7 ?_
 dsimp only
 have ok7 := exA_ok (bt := 0) (l := []) (by decide) (by decide) (by simp)
 have h8 := p_len (s := [112]) (b := true) (b2 := true) (df := 0) (seq := 2) (x := 0) (r1 := [exC]) (r2 := []) (l1 := [1500]) (l2 := [1430]) R7 (by decide) ok7
 have h9 := p_snap (s := [112]) (b := true) (b2 := true) (df := 0) (seq := 2) (x := 0) (r1 := [exC]) (r2 := []) (l1 := [1500]) (l2 := [1430]) R7 (by decide) (by decide) ok7
 have hR : Zi [112] true 0 [exC] = some true := by rw [right_nil]; exact p_right (by decide) (by decide)
 have hP : Z1u [112] true 0 [112] true 0 [exC] [exC] [] = some true := by
  unfold Z1u
  rw [if_pos (by rw [pseq]), if_pos (by rw [pbeq2])]
  refine bindO_step p_sameC ?_
  dsimp only
  rw [if_pos rfl]
  refine bindO_step p_sameR ?_
  rfl
 rw [if_pos (by decide), if_pos (by decide), if_pos (by decide), if_pos (by decide), if_pos (by decide), if_pos (by decide), if_pos rfl, if_neg (by decide), if_pos rfl, if_pos (by decide)]
 refine bindO_step h8 ?_
 dsimp only
 rw [if_pos (by decide)]
 refine bindO_step h9 ?_
 dsimp only
 rw [if_pos (by decide)]
 refine bindO_step (a := (0 : Int)) ?_ ?_
 ·unfold Z2t
  refine bindO_step hR ?_
  dsimp only
  rw [if_pos rfl]
  refine bindO_step hP ?_
  rfl
 rw [if_pos (by decide)]
 refine bindO_step (a := ([exC], [])) ?_ ?_
 ·unfold Zm Z1q
  refine bindO_step (a := ([exC], [])) ?_ rfl
  refine bindO_step (p_cloneC (by decide)) ?_
  exact bindO_step (p_cloneR (by decide)) rfl
 try dsimp only
 rw [if_pos (by decide)]
 refine bindO_step hR ?_
 rw [if_pos rfl]
 refine bindO_step p_right0 ?_
 try dsimp only
 rw [if_neg (by decide)]
 refine bindO_step (a := (1, 2, 0, true, [1430])) ?_ rfl
 unfold Z2i
 refine bindO_step p_rightQ ?_
 try dsimp only
 rw [if_pos rfl, if_neg (by rw [pieq]; decide)]
def stepsOk (r2 : List D) : Prop := ∀ i, i < r2.length → U (D.toI (D.fld (getD r2 i) 3)) ∧ 0 ≤ D.toI (D.fld (getD r2 i) 4) ∧ D.toI (D.fld (getD r2 i) 4) < 256
theorem SW.snap {w : W} {r : List D} {m : Nat} (S : SW w r m) : Z8 w.key w.up w.df w.sq w.C w.R w.C.length w.t w.ad r (w.C.map cQ) w.d = some (tokensS w.C.length w.g, w.d, queuesS w.C.length w.g, r) :=
 p_snap S.rep (by have := S.right.n8; omega) (by have h8 := S.right.n8; have := S.ring.l; simp at this; omega) S.ok
theorem drops_step {r1 r2 : List D} {w : W} {r : List D} {i : Nat} (hp : PortsOk r1) (hn : r2.length ≤ 300) (hx : stepsOk r2) (hi : i < r2.length) (S : SW w r i) :
  ∃ (w' : W) (r' : List D), Z2h r2 r1 ((i : Int), w.key, w.up, w.df, w.sq, w.C, w.R, w.C.length, w.t, w.ad, r, w.C.map cQ, w.d) =
   some (.inl (((i + 1 : Nat) : Int), w'.key, w'.up, w'.df, w'.sq, w'.C, w'.R, w'.C.length, w'.t, w'.ad, r', w'.C.map cQ, w'.d)) ∧ SW w' r' (i + 1) := by
 obtain ⟨hx1, hx2⟩ := hx i hi
 have hpn : iadd .i64 (i : Int) 1 = ((i + 1 : Nat) : Int) := pnext (by omega)
 unfold Z2h
 dsimp only
 rw [if_pos (by rw [pilt]; simp only [ofN, xlen]; omega), if_pos (by simp only [ofN, xlen]; omega), ptoN, hpn]
 generalize D.toI (D.fld (getD r2 i) 1) = flow at *
 generalize D.toI (D.fld (getD r2 i) 2) = size at *
 by_cases c0 : D.toI (D.fld (getD r2 i) 0) = 0
 ·rw [if_pos (by rw [pieq]; exact c0)]
  have h8 := S.right.n8
  have hsq := S.sq
  have htot := S.tot
  have hd : w.d.length ≤ 1000 := by have := S.ring.l; simp at this; omega
  obtain ⟨r', e1, e2⟩ := p_arrive (flow := flow) (size := size) (df := w.df) (seq := w.sq) (x5 := w.t) (s := w.key) (b1 := w.up) (b2 := w.ad) (r1 := w.C) (r2 := w.R) (l1 := w.C.map cQ) (l2 := w.d) S.rep S.rl (S.cls flow) S.ok (by omega)
  obtain ⟨w', hw', S', _⟩ := S.arr (by omega) (flow := flow) (size := size) e2
  refine ⟨w', r', bindO_st S.snap ?_, S'⟩
  dsimp only
  refine bindO_st (p_port (by omega) S.rl) ?_
  dsimp only
  refine bindO_st (p_plain (by omega) S.rl) ?_
  dsimp only
  have hs2 := S'.snap
  have hcl := S.cls flow
  have hce : w.cls flow = ((w.cls flow).toNat : Int) := by omega
  have hcn : (w.cls flow).toNat < w.C.length := by omega
  have hcls : clsA w.R w.df flow = w.cls flow := rfl
  rw [hcls] at e1 e2
  generalize hc : (w.cls flow).toNat = c at *
  have hA := S.ok c hcn
  have hlen : (w.g c).l.length ≤ 1000 := by
   have := sumL_mono (qs := qsOf w.g) (i := c + 1) (j := w.C.length) (by omega)
   have e : (qsOf w.g c).length = (w.g c).l.length := rfl
   simp only [sumL] at this; omega
  have hql : (w.g c).ql = cLim (getD w.C c) := by obtain ⟨bt, l, e⟩ := S.of c hcn; rw [e]; rfl
  have hq35 : D.toI (D.fld (getD (w.C.map canonC) c) 4) = cLim (getD w.C c) := by rw [getD_map hcn]; rfl
  have hk : (tokensS w.C.length w.g).length ≤ 1000000 := by rw [tokens_len]; omega
  have same := p_same26 (x := w.sq) (t := w.t) (l := tokensS w.C.length w.g) (d := w.d) (b := w.ad) hk (by omega) (by omega) S.ok
  have had : ∀ x1 l1 x2 b1 l2 r1, Z2 x1 l1 x2 b1 l2 r1 = some () := fun _ _ _ _ _ _ => rfl
  by_cases c1 : badP flow size = true
  ·have hV : arrS w.g w.sq c flow size = ((0, 0, 0), 1, w.sq, w.g) := by unfold arrS; rw [if_pos c1]
   rw [hV] at e1 hw'
   subst hw'
   dsimp only at hs2 e1 ⊢
   refine bindO_st e1 ?_
   dsimp only
   refine bindO_st hs2 ?_
   dsimp only
   simp only [had, bindO_some]
   have bad : badP flow size = true := c1
   simp only [badP, Bool.or_eq_true, decide_eq_true_eq] at c1
   have e11 : ieq (1 : Int) 1 = true := rfl
   have k : ∀ {x : Option (Int × (List UInt8) × Bool × Int × Int × (List D) × (List D) × Nat × Int × Bool × (List D) × (List Int) × (List Int) ⊕ Bool)}, (if ieq (1 : Int) 1 = true then bindO (Z7 w.sq (tokensS w.C.length w.g) w.t w.ad w.d (queuesS w.C.length w.g) w.sq (tokensS w.C.length w.g) w.t w.ad w.d (queuesS w.C.length w.g)) (fun c => if c = true then x else some (.inr false)) else some (.inr false)) = x := fun {x} => by
    rw [if_pos e11, same, bindO_some, if_pos rfl]
   by_cases d1 : 0 ≤ flow
   ·rw [if_pos (by rw [pile]; exact d1)]
    by_cases d2 : flow ≤ 65535
    ·rw [if_pos (by rw [pile]; exact d2)]
     by_cases d3 : 1 ≤ size
     ·rw [if_pos (by rw [pile]; exact d3), if_neg (by rw [pile]; omega)]; exact k
     rw [if_neg (by rw [pile]; exact d3)]; exact k
    rw [if_neg (by rw [pile]; exact d2)]; exact k
   rw [if_neg (by rw [pile]; exact d1)]; exact k
  have c1' := c1
  simp only [badP, Bool.or_eq_true, decide_eq_true_eq] at c1'
  by_cases c2 : (w.g c).ql ≤ ((w.g c).l.length : Int)
  ·have hV : arrS w.g w.sq c flow size = ((0, 0, 0), 35, w.sq, w.g) := by unfold arrS; rw [if_neg c1, if_pos c2]
   rw [hV] at e1 hw'
   subst hw'
   dsimp only at hs2 e1 ⊢
   refine bindO_st e1 ?_
   dsimp only
   refine bindO_st hs2 ?_
   dsimp only
   rw [if_pos (by rw [pile]; omega), if_pos (by rw [pile]; omega), if_pos (by rw [pile]; omega), if_pos (by rw [pile]; omega)]
   refine bindO_st (p_class23 S.rl) ?_
   rw [hcls, hce]
   rw [if_pos (by simp only [ofN, xlen, queues_len]; omega), if_pos (by simp only [ofN, xlen, List.length_map]; omega), ptoN, hq35, queues_at hcn]
   have e3 : ile (cLim (getD w.C c)) (ofN (xlen ((w.g c).l.map mkP))) = true := by rw [pile]; simp only [ofN, xlen, List.length_map]; omega
   rw [e3, if_pos (by decide), if_pos rfl]
   simp only [had, bindO_some]
   rw [same, bindO_some, if_pos rfl]
  have hV : arrS w.g w.sq c flow size = ((w.sq + 1, flow, size), 0, w.sq + 1, updA w.g c (putA (w.g c) (w.sq + 1, flow, size))) := by unfold arrS; rw [if_neg c1, if_neg c2]
  rw [hV] at e1 hw'
  subst hw'
  dsimp only at hs2 e1 ⊢
  refine bindO_st e1 ?_
  dsimp only
  refine bindO_st hs2 ?_
  dsimp only
  rw [if_pos (by rw [pile]; omega), if_pos (by rw [pile]; omega), if_pos (by rw [pile]; omega), if_pos (by rw [pile]; omega)]
  refine bindO_st (p_class23 S.rl) ?_
  rw [hcls, hce]
  rw [if_pos (by simp only [ofN, xlen, queues_len]; omega), if_pos (by simp only [ofN, xlen, List.length_map]; omega), ptoN, hq35, queues_at hcn]
  have e3 : ile (cLim (getD w.C c)) (ofN (xlen ((w.g c).l.map mkP))) = false := by
   cases h : ile (cLim (getD w.C c)) (ofN (xlen ((w.g c).l.map mkP))) with
   | false => rfl
   | true => rw [pile] at h; simp only [ofN, xlen, List.length_map] at h; omega
  have e4 : iadd .u64 w.sq 1 = w.sq + 1 := by simp only [iadd]; exact pu64 (by omega) (by omega)
  have e5 : iadd .i64 (ofN (xlen ((w.g c).l.map mkP))) 1 = (((w.g c).l.length + 1 : Nat) : Int) := by simp only [ofN, xlen, List.length_map]; exact pnext (by omega)
  rw [e3, if_pos (by decide), if_neg (by decide), if_pos (by decide), if_pos (by simp only [ofN, xlen, queues_len]; omega), if_pos (by simp only [ofN, xlen, queues_len]; omega), queues_at hcn, e4, e5]
  rw [if_pos (by rw [pieq]; simp [ofN, xlen, updA, putA]), if_pos (by rw [pieq])]
 rw [if_neg (by rw [pieq]; exact c0)]
 obtain ⟨a, b, w', r', hdo, S', _, _⟩ := p_do (x1 := D.toI (D.fld (getD r2 i) 0)) (x2 := flow) (x3 := size) (x4 := D.toI (D.fld (getD r2 i) 3)) (x5 := D.toI (D.fld (getD r2 i) 4)) hp S (by omega) hx1 hx2
 exact ⟨w', r', bindO_st hdo rfl, S'⟩
theorem drops_L1 {r1 r2 : List D} (hp : PortsOk r1) (hn : r2.length ≤ 300) (hx : stepsOk r2) : ∀ (m i : Nat) (w : W) (r : List D), i + m = r2.length → SW w r i →
  iter (Z2h r2 r1) ((i : Int), w.key, w.up, w.df, w.sq, w.C, w.R, w.C.length, w.t, w.ad, r, w.C.map cQ, w.d) = some true
 | 0, i, w, r, hm, S => by
  apply iter_inr
  unfold Z2h
  dsimp only
  rw [if_neg (by rw [pilt]; simp only [ofN, xlen]; omega)]
 | m + 1, i, w, r, hm, S => by
  obtain ⟨w', r', h1, h2⟩ := drops_step hp hn hx (by omega) S
  rw [iter_inl h1]
  exact drops_L1 hp hn hx m (i + 1) w' r' (by omega) h2
theorem SW.start {s : List UInt8} {b : Bool} {C R r' : List D} {df : Int} (hb : rightB C R df = true) (hr : R.length ≤ 1000000) (hU : clsU C) (e2 : Rep r' C.length fun i => freshA (getD C i)) :
  SW ⟨s, b, df, 0, C, R, 0, false, List.replicate C.length 0, fun i => freshA (getD C i)⟩ r' 0 := by
 have hP := rightB_P hb
 have hn1 := hP.n1
 have hn8 := hP.n8
 refine ⟨hP, hr, hU, e2, fun j hj => ?_, fun j hj => ⟨_, _, rfl⟩, ⟨by dsimp only; omega, by dsimp only; simp; omega, by dsimp only; simp; omega, by dsimp only; simp, fun x hx => ?_, fun x hx => ?_⟩, by dsimp only; omega, ?_⟩
 ·have := hU _ (show getD C j ∈ C by rw [pgetD hj]; exact List.getElem_mem hj)
  exact ⟨this.1, this.2.1, this.2.2, this.2.2, by simp [freshA], by simp [freshA]⟩
 ·obtain ⟨d, hd, rfl⟩ := List.mem_map.1 hx
  exact (hU d hd).1
 ·have := List.eq_of_mem_replicate hx
  subst this; unfold U; omega
 have : qsOf (fun i => freshA (getD C i)) = fun _ => [] := rfl
 dsimp only
 rw [this, sumL_nil]
 exact Nat.le_refl _
theorem drops_law {r1 r2 : List D} (h1 : r1.length ≤ maxLen) (hc : ∀ i, i < r1.length → clsU (pCls (getD r1 i))) (hx : stepsOk r2) : Z1j r1 r2 = some true := by
 unfold Z1j
 refine bindO_st p_awake ?_
 rw [if_pos rfl]
 refine bindO_st (p_few h1) ?_
 dsimp only
 by_cases cf : fewB r1 r2 = true
 ·obtain ⟨f1, f2, f3, f4⟩ := fewB_ok cf
  rw [if_pos cf, if_pos (by simp only [ofN, xlen]; omega), show (toN (0 : Int)) = 0 from rfl]
  obtain ⟨f5, f6⟩ := f4 0 (by omega)
  rcases p_newS (s := D.toS (D.fld (getD r1 0) 0)) (b := D.toB (D.fld (getD r1 0) 1)) (r1 := pCls (getD r1 0)) (r2 := pRules (getD r1 0)) (df := pDf (getD r1 0)) (by omega) (by omega) with ⟨_, e1⟩ | ⟨hb, r', e1, e2⟩
  ·exact bindO_st e1 rfl
  refine bindO_st e1 ?_
  exact drops_L1 ⟨⟨f1, f2⟩, fun i hi => (f4 i hi).1, fun i hi => (f4 i hi).2, hc⟩ f3 hx r2.length 0 _ r' (by omega) (SW.start (s := D.toS (D.fld (getD r1 0) 0)) (b := D.toB (D.fld (getD r1 0) 1)) hb (by omega) (hc 0 (by omega)) e2)
 rw [if_neg cf]
theorem p_ShaperDrops (r1 r2 : List D) (h1 : (Ty.row 33 (.st [.str, .bool, .row 83 (.st [.str, .int .u64, .int .u64, .int .u64, .int .i64, .bool]), .st [.row 96 (.st [.int .i64, .int .i64, .int .i64]), .int .i64]])).rng (.l r1))
  (h2 : (Ty.row 58 (.st [.int .i64, .int .i64, .int .i64, .int .u64, .int .u8])).rng (.l r2)) : Z1j r1 r2 = some true := by
 refine drops_law h1.1 (fun i hi => ?_) (fun i hi => ?_)
 ·exact port_cls (h1.2 _ (by rw [pgetD hi]; exact List.getElem_mem hi))
 have := h2.2 (getD r2 i) (by rw [pgetD hi]; exact List.getElem_mem hi)
 simp only [Ty.rng, Ty.rngL] at this
 exact ⟨wf_U this.2.2.2.1, wf_u8 this.2.2.2.2.1⟩
end Go.Proofs.Ytojbpjcfdjakkaa
end
