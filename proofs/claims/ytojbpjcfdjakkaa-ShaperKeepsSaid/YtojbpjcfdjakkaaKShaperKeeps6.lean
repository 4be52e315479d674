/-
  Texts that the row of this claim stands on, one behind the other.
-/
import Derived.Deep.Slices
import Derived.ChangeArms
import Derived.Test.YtojbpjcfdjakkaaKShaperKeeps1
import Derived.Test.YtojbpjcfdjakkaaKShaperKeeps2
import Derived.Test.YtojbpjcfdjakkaaKShaperKeeps3
import Derived.Test.YtojbpjcfdjakkaaKShaperKeeps4
import Derived.Test.YtojbpjcfdjakkaaKShaperKeeps5
section
set_option linter.unusedVariables false
set_option linter.unusedSimpArgs false
namespace Go.Proofs.Ytojbpjcfdjakkaa
open Go.RowKit
noncomputable def Zdy : Nat → Option Con := look [(77, Z6r)]
set_option maxHeartbeats 20000000 in
set_option maxRecDepth 100000 in
theorem Zwz (P : Program) (T : Tab P Zdy) (hm : P.follows .mixedOrders = true) : FnVC P Zdy Zi9 [.t 4] 37 Z90 := by
 intro cargs ccks ce hce hob C hk
 apply Hidden.out
 replace hce : altC (Z91 cargs ccks) (Z92 cargs ccks) = some ce := hce
 replace hce := Zl hce
 rcases hce with hce | hce
 ·unfold Z91 at hce
  split at hce; rotate_left; cases hce
  obtain rfl := Option.some.inj hce
  rename_i x1 b1 x2 b2 l1 l2
  refine obh hob fun r hF => ?_
  clear hob hce
  simp only [List.length_cons, List.length_nil, Nat.zero_add, Nat.reduceAdd] at hk
  have hr : Z5a x1 b1 x2 b2 l1 l2 = some r := by rw [lock_eq] at hF; exact hF
  unfold Z5a at hr
  constructor
  (try cbv)
  apply Hidden.out
  refine Z9 hr ?_ ?_ <;> intro h1 hr
  ·constructor
   have h2 : (lock ieq (lock ofN 0) (lock ofN (lock (@xlen Int) l1))) = true := by simp only [lock_eq]; exact h1
   simp only [relock, h2]
   (try cbv)
   apply Hidden.out
   refine Z9 hr ?_ ?_ <;> intro h1 hr
   ·constructor
    have h2 : (lock ilt x1 (0 : Int)) = true := by simp only [lock_eq]; exact h1
    simp only [relock, h2]
    (try cbv)
    apply Hidden.out
    exact clbfd00
   constructor
   have h2 : (lock ilt x1 (0 : Int)) = false := by simp only [lock_eq]; exact h1
   simp only [relock, h2]
   (try cbv)
   refine Z2 hr ?_ ?_ <;> intro h1 hr
   ·(try cbv)
    apply Hidden.out
    exact clbfd00
   (try cbv)
   refine cal hr (by rintro (_) _ <;> cbv) ?_
   rintro m1 hx1 hr
   (try dsimp only at hr); constructor; (try cbv)
   apply Hidden.out
   exact clbfd00
  constructor
  have h2 : (lock ieq (lock ofN 0) (lock ofN (lock (@xlen Int) l1))) = false := by simp only [lock_eq]; exact h1
  simp only [relock, h2]
  (try cbv)
  apply Hidden.out
  exact clbfd00
 unfold Z92 at hce
 split at hce; rotate_left; cases hce
 obtain rfl := Option.some.inj hce
 rename_i x1 b1 l1 x2 b2 l2 l3
 refine obh hob fun r hF => ?_
 clear hob hce
 simp only [List.length_cons, List.length_nil, Nat.zero_add, Nat.reduceAdd] at hk
 have hr : Z2w x1 b1 l1 x2 b2 l2 l3 = some r := by rw [lock_eq] at hF; exact hF
 unfold Z2w at hr
 constructor
 (try cbv)
 apply Hidden.out
 refine Z9 hr ?_ ?_ <;> intro h1 hr
 ·constructor
  have h2 : (lock ieq (lock ofN (lock (@xlen Int) l1)) (lock ofN (lock (@xlen Int) l2))) = true := by simp only [lock_eq]; exact h1
  simp only [relock, h2]
  (try cbv)
  apply Hidden.out
  refine Z9 hr ?_ ?_ <;> intro h1 hr
  ·constructor
   have h2 : (lock ilt x1 (0 : Int)) = true := by simp only [lock_eq]; exact h1
   simp only [relock, h2]
   (try cbv)
   apply Hidden.out
   exact clbfd00
  constructor
  have h2 : (lock ilt x1 (0 : Int)) = false := by simp only [lock_eq]; exact h1
  simp only [relock, h2]
  (try cbv)
  refine Z2 hr ?_ ?_ <;> intro h1 hr
  ·(try cbv)
   apply Hidden.out
   exact clbfd00
  (try cbv)
  refine cal hr (by rintro (_) _ <;> cbv) ?_
  rintro m1 hx1 hr
  (try dsimp only at hr); constructor; (try cbv)
  apply Hidden.out
  exact clbfd00
 constructor
 have h2 : (lock ieq (lock ofN (lock (@xlen Int) l1)) (lock ofN (lock (@xlen Int) l2))) = false := by simp only [lock_eq]; exact h1
 simp only [relock, h2]
 (try cbv)
 apply Hidden.out
 exact clbfd00
noncomputable def Zet : Nat → Option Con := look [(58, Zbk), (59, Z90), (38, Z6t)]
set_option maxHeartbeats 20000000 in
set_option maxRecDepth 100000 in
theorem Zxu (P : Program) (T : Tab P Zet) (hm : P.follows .mixedOrders = true) : FnVC P Zet Zhp [.t 4] 67 Z71 := by
 intro cargs ccks ce hce hob C hk
 apply Hidden.out
 replace hce : altC (Zam cargs ccks) (Zan cargs ccks) = some ce := hce
 replace hce := Zl hce
 rcases hce with hce | hce
 ·unfold Zam at hce
  split at hce; rotate_left; cases hce; rename_i x1 x2 b1
  split at hce; rotate_left; cases hce
  split at hce; rotate_left; cases hce; rename_i s1 b2 x3 x4
  split at hce; rotate_left; cases hce; rename_i r1
  split at hce; rotate_left; cases hce; rename_i r2
  split at hce; rotate_left; cases hce; rename_i w1 n1
  split at hce; rotate_left; cases hce; rename_i x5 b3
  split at hce; rotate_left; cases hce; rename_i w2 r3
  split at hce; rotate_left; cases hce; rename_i l1
  split at hce; rotate_left; cases hce; rename_i l2
  split at hce
  ·cases hce
  obtain rfl := Option.some.inj hce
  rename_i _ htm
  simp only [Bool.and_eq_true] at htm
  obtain ⟨h1, h2⟩ := htm
  obtain rfl := Zb _ _ h1
  obtain rfl := Zb _ _ h2
  clear h1 h2
  refine obh hob fun r hF => ?_
  clear hob hce
  simp only [List.length_cons, List.length_nil, Nat.zero_add, Nat.reduceAdd] at hk
  have hr : Z4d x1 x2 b1 s1 b2 x3 x4 r1 r2 n1 x5 b3 r3 l1 l2 = some r := by rw [lock_eq] at hF; exact hF
  unfold Z4d at hr
  constructor
  (try cbv)
  refine cald hr (by rintro (_) _ <;> cbv) ?_
  rintro c1 hx1 hr
  (try dsimp only at hr); constructor; (try cbv)
  apply Hidden.out
  refine Z9 hr ?_ ?_ <;> intro h1 hr
  ·constructor
   (try simp only [h1])
   (try cbv)
   refine Zd hr ?_ ?_ <;> intro h1 hr
   ·(try cbv)
    apply Hidden.out
    exact cl8eeb6
   (try cbv)
   refine cald hr (by rintro (⟨_, _, _, _⟩) _ <;> cbv) ?_
   rintro ⟨c2, y1, c3, m1⟩ hx2 hr
   (try dsimp only at hr); constructor; (try cbv)
   refine LoopOK.iter T (drawOK T hm) hr (fun | _ => ⟨mkFr [(3, (.ptr 8 0)), (40, (.wsl 3)), (41, (.v (.int .i64 (lock ofN n1)))), (42, (.v (.int .i64 (0 : Int))))] 67 0, [(0, .blk 92 [(.str s1), (.v (.bool b2)), (.wsl 1), (.wsl 2), (.v (.int .i64 x3)), (.v (.int .u64 x1)), (.wsl 3), (.ptr 4 0)]), (1, .row (.row 83 (.st [.str, (.int .u64), (.int .u64), (.int .u64), (.int .i64), .bool]) r1)), (2, .row (.row 96 (.st [(.int .i64), (.int .i64), (.int .i64)]) r2)), (3, .prow 98 tm98 n1 5), (4, .blk 169 [(.wsl 6), (.v (.int .i64 y1)), (.v (.bool c3)), (.wsl 9)]), (5, .gho tm98 r3 none), (6, .row (.ints 46 .u64 l1)), (8, .blk 67 [(.v (.int .u64 x1)), .nsl, (.v (.int .i64 x2)), (.v (.bool b1)), .nsl, .nsl]), (9, .row (.ints 46 .u64 m1))], 10⟩) ?_ ?_
   ·exact cl9bcf9
   clear hr
   intro x bb1 hr ht1
   as_aux_lemma =>
   constructor
   unfold Zfr at hr
   (try dsimp only at hr)
   (try cbv)
   refine Z2 hr ?_ ?_ <;> intro h1 hr
   ·(try cbv)
    cases hr
   (try cbv)
   apply Hidden.out
   exact cl31adc
  constructor
  (try simp only [h1])
  (try cbv)
  apply Hidden.out
  exact cl8eeb6
 unfold Zan at hce
 split at hce; rotate_left; cases hce; rename_i x1 l1 x2 b1 l2 r1
 split at hce; rotate_left; cases hce
 split at hce; rotate_left; cases hce; rename_i s1 b2 x3 x4
 split at hce; rotate_left; cases hce; rename_i r2
 split at hce; rotate_left; cases hce; rename_i r3
 split at hce; rotate_left; cases hce; rename_i w1 n1
 split at hce; rotate_left; cases hce; rename_i x5 b3
 split at hce; rotate_left; cases hce; rename_i w2 r4
 split at hce; rotate_left; cases hce; rename_i l3
 split at hce; rotate_left; cases hce; rename_i l4
 split at hce
 ·cases hce
 obtain rfl := Option.some.inj hce
 rename_i _ htm
 simp only [Bool.and_eq_true] at htm
 obtain ⟨h1, h2⟩ := htm
 obtain rfl := Zb _ _ h1
 obtain rfl := Zb _ _ h2
 clear h1 h2
 refine obh hob fun r hF => ?_
 clear hob hce
 simp only [List.length_cons, List.length_nil, Nat.zero_add, Nat.reduceAdd] at hk
 have hr : Z3f x1 l1 x2 b1 l2 r1 s1 b2 x3 x4 r2 r3 n1 x5 b3 r4 l3 l4 = some r := by rw [lock_eq] at hF; exact hF
 unfold Z3f at hr
 constructor
 (try cbv)
 refine cald hr (by rintro (_) _ <;> cbv) ?_
 rintro c1 hx1 hr
 (try dsimp only at hr); constructor; (try cbv)
 apply Hidden.out
 refine Z9 hr ?_ ?_ <;> intro h1 hr
 ·constructor
  (try simp only [h1])
  (try cbv)
  refine Zd hr ?_ ?_ <;> intro h1 hr
  ·(try cbv)
   apply Hidden.out
   exact clc60e0
  (try cbv)
  refine cald hr (by rintro (⟨_, _, _, _⟩) _ <;> cbv) ?_
  rintro ⟨c2, y1, c3, m1⟩ hx2 hr
  (try dsimp only at hr); constructor; (try cbv)
  refine LoopOK.iter T (drawOK T hm) hr (fun | (i1, r5) => ⟨mkFr [(3, (.ptr 8 0)), (40, (.wsl 3)), (41, (.v (.int .i64 (lock ofN n1)))), (42, (.v (.int .i64 i1)))] 67 0, [(0, .blk 92 [(.str s1), (.v (.bool b2)), (.wsl 1), (.wsl 2), (.v (.int .i64 x3)), (.v (.int .u64 x1)), (.wsl 3), (.ptr 4 0)]), (1, .row (.row 83 (.st [.str, (.int .u64), (.int .u64), (.int .u64), (.int .i64), .bool]) r2)), (2, .row (.row 96 (.st [(.int .i64), (.int .i64), (.int .i64)]) r3)), (3, .prow 98 tm98 n1 9), (4, .blk 169 [(.wsl 6), (.v (.int .i64 y1)), (.v (.bool c3)), (.wsl 10)]), (6, .row (.ints 46 .u64 l3)), (8, .blk 67 [(.v (.int .u64 x1)), (.rsl (.ints 46 .u64 l1)), (.v (.int .i64 x2)), (.v (.bool b1)), (.rsl (.ints 46 .u64 l2)), (.rsl (.row 72 (.row 75 (.st [(.int .u64), (.int .i64), (.int .i64)])) r1))]), (9, .gho tm98 r5 none), (10, .row (.ints 46 .u64 m1))], 11⟩) ?_ ?_
  ·exact cl1df3b
  clear hr
  intro x bb1 hr ht1
  obtain ⟨i1, r5⟩ := x
  as_aux_lemma =>
  constructor
  unfold Z5g at hr
  (try dsimp only at hr)
  (try cbv)
  refine Z2 hr ?_ ?_ <;> intro h1 hr
  ·(try cbv)
   refine Z3 hr fun hr => ?_
   refine Z3 hr fun hr => ?_
   refine Z3 hr fun hr => ?_
   refine cald hr (by rintro (⟨_, _, _⟩) _ <;> cbv) ?_
   rintro ⟨y8, y9, q4⟩ hx6 hr
   (try dsimp only at hr); constructor; (try cbv)
   apply Hidden.out
   exact cl81169
  (try cbv)
  apply Hidden.out
  exact cle4224
 constructor
 (try simp only [h1])
 (try cbv)
 apply Hidden.out
 exact clc60e0
noncomputable def Zfd : Nat → Option Con := look [(10, Z6x), (26, Z6z), (29, Z70), (28, Z72), (14, Zah), (21, Z5r), (15, Z6y), (24, Zak), (13, Z5q), (30, Z71)]
set_option maxHeartbeats 20000000 in
set_option maxRecDepth 100000 in
theorem Zye (P : Program) (T : Tab P Zfd) (hm : P.follows .mixedOrders = true) : FnVC P Zfd Zil [.t 0] 138 Zbu := by
 intro cargs ccks ce hce hob C hk
 apply Hidden.out
 replace hce : Zbv cargs ccks = some ce := hce
 unfold Zbv at hce
 split at hce; rotate_left; cases hce
 obtain rfl := Option.some.inj hce
 refine obh hob fun r hF => ?_
 clear hob hce
 simp only [List.length_cons, List.length_nil, Nat.zero_add, Nat.reduceAdd] at hk
 have hr : Z3q = some r := by rw [lock_eq] at hF; exact hF
 unfold Z3q at hr
 constructor
 (try cbv)
 refine cal hr (by rintro (_ | ⟨_, _, _, _, _, _⟩) _ <;> cbv) ?_
 rintro (_ | ⟨q1, q2, k1, q3, m1, m2⟩) hx1 hr
 all_goals ((try dsimp only at hr); constructor; (try cbv))
 ·apply Hidden.out
  exact clacd82
 refine cal hr (by rintro (⟨_, _, _, _, _, _⟩) _ <;> cbv) ?_
 rintro ⟨y1, y2, y3, y4, y5, q4⟩ hx2 hr
 (try dsimp only at hr); constructor; (try cbv)
 refine cal hr (by rintro (⟨_, _, _, _, _, _⟩) _ <;> cbv) ?_
 rintro ⟨y6, y7, y8, y9, y10, q5⟩ hx3 hr
 (try dsimp only at hr); constructor; (try cbv)
 refine cal hr (by rintro (⟨_, _, _, _, _, _⟩) _ <;> cbv) ?_
 rintro ⟨y11, y12, y13, y14, y15, q6⟩ hx4 hr
 (try dsimp only at hr); constructor; (try cbv)
 refine cal hr (by rintro (⟨_, _, _, _, _, _, _, _, _⟩) _ <;> cbv) ?_
 rintro ⟨y16, y17, y18, t1, c1, y19, c2, m3, q7⟩ hx5 hr
 (try dsimp only at hr); constructor; (try cbv)
 refine cal hr (by rintro (⟨_, _, _, _, _, _, _, _, _⟩) _ <;> cbv) ?_
 rintro ⟨y20, y21, y22, t2, c3, y23, c4, m4, q8⟩ hx6 hr
 (try dsimp only at hr); constructor; (try cbv)
 refine cal hr (by rintro (_) _ <;> cbv) ?_
 rintro q9 hx7 hr
 (try dsimp only at hr); constructor; (try cbv)
 refine cal hr (by rintro (⟨_, _, _, _, _, _, _, _, _⟩) _ <;> cbv) ?_
 rintro ⟨y24, y25, y26, t3, c5, y27, c6, m5, q10⟩ hx8 hr
 (try dsimp only at hr); constructor; (try cbv)
 refine Z2 hr ?_ ?_ <;> intro h1 hr
 ·as_aux_lemma =>
  (try cbv)
  refine Z2 hr ?_ ?_ <;> intro h1 hr
  ·as_aux_lemma =>
   (try cbv)
   refine Z2 hr ?_ ?_ <;> intro h1 hr
   ·as_aux_lemma =>
    (try cbv)
    refine Z2 hr ?_ ?_ <;> intro h1 hr
    ·as_aux_lemma =>
     (try cbv)
     refine Z2 hr ?_ ?_ <;> intro h1 hr
     ·as_aux_lemma =>
      (try cbv)
      refine Z2 hr ?_ ?_ <;> intro h1 hr
      ·as_aux_lemma =>
       (try cbv)
       refine Z2 hr ?_ ?_ <;> intro h1 hr
       ·as_aux_lemma =>
        (try cbv)
        refine Zd hr ?_ ?_ <;> intro h1 hr
        ·as_aux_lemma =>
         (try cbv)
         refine Z2 hr ?_ ?_ <;> intro h1 hr
         ·as_aux_lemma =>
          (try cbv)
          refine Z2 hr ?_ ?_ <;> intro h1 hr
          ·as_aux_lemma =>
           (try cbv)
           refine cal hr (by rintro (⟨_, _⟩) _ <;> cbv) ?_
           rintro ⟨y28, q11⟩ hx9 hr
           (try dsimp only at hr); constructor; (try cbv)
           refine Z2 hr ?_ ?_ <;> intro h1 hr
           ·as_aux_lemma =>
            (try cbv)
            refine cal hr (by rintro (⟨_, _, _, _⟩) _ <;> cbv) ?_
            rintro ⟨m6, m7, q12, q13⟩ hx10 hr
            (try dsimp only at hr); constructor; (try cbv)
            refine Z2 hr ?_ ?_ <;> intro h1 hr
            ·(try cbv)
             refine cal hr (by rintro (_) _ <;> cbv) ?_
             rintro y29 hx11 hr
             (try dsimp only at hr); constructor; (try cbv)
             refine Z2 hr ?_ ?_ <;> intro h1 hr
             ·(try cbv)
              refine cal hr (by rintro (⟨_, _⟩) _ <;> cbv) ?_
              rintro ⟨q14, q15⟩ hx12 hr
              (try dsimp only at hr); constructor; (try cbv)
              refine Z2 hr ?_ ?_ <;> intro h1 hr
              ·(try cbv)
               refine cal hr (by rintro (_) _ <;> cbv) ?_
               rintro c7 hx13 hr
               (try dsimp only at hr); constructor; (try cbv)
               refine Z2 hr ?_ ?_ <;> intro h1 hr
               ·(try cbv)
                refine cal hr (by rintro (_) _ <;> cbv) ?_
                rintro c8 hx14 hr
                (try dsimp only at hr); constructor; (try cbv)
                refine Zd hr ?_ ?_ <;> intro h1 hr
                ·(try cbv)
                 refine cal hr (by rintro (⟨_, _, _, _, _⟩) _ <;> cbv) ?_
                 rintro ⟨y30, y31, y32, c9, m8⟩ hx15 hr
                 (try dsimp only at hr); constructor; (try cbv)
                 apply Hidden.out
                 exact clacd82
                (try cbv)
                apply Hidden.out
                exact clacd82
               (try cbv)
               apply Hidden.out
               exact clacd82
              (try cbv)
              apply Hidden.out
              exact clacd82
             (try cbv)
             apply Hidden.out
             exact clacd82
            (try cbv)
            apply Hidden.out
            exact clacd82
           (try cbv)
           apply Hidden.out
           exact clacd82
          (try cbv)
          apply Hidden.out
          exact clacd82
         (try cbv)
         apply Hidden.out
         exact clacd82
        (try cbv)
        apply Hidden.out
        exact clacd82
       (try cbv)
       apply Hidden.out
       exact clacd82
      (try cbv)
      apply Hidden.out
      exact clacd82
     (try cbv)
     apply Hidden.out
     exact clacd82
    (try cbv)
    apply Hidden.out
    exact clacd82
   (try cbv)
   apply Hidden.out
   exact clacd82
  (try cbv)
  apply Hidden.out
  exact clacd82
 (try cbv)
 apply Hidden.out
 exact clacd82
noncomputable def Zff : Nat → Option Con := look []
set_option maxHeartbeats 20000000 in
set_option maxRecDepth 100000 in
theorem Zyg (P : Program) (T : Tab P Zff) (hm : P.follows .mixedOrders = true) : FnVC P Zff Ziw [.t 4] 42 Zby := by
 intro cargs ccks ce hce hob C hk
 apply Hidden.out
 replace hce : Zbz cargs ccks = some ce := hce
 unfold Zbz at hce
 split at hce; rotate_left; cases hce
 obtain rfl := Option.some.inj hce
 rename_i r1 r2
 refine obh hob fun r hF => ?_
 clear hob hce
 simp only [List.length_cons, List.length_nil, Nat.zero_add, Nat.reduceAdd] at hk
 have hr : Z3s r1 r2 = some r := by rw [lock_eq] at hF; exact hF
 unfold Z3s at hr
 constructor
 (try cbv)
 refine LoopOK.iter T (drawOK T hm) hr (fun | i1 => ⟨mkFr [(0, (.rsl (.row 33 (.st [.str, .bool, (.row 83 (.st [.str, (.int .u64), (.int .u64), (.int .u64), (.int .i64), .bool])), (.st [(.row 96 (.st [(.int .i64), (.int .i64), (.int .i64)])), (.int .i64)])]) r1))), (1, (.rsl (.row 58 (.st [(.int .i64), (.int .i64), (.int .i64), (.int .u64), (.int .u8)]) r2))), (5, (.v (.int .i64 i1)))] 42 0, [], 0⟩) ?_ ?_
 ·exact cl2ec4c
 clear hr
 intro x bb1 hr ht1
 obtain ⟨i1, hz⟩ : ∃ z, z = x := ⟨x, rfl⟩
 subst hz
 as_aux_lemma =>
 constructor
 unfold Z6m at hr
 (try dsimp only at hr)
 (try cbv)
 refine Z2 hr ?_ ?_ <;> intro h1 hr
 ·(try cbv)
  refine Z3 hr fun hr => ?_
  refine Z2 hr ?_ ?_ <;> intro h1 hr
  ·(try cbv)
   apply Hidden.out
   exact clb5cb2
  (try cbv)
  refine Z3 hr fun hr => ?_
  refine Z2 hr ?_ ?_ <;> intro h1 hr
  ·(try cbv)
   apply Hidden.out
   exact clb5cb2
  (try cbv)
  apply Hidden.out
  exact clba30f
 (try cbv)
 refine Z2 hr ?_ ?_ <;> intro h1 hr
 ·(try cbv)
  refine Z2 hr ?_ ?_ <;> intro h1 hr
  ·(try cbv)
   apply Hidden.out
   exact clb5cb2
  (try cbv)
  apply Hidden.out
  exact clb5cb2
 (try cbv)
 apply Hidden.out
 exact clb5cb2
noncomputable def Zfe : Nat → Option Con := look [(26, Z6z), (28, Z72), (29, Z70), (15, Z6y), (21, Z5r), (30, Z71)]
set_option maxHeartbeats 20000000 in
set_option maxRecDepth 100000 in
theorem Zyf (P : Program) (T : Tab P Zfe) (hm : P.follows .mixedOrders = true) : FnVC P Zfe Zhl [.c 6 3 true, .c 7 3 true] 69 Zbw := by
 intro cargs ccks ce hce hob C hk
 apply Hidden.out
 replace hce : Zbx cargs ccks = some ce := hce
 unfold Zbx at hce
 split at hce; rotate_left; cases hce; rename_i r1 x1 x2 x3 x4 x5
 split at hce; rotate_left; cases hce
 split at hce; rotate_left; cases hce; rename_i s1 b1 x6 x7
 split at hce; rotate_left; cases hce; rename_i r2
 split at hce; rotate_left; cases hce; rename_i r3
 split at hce; rotate_left; cases hce; rename_i w1 n1
 split at hce; rotate_left; cases hce; rename_i x8 b2
 split at hce; rotate_left; cases hce; rename_i w2 r4
 split at hce; rotate_left; cases hce; rename_i l1
 split at hce; rotate_left; cases hce; rename_i l2
 split at hce
 ·cases hce
 obtain rfl := Option.some.inj hce
 rename_i _ htm
 simp only [Bool.and_eq_true] at htm
 obtain ⟨h1, h2⟩ := htm
 obtain rfl := Zb _ _ h1
 obtain rfl := Zb _ _ h2
 clear h1 h2
 refine obh hob fun r hF => ?_
 clear hob hce
 simp only [List.length_cons, List.length_nil, Nat.zero_add, Nat.reduceAdd] at hk
 have hr : Z3r r1 x1 x2 x3 x4 x5 s1 b1 x6 x7 r2 r3 n1 x8 b2 r4 l1 l2 = some r := by rw [lock_eq] at hF; exact hF
 unfold Z3r at hr
 constructor
 (try cbv)
 refine Z2 hr ?_ ?_ <;> intro h1 hr
 ·(try cbv)
  refine cal hr (by rintro (⟨_, _, _, _, _, _⟩) _ <;> cbv) ?_
  rintro ⟨y1, y2, y3, y4, y5, q1⟩ hx1 hr
  (try dsimp only at hr); constructor; (try cbv)
  apply Hidden.out
  exact clf9b33
 as_aux_lemma =>
 (try cbv)
 refine Z2 hr ?_ ?_ <;> intro h1 hr
 ·(try cbv)
  refine cal hr (by rintro (_) _ <;> cbv) ?_
  rintro q2 hx2 hr
  (try dsimp only at hr); constructor; (try cbv)
  apply Hidden.out
  exact clf9b33
 as_aux_lemma =>
 (try cbv)
 refine Z2 hr ?_ ?_ <;> intro h1 hr
 ·(try cbv)
  refine cal hr (by rintro (⟨_, _, _, _, _, _, _, _, _⟩) _ <;> cbv) ?_
  rintro ⟨y6, y7, y8, t1, c1, y9, c2, m1, q3⟩ hx3 hr
  (try dsimp only at hr); constructor; (try cbv)
  apply Hidden.out
  exact clf9b33
 as_aux_lemma =>
 (try cbv)
 refine Z2 hr ?_ ?_ <;> intro h1 hr
 ·(try cbv)
  refine Z2 hr ?_ ?_ <;> intro h1 hr
  ·(try cbv)
   refine Z5z hr fun hr => ?_
   refine Z3 hr fun hr => ?_
   refine cald hr (by rintro (⟨_, _, _, _, _, _, _, _, _, _, _, _⟩) _ <;> cbv) ?_
   rintro ⟨y10, t2, c3, y11, q4, q5, k1, y12, c4, q6, m2, m3⟩ hx4 hr
   (try dsimp only at hr); constructor; (try cbv)
   apply Hidden.out
   exact clf9b33
  (try cbv)
  cases hr
 (try cbv)
 refine Z2 hr ?_ ?_ <;> intro h1 hr
 ·(try cbv)
  refine Z5z hr fun hr => ?_
  refine Z3 hr fun hr => ?_
  refine cald hr (by rintro (⟨_, _, _, _, _, _, _, _, _, _, _, _⟩) _ <;> cbv) ?_
  rintro ⟨y13, t3, c5, y14, q7, q8, k2, y15, c6, q9, m4, m5⟩ hx5 hr
  (try dsimp only at hr); constructor; (try cbv)
  apply Hidden.out
  exact clf9b33
 (try cbv)
 refine Z2 hr ?_ ?_ <;> intro h1 hr
 ·(try cbv)
  refine cal hr (by rintro (⟨_, _, _, _⟩) _ <;> cbv) ?_
  rintro ⟨m6, m7, q10, q11⟩ hx6 hr
  (try dsimp only at hr); constructor; (try cbv)
  refine cal hr (by rintro (⟨_, _, _, _, _, _⟩) _ <;> cbv) ?_
  rintro ⟨y16, y17, y18, c7, q12, m8⟩ hx7 hr
  (try dsimp only at hr); constructor; (try cbv)
  apply Hidden.out
  exact clf9b33
 (try cbv)
 apply Hidden.out
 exact clf9b33
noncomputable def Zfc : Nat → Option Con := look [(8, Zbu), (9, Zby), (10, Z6x), (25, Zbw), (21, Z5r)]
set_option maxHeartbeats 20000000 in
set_option maxRecDepth 100000 in
theorem Zyd (P : Program) (T : Tab P Zfc) (hm : P.follows .mixedOrders = true) : FnVC P Zfc Zhy [.t 4] 214 Zgo := by
 intro cargs ccks ce hce hob C hk
 apply Hidden.out
 replace hce : Zbt cargs ccks = some ce := hce
 unfold Zbt at hce
 split at hce; rotate_left; cases hce
 obtain rfl := Option.some.inj hce
 rename_i r1 r2
 refine obh hob fun r hF => ?_
 clear hob hce
 simp only [List.length_cons, List.length_nil, Nat.zero_add, Nat.reduceAdd] at hk
 have hr : Z3o r1 r2 = some r := by rw [lock_eq] at hF; exact hF
 unfold Z3o at hr
 constructor
 (try cbv)
 refine cal hr (by rintro (_) _ <;> cbv) ?_
 rintro c1 hx1 hr
 (try dsimp only at hr); constructor; (try cbv)
 refine Zd hr ?_ ?_ <;> intro h1 hr
 ·(try cbv)
  apply Hidden.out
  exact clacd82
 as_aux_lemma =>
 (try cbv)
 refine cal hr (by rintro (_) _ <;> cbv) ?_
 rintro c2 hx2 hr
 (try dsimp only at hr); constructor; (try cbv)
 refine Zd hr ?_ ?_ <;> intro h1 hr
 ·(try cbv)
  apply Hidden.out
  exact clacd82
 as_aux_lemma =>
 (try cbv)
 refine Z3 hr fun hr => ?_
 refine cal hr (by rintro (_ | ⟨_, _, _, _, _, _⟩) _ <;> cbv) ?_
 rintro (_ | ⟨q1, q2, k1, q3, m1, m2⟩) hx3 hr
 all_goals ((try dsimp only at hr); constructor; (try cbv))
 ·apply Hidden.out
  exact clacd82
 refine Z3 hr fun hr => ?_
 refine LoopOK.iter T (drawOK T hm) hr (fun | (i67, s1, b1, i68, i69, r3, l1, r4, r5, n1, i70, b2, r6, l2, l3) => ⟨mkFr [(0, (.rsl (.row 33 (.st [.str, .bool, (.row 83 (.st [.str, (.int .u64), (.int .u64), (.int .u64), (.int .i64), .bool])), (.st [(.row 96 (.st [(.int .i64), (.int .i64), (.int .i64)])), (.int .i64)])]) r1))), (1, (.rsl (.row 58 (.st [(.int .i64), (.int .i64), (.int .i64), (.int .u64), (.int .u8)]) r2))), (7, (.ptr 0 0)), (8, (.wsl 1)), (9, (.wsl 2)), (10, (.v (.int .i64 i67)))] 214 0, [(0, .blk 92 [(.str s1), (.v (.bool b1)), (.wsl 3), (.wsl 4), (.v (.int .i64 i68)), (.v (.int .u64 i69)), (.wsl 5), (.ptr 6 0)]), (1, .row (.row 75 (.st [(.int .u64), (.int .i64), (.int .i64)]) r3)), (2, .row (.ints 3 .i64 l1)), (3, .row (.row 83 (.st [.str, (.int .u64), (.int .u64), (.int .u64), (.int .i64), .bool]) r4)), (4, .row (.row 96 (.st [(.int .i64), (.int .i64), (.int .i64)]) r5)), (5, .prow 98 tm98 n1 7), (6, .blk 169 [(.wsl 8), (.v (.int .i64 i70)), (.v (.bool b2)), (.wsl 9)]), (7, .gho tm98 r6 none), (8, .row (.ints 46 .u64 l2)), (9, .row (.ints 46 .u64 l3))], 10⟩) ?_ ?_
 ·exact clbece1
 clear hr
 intro x bb1 hr ht1
 obtain ⟨i67, s1, b1, i68, i69, r3, l1, r4, r5, n1, i70, b2, r6, l2, l3⟩ := x
 as_aux_lemma =>
 constructor
 unfold Z3p at hr
 (try dsimp only at hr)
 (try cbv)
 refine Z2 hr ?_ ?_ <;> intro h1 hr
 ·as_aux_lemma =>
  (try cbv)
  refine Z3 hr fun hr => ?_
  refine cal hr (by rintro (⟨_, _, _, _, _, _, _, _, _, _, _, _, _, _, _, _, _, _⟩) _ <;> cbv) ?_
  rintro ⟨y28, y29, y30, y31, y32, y33, t4, c9, y34, y35, q35, q36, k5, y36, c10, q37, m31, m32⟩ hx18 hr
  (try dsimp only at hr); constructor; (try cbv)
  refine Z2 hr ?_ ?_ <;> intro h1 hr
  ·as_aux_lemma =>
   (try cbv)
   refine Z3 hr fun hr => ?_
   refine Zd hr ?_ ?_ <;> intro h1 hr
   ·(try cbv)
    apply Hidden.out
    exact clb5cb2
   as_aux_lemma =>
   (try cbv)
   refine Z2 hr ?_ ?_ <;> intro h1 hr
   ·(try cbv)
    apply Hidden.out
    exact clb5cb2
   as_aux_lemma =>
   (try cbv)
   refine Z2 hr ?_ ?_ <;> intro h1 hr
   ·as_aux_lemma =>
    (try cbv)
    refine Z3 hr fun hr => ?_
    refine Z3 hr fun hr => ?_
    refine LoopOK.iter T (drawOK T hm) hr (fun | i113 => ⟨mkFr [(0, (.rsl (.row 33 (.st [.str, .bool, (.row 83 (.st [.str, (.int .u64), (.int .u64), (.int .u64), (.int .i64), .bool])), (.st [(.row 96 (.st [(.int .i64), (.int .i64), (.int .i64)])), (.int .i64)])]) r1))), (1, (.rsl (.row 58 (.st [(.int .i64), (.int .i64), (.int .i64), (.int .u64), (.int .u8)]) r2))), (7, (.ptr 0 0)), (8, (.wsl 1)), (9, (.wsl 2)), (10, (.v (.int .i64 i67))), (12, (.ptr 3 0)), (13, (.v (.int .i64 i113)))] 214 0, [(0, .blk 92 [(.str t4), (.v (.bool c9)), (.wsl 4), (.wsl 5), (.v (.int .i64 y34)), (.v (.int .u64 y35)), (.wsl 6), (.ptr 7 0)]), (1, .row (.row 75 (.st [(.int .u64), (.int .i64), (.int .i64)]) (lock (@cat D) r3 ([(D.l [(D.i y28), (D.i y29), (D.i y30)])] : List D)))), (2, .row (.ints 3 .i64 (lock setI l1 (lock toN y31) (lock iadd .i64 (lock getI l1 (lock toN y31)) (1 : Int))))), (3, .blk 75 [(.v (.int .u64 y31)), (.v (.int .i64 y32)), (.v (.int .i64 y33))]), (4, .row (.row 83 (.st [.str, (.int .u64), (.int .u64), (.int .u64), (.int .i64), .bool]) q35)), (5, .row (.row 96 (.st [(.int .i64), (.int .i64), (.int .i64)]) q36)), (6, .prow 98 tm98 k5 8), (7, .blk 169 [(.wsl 9), (.v (.int .i64 y36)), (.v (.bool c10)), (.wsl 10)]), (8, .gho tm98 q37 none), (9, .row (.ints 46 .u64 m31)), (10, .row (.ints 46 .u64 m32))], 11⟩) ?_ ?_
    ·exact cl2ec4c
    clear hr
    intro x bb2 hr ht2
    obtain ⟨i113, hz⟩ : ∃ z, z = x := ⟨x, rfl⟩
    subst hz
    as_aux_lemma =>
    constructor
    unfold Zfv at hr
    (try dsimp only at hr)
    (try cbv)
    refine Z2 hr ?_ ?_ <;> intro h1 hr
    ·(try cbv)
     refine Z3 hr fun hr => ?_
     apply Hidden.out
     refine Z9 hr ?_ ?_ <;> intro h1 hr
     ·constructor
      have h2 : (lock ieq (lock D.toI (lock D.fld (lock getD (lock (@cat D) r3 ([(D.l [(D.i y28), (D.i y29), (D.i y30)])] : List D)) (lock toN i113)) 1)) y32) = true := by simp only [lock_eq]; exact h1
      simp only [relock, h2]
      (try cbv)
      refine Z3 hr fun hr => ?_
      refine Z2 hr ?_ ?_ <;> intro h1 hr
      ·(try cbv)
       apply Hidden.out
       exact cl5a7c6
      (try cbv)
      apply Hidden.out
      exact clba30f
     constructor
     have h2 : (lock ieq (lock D.toI (lock D.fld (lock getD (lock (@cat D) r3 ([(D.l [(D.i y28), (D.i y29), (D.i y30)])] : List D)) (lock toN i113)) 1)) y32) = false := by simp only [lock_eq]; exact h1
     simp only [relock, h2]
     (try cbv)
     apply Hidden.out
     exact clba30f
    as_aux_lemma =>
    (try cbv)
    refine Z3 hr fun hr => ?_
    apply Hidden.out
    refine Z9 hr ?_ ?_ <;> intro h1 hr
    ·constructor
     have h2 : (lock band (lock ieq (lock D.toI (lock D.fld (lock getD (lock (@cat D) r3 ([(D.l [(D.i y28), (D.i y29), (D.i y30)])] : List D)) (lock toN (lock isub .u64 y31 (1 : Int)))) 0)) y31) (lock band (lock ieq (lock D.toI (lock D.fld (lock getD (lock (@cat D) r3 ([(D.l [(D.i y28), (D.i y29), (D.i y30)])] : List D)) (lock toN (lock isub .u64 y31 (1 : Int)))) 1)) y32) (lock band (lock ieq (lock D.toI (lock D.fld (lock getD (lock (@cat D) r3 ([(D.l [(D.i y28), (D.i y29), (D.i y30)])] : List D)) (lock toN (lock isub .u64 y31 (1 : Int)))) 2)) y33) true))) = true := by simp only [lock_eq]; exact h1
     simp only [relock, h2]
     (try cbv)
     refine Z3 hr fun hr => ?_
     refine Z2 hr ?_ ?_ <;> intro h1 hr
     ·(try cbv)
      apply Hidden.out
      exact cl5a7c6
     as_aux_lemma =>
     (try cbv)
     refine cal hr (by rintro (⟨_, _, _, _⟩) _ <;> cbv) ?_
     rintro ⟨m33, m34, q38, q39⟩ hx19 hr
     (try dsimp only at hr); constructor; (try cbv)
     apply Hidden.out
     obtain ⟨t, hr2, hw⟩ := Zr hr
     clear hr
     subst hw
     have e := (ht2 _ rfl).symm
     subst e
     have hr := hr2
     clear hr2
     constructor
     refine LoopOK.iter T (drawOK T hm) hr (fun | (i116, i117) => ⟨mkFr [(0, (.rsl (.row 33 (.st [.str, .bool, (.row 83 (.st [.str, (.int .u64), (.int .u64), (.int .u64), (.int .i64), .bool])), (.st [(.row 96 (.st [(.int .i64), (.int .i64), (.int .i64)])), (.int .i64)])]) r1))), (1, (.rsl (.row 58 (.st [(.int .i64), (.int .i64), (.int .i64), (.int .u64), (.int .u8)]) r2))), (7, (.ptr 0 0)), (8, (.wsl 1)), (9, (.wsl 2)), (10, (.v (.int .i64 i67))), (14, (.rsl (.row 72 (.row 75 (.st [(.int .u64), (.int .i64), (.int .i64)])) q38))), (15, (.v (.int .i64 i116))), (16, (.v (.int .i64 i117)))] 214 0, [(0, .blk 92 [(.str t4), (.v (.bool c9)), (.wsl 3), (.wsl 4), (.v (.int .i64 y34)), (.v (.int .u64 y35)), (.wsl 5), (.ptr 6 0)]), (1, .row (.row 75 (.st [(.int .u64), (.int .i64), (.int .i64)]) (lock (@cat D) r3 ([(D.l [(D.i y28), (D.i y29), (D.i y30)])] : List D)))), (2, .row (.ints 3 .i64 (lock setI l1 (lock toN y31) (lock iadd .i64 (lock getI l1 (lock toN y31)) (1 : Int))))), (3, .row (.row 83 (.st [.str, (.int .u64), (.int .u64), (.int .u64), (.int .i64), .bool]) q35)), (4, .row (.row 96 (.st [(.int .i64), (.int .i64), (.int .i64)]) q36)), (5, .prow 98 tm98 k5 7), (6, .blk 169 [(.wsl 8), (.v (.int .i64 y36)), (.v (.bool c10)), (.wsl 9)]), (7, .gho tm98 q39 none), (8, .row (.ints 46 .u64 m31)), (9, .row (.ints 46 .u64 m32))], 10⟩) ?_ ?_
     ·exact cl1df3b
     clear hr
     intro x bb2 hr ht2
     obtain ⟨i116, i117⟩ := x
     as_aux_lemma =>
     constructor
     unfold Zfw at hr
     (try dsimp only at hr)
     (try cbv)
     refine Z2 hr ?_ ?_ <;> intro h1 hr
     ·as_aux_lemma =>
      (try cbv)
      refine LoopOK.iter T (drawOK T hm) hr (fun | (i120, i121) => ⟨mkFr [(0, (.rsl (.row 33 (.st [.str, .bool, (.row 83 (.st [.str, (.int .u64), (.int .u64), (.int .u64), (.int .i64), .bool])), (.st [(.row 96 (.st [(.int .i64), (.int .i64), (.int .i64)])), (.int .i64)])]) r1))), (1, (.rsl (.row 58 (.st [(.int .i64), (.int .i64), (.int .i64), (.int .u64), (.int .u8)]) r2))), (7, (.ptr 0 0)), (8, (.wsl 1)), (9, (.wsl 2)), (10, (.v (.int .i64 i67))), (14, (.rsl (.row 72 (.row 75 (.st [(.int .u64), (.int .i64), (.int .i64)])) q38))), (15, (.v (.int .i64 i120))), (16, (.v (.int .i64 i117))), (17, (.v (.int .i64 i121)))] 214 0, [(0, .blk 92 [(.str t4), (.v (.bool c9)), (.wsl 3), (.wsl 4), (.v (.int .i64 y34)), (.v (.int .u64 y35)), (.wsl 5), (.ptr 6 0)]), (1, .row (.row 75 (.st [(.int .u64), (.int .i64), (.int .i64)]) (lock (@cat D) r3 ([(D.l [(D.i y28), (D.i y29), (D.i y30)])] : List D)))), (2, .row (.ints 3 .i64 (lock setI l1 (lock toN y31) (lock iadd .i64 (lock getI l1 (lock toN y31)) (1 : Int))))), (3, .row (.row 83 (.st [.str, (.int .u64), (.int .u64), (.int .u64), (.int .i64), .bool]) q35)), (4, .row (.row 96 (.st [(.int .i64), (.int .i64), (.int .i64)]) q36)), (5, .prow 98 tm98 k5 7), (6, .blk 169 [(.wsl 8), (.v (.int .i64 y36)), (.v (.bool c10)), (.wsl 9)]), (7, .gho tm98 q39 none), (8, .row (.ints 46 .u64 m31)), (9, .row (.ints 46 .u64 m32))], 10⟩) ?_ ?_
      ·exact cl1df3b
      clear hr
      intro x bb3 hr ht3
      obtain ⟨i120, i121⟩ := x
      as_aux_lemma =>
      constructor
      unfold Zfx at hr
      (try dsimp only at hr)
      (try cbv)
      refine Z3 hr fun hr => ?_
      refine Z2 hr ?_ ?_ <;> intro h1 hr
      ·as_aux_lemma =>
       (try cbv)
       refine Z3 hr fun hr => ?_
       refine Z3 hr fun hr => ?_
       apply Hidden.out
       refine Z9 hr ?_ ?_ <;> intro h1 hr
       ·constructor
        have h2 : (lock ilt (lock D.toI (lock D.fld (lock getD (lock D.toL (lock getD q38 (lock toN i117))) (lock toN i121)) 0)) (1 : Int)) = true := by simp only [lock_eq]; exact h1
        simp only [relock, h2]
        (try cbv)
        apply Hidden.out
        exact cld39d7
       constructor
       have h2 : (lock ilt (lock D.toI (lock D.fld (lock getD (lock D.toL (lock getD q38 (lock toN i117))) (lock toN i121)) 0)) (1 : Int)) = false := by simp only [lock_eq]; exact h1
       simp only [relock, h2]
       (try cbv)
       apply Hidden.out
       refine Z9 hr ?_ ?_ <;> intro h1 hr
       ·constructor
        have h2 : (lock ilt (lock iconv .u64 (lock ofN (lock (@xlen D) (lock (@cat D) r3 ([(D.l [(D.i y28), (D.i y29), (D.i y30)])] : List D))))) (lock D.toI (lock D.fld (lock getD (lock D.toL (lock getD q38 (lock toN i117))) (lock toN i121)) 0))) = true := by simp only [lock_eq]; exact h1
        simp only [relock, h2]
        (try cbv)
        apply Hidden.out
        exact cld39d7
       constructor
       have h2 : (lock ilt (lock iconv .u64 (lock ofN (lock (@xlen D) (lock (@cat D) r3 ([(D.l [(D.i y28), (D.i y29), (D.i y30)])] : List D))))) (lock D.toI (lock D.fld (lock getD (lock D.toL (lock getD q38 (lock toN i117))) (lock toN i121)) 0))) = false := by simp only [lock_eq]; exact h1
       simp only [relock, h2]
       (try cbv)
       refine Z3 hr fun hr => ?_
       apply Hidden.out
       refine Z9 hr ?_ ?_ <;> intro h1 hr
       ·constructor
        have h2 : (lock band (lock ieq (lock D.toI (lock D.fld (lock getD (lock (@cat D) r3 ([(D.l [(D.i y28), (D.i y29), (D.i y30)])] : List D)) (lock toN (lock isub .u64 (lock D.toI (lock D.fld (lock getD (lock D.toL (lock getD q38 (lock toN i117))) (lock toN i121)) 0)) (1 : Int)))) 0)) (lock D.toI (lock D.fld (lock getD (lock D.toL (lock getD q38 (lock toN i117))) (lock toN i121)) 0))) (lock band (lock ieq (lock D.toI (lock D.fld (lock getD (lock (@cat D) r3 ([(D.l [(D.i y28), (D.i y29), (D.i y30)])] : List D)) (lock toN (lock isub .u64 (lock D.toI (lock D.fld (lock getD (lock D.toL (lock getD q38 (lock toN i117))) (lock toN i121)) 0)) (1 : Int)))) 1)) (lock D.toI (lock D.fld (lock getD (lock D.toL (lock getD q38 (lock toN i117))) (lock toN i121)) 1))) (lock band (lock ieq (lock D.toI (lock D.fld (lock getD (lock (@cat D) r3 ([(D.l [(D.i y28), (D.i y29), (D.i y30)])] : List D)) (lock toN (lock isub .u64 (lock D.toI (lock D.fld (lock getD (lock D.toL (lock getD q38 (lock toN i117))) (lock toN i121)) 0)) (1 : Int)))) 2)) (lock D.toI (lock D.fld (lock getD (lock D.toL (lock getD q38 (lock toN i117))) (lock toN i121)) 2))) true))) = true := by simp only [lock_eq]; exact h1
        simp only [relock, h2]
        (try cbv)
        refine Z3 hr fun hr => ?_
        apply Hidden.out
        refine Z9 hr ?_ ?_ <;> intro h1 hr
        ·constructor
         have h2 : (lock ilt (0 : Int) (lock getI (lock setI l1 (lock toN y31) (lock iadd .i64 (lock getI l1 (lock toN y31)) (1 : Int))) (lock toN (lock D.toI (lock D.fld (lock getD (lock D.toL (lock getD q38 (lock toN i117))) (lock toN i121)) 0))))) = true := by simp only [lock_eq]; exact h1
         simp only [relock, h2]
         (try cbv)
         apply Hidden.out
         exact cld39d7
        constructor
        have h2 : (lock ilt (0 : Int) (lock getI (lock setI l1 (lock toN y31) (lock iadd .i64 (lock getI l1 (lock toN y31)) (1 : Int))) (lock toN (lock D.toI (lock D.fld (lock getD (lock D.toL (lock getD q38 (lock toN i117))) (lock toN i121)) 0))))) = false := by simp only [lock_eq]; exact h1
        simp only [relock, h2]
        (try cbv)
        apply Hidden.out
        refine Z9 hr ?_ ?_ <;> intro h1 hr
        ·constructor
         have h2 : (lock ilt (0 : Int) i121) = true := by simp only [lock_eq]; exact h1
         simp only [relock, h2]
         (try cbv)
         refine Z3 hr fun hr => ?_
         refine Z3 hr fun hr => ?_
         refine Z2 hr ?_ ?_ <;> intro h1 hr
         ·(try cbv)
          apply Hidden.out
          exact cld39d7
         (try cbv)
         apply Hidden.out
         exact cl81169
        constructor
        have h2 : (lock ilt (0 : Int) i121) = false := by simp only [lock_eq]; exact h1
        simp only [relock, h2]
        (try cbv)
        apply Hidden.out
        exact cl81169
       constructor
       have h2 : (lock band (lock ieq (lock D.toI (lock D.fld (lock getD (lock (@cat D) r3 ([(D.l [(D.i y28), (D.i y29), (D.i y30)])] : List D)) (lock toN (lock isub .u64 (lock D.toI (lock D.fld (lock getD (lock D.toL (lock getD q38 (lock toN i117))) (lock toN i121)) 0)) (1 : Int)))) 0)) (lock D.toI (lock D.fld (lock getD (lock D.toL (lock getD q38 (lock toN i117))) (lock toN i121)) 0))) (lock band (lock ieq (lock D.toI (lock D.fld (lock getD (lock (@cat D) r3 ([(D.l [(D.i y28), (D.i y29), (D.i y30)])] : List D)) (lock toN (lock isub .u64 (lock D.toI (lock D.fld (lock getD (lock D.toL (lock getD q38 (lock toN i117))) (lock toN i121)) 0)) (1 : Int)))) 1)) (lock D.toI (lock D.fld (lock getD (lock D.toL (lock getD q38 (lock toN i117))) (lock toN i121)) 1))) (lock band (lock ieq (lock D.toI (lock D.fld (lock getD (lock (@cat D) r3 ([(D.l [(D.i y28), (D.i y29), (D.i y30)])] : List D)) (lock toN (lock isub .u64 (lock D.toI (lock D.fld (lock getD (lock D.toL (lock getD q38 (lock toN i117))) (lock toN i121)) 0)) (1 : Int)))) 2)) (lock D.toI (lock D.fld (lock getD (lock D.toL (lock getD q38 (lock toN i117))) (lock toN i121)) 2))) true))) = false := by simp only [lock_eq]; exact h1
       simp only [relock, h2]
       (try cbv)
       apply Hidden.out
       exact cld39d7
      (try cbv)
      apply Hidden.out
      exact cld532a
     (try cbv)
     apply Hidden.out
     obtain ⟨t, hr2, hw⟩ := Zr hr
     clear hr
     subst hw
     have e := (ht2 _ rfl).symm
     subst e
     have hr := hr2
     clear hr2
     constructor
     refine LoopOK.iter T (drawOK T hm) hr (fun | (i122, i123) => ⟨mkFr [(0, (.rsl (.row 33 (.st [.str, .bool, (.row 83 (.st [.str, (.int .u64), (.int .u64), (.int .u64), (.int .i64), .bool])), (.st [(.row 96 (.st [(.int .i64), (.int .i64), (.int .i64)])), (.int .i64)])]) r1))), (1, (.rsl (.row 58 (.st [(.int .i64), (.int .i64), (.int .i64), (.int .u64), (.int .u8)]) r2))), (7, (.ptr 0 0)), (8, (.wsl 1)), (9, (.wsl 2)), (10, (.v (.int .i64 i67))), (15, (.v (.int .i64 i122))), (19, (.v (.int .i64 i123)))] 214 0, [(0, .blk 92 [(.str t4), (.v (.bool c9)), (.wsl 3), (.wsl 4), (.v (.int .i64 y34)), (.v (.int .u64 y35)), (.wsl 5), (.ptr 6 0)]), (1, .row (.row 75 (.st [(.int .u64), (.int .i64), (.int .i64)]) (lock (@cat D) r3 ([(D.l [(D.i y28), (D.i y29), (D.i y30)])] : List D)))), (2, .row (.ints 3 .i64 (lock setI l1 (lock toN y31) (lock iadd .i64 (lock getI l1 (lock toN y31)) (1 : Int))))), (3, .row (.row 83 (.st [.str, (.int .u64), (.int .u64), (.int .u64), (.int .i64), .bool]) q35)), (4, .row (.row 96 (.st [(.int .i64), (.int .i64), (.int .i64)]) q36)), (5, .prow 98 tm98 k5 7), (6, .blk 169 [(.wsl 8), (.v (.int .i64 y36)), (.v (.bool c10)), (.wsl 9)]), (7, .gho tm98 q39 none), (8, .row (.ints 46 .u64 m31)), (9, .row (.ints 46 .u64 m32))], 10⟩) ?_ ?_
     ·exact cl1df3b
     clear hr
     intro x bb2 hr ht2
     obtain ⟨i122, i123⟩ := x
     as_aux_lemma =>
     constructor
     unfold Zfy at hr
     (try dsimp only at hr)
     (try cbv)
     refine Z2 hr ?_ ?_ <;> intro h1 hr
     ·(try cbv)
      refine Z3 hr fun hr => ?_
      apply Hidden.out
      exact cl81169
     (try cbv)
     refine Zd hr ?_ ?_ <;> intro h1 hr
     ·(try cbv)
      apply Hidden.out
      exact cl5a7c6
     (try cbv)
     apply Hidden.out
     exact cl2576e
    constructor
    have h2 : (lock band (lock ieq (lock D.toI (lock D.fld (lock getD (lock (@cat D) r3 ([(D.l [(D.i y28), (D.i y29), (D.i y30)])] : List D)) (lock toN (lock isub .u64 y31 (1 : Int)))) 0)) y31) (lock band (lock ieq (lock D.toI (lock D.fld (lock getD (lock (@cat D) r3 ([(D.l [(D.i y28), (D.i y29), (D.i y30)])] : List D)) (lock toN (lock isub .u64 y31 (1 : Int)))) 1)) y32) (lock band (lock ieq (lock D.toI (lock D.fld (lock getD (lock (@cat D) r3 ([(D.l [(D.i y28), (D.i y29), (D.i y30)])] : List D)) (lock toN (lock isub .u64 y31 (1 : Int)))) 2)) y33) true))) = false := by simp only [lock_eq]; exact h1
    simp only [relock, h2]
    (try cbv)
    apply Hidden.out
    exact cl5a7c6
   as_aux_lemma =>
   (try cbv)
   refine cal hr (by rintro (⟨_, _, _, _⟩) _ <;> cbv) ?_
   rintro ⟨m35, m36, q40, q41⟩ hx20 hr
   (try dsimp only at hr); constructor; (try cbv)
   refine LoopOK.iter T (drawOK T hm) hr (fun | (i126, i127) => ⟨mkFr [(0, (.rsl (.row 33 (.st [.str, .bool, (.row 83 (.st [.str, (.int .u64), (.int .u64), (.int .u64), (.int .i64), .bool])), (.st [(.row 96 (.st [(.int .i64), (.int .i64), (.int .i64)])), (.int .i64)])]) r1))), (1, (.rsl (.row 58 (.st [(.int .i64), (.int .i64), (.int .i64), (.int .u64), (.int .u8)]) r2))), (7, (.ptr 0 0)), (8, (.wsl 1)), (9, (.wsl 2)), (10, (.v (.int .i64 i67))), (14, (.rsl (.row 72 (.row 75 (.st [(.int .u64), (.int .i64), (.int .i64)])) q40))), (15, (.v (.int .i64 i126))), (16, (.v (.int .i64 i127)))] 214 0, [(0, .blk 92 [(.str t4), (.v (.bool c9)), (.wsl 3), (.wsl 4), (.v (.int .i64 y34)), (.v (.int .u64 y35)), (.wsl 5), (.ptr 6 0)]), (1, .row (.row 75 (.st [(.int .u64), (.int .i64), (.int .i64)]) (lock (@cat D) r3 ([(D.l [(D.i y28), (D.i y29), (D.i y30)])] : List D)))), (2, .row (.ints 3 .i64 l1)), (3, .row (.row 83 (.st [.str, (.int .u64), (.int .u64), (.int .u64), (.int .i64), .bool]) q35)), (4, .row (.row 96 (.st [(.int .i64), (.int .i64), (.int .i64)]) q36)), (5, .prow 98 tm98 k5 7), (6, .blk 169 [(.wsl 8), (.v (.int .i64 y36)), (.v (.bool c10)), (.wsl 9)]), (7, .gho tm98 q41 none), (8, .row (.ints 46 .u64 m31)), (9, .row (.ints 46 .u64 m32))], 10⟩) ?_ ?_
   ·exact cl1df3b
   clear hr
   intro x bb2 hr ht2
   obtain ⟨i126, i127⟩ := x
   as_aux_lemma =>
   constructor
   unfold Z8b at hr
   (try dsimp only at hr)
   (try cbv)
   refine Z2 hr ?_ ?_ <;> intro h1 hr
   ·as_aux_lemma =>
    (try cbv)
    refine LoopOK.iter T (drawOK T hm) hr (fun | (i130, i131) => ⟨mkFr [(0, (.rsl (.row 33 (.st [.str, .bool, (.row 83 (.st [.str, (.int .u64), (.int .u64), (.int .u64), (.int .i64), .bool])), (.st [(.row 96 (.st [(.int .i64), (.int .i64), (.int .i64)])), (.int .i64)])]) r1))), (1, (.rsl (.row 58 (.st [(.int .i64), (.int .i64), (.int .i64), (.int .u64), (.int .u8)]) r2))), (7, (.ptr 0 0)), (8, (.wsl 1)), (9, (.wsl 2)), (10, (.v (.int .i64 i67))), (14, (.rsl (.row 72 (.row 75 (.st [(.int .u64), (.int .i64), (.int .i64)])) q40))), (15, (.v (.int .i64 i130))), (16, (.v (.int .i64 i127))), (17, (.v (.int .i64 i131)))] 214 0, [(0, .blk 92 [(.str t4), (.v (.bool c9)), (.wsl 3), (.wsl 4), (.v (.int .i64 y34)), (.v (.int .u64 y35)), (.wsl 5), (.ptr 6 0)]), (1, .row (.row 75 (.st [(.int .u64), (.int .i64), (.int .i64)]) (lock (@cat D) r3 ([(D.l [(D.i y28), (D.i y29), (D.i y30)])] : List D)))), (2, .row (.ints 3 .i64 l1)), (3, .row (.row 83 (.st [.str, (.int .u64), (.int .u64), (.int .u64), (.int .i64), .bool]) q35)), (4, .row (.row 96 (.st [(.int .i64), (.int .i64), (.int .i64)]) q36)), (5, .prow 98 tm98 k5 7), (6, .blk 169 [(.wsl 8), (.v (.int .i64 y36)), (.v (.bool c10)), (.wsl 9)]), (7, .gho tm98 q41 none), (8, .row (.ints 46 .u64 m31)), (9, .row (.ints 46 .u64 m32))], 10⟩) ?_ ?_
    ·exact cl1df3b
    clear hr
    intro x bb3 hr ht3
    obtain ⟨i130, i131⟩ := x
    as_aux_lemma =>
    constructor
    unfold Zfz at hr
    (try dsimp only at hr)
    (try cbv)
    refine Z3 hr fun hr => ?_
    refine Z2 hr ?_ ?_ <;> intro h1 hr
    ·as_aux_lemma =>
     (try cbv)
     refine Z3 hr fun hr => ?_
     refine Z3 hr fun hr => ?_
     apply Hidden.out
     refine Z9 hr ?_ ?_ <;> intro h1 hr
     ·constructor
      have h2 : (lock ilt (lock D.toI (lock D.fld (lock getD (lock D.toL (lock getD q40 (lock toN i127))) (lock toN i131)) 0)) (1 : Int)) = true := by simp only [lock_eq]; exact h1
      simp only [relock, h2]
      (try cbv)
      apply Hidden.out
      exact cld39d7
     constructor
     have h2 : (lock ilt (lock D.toI (lock D.fld (lock getD (lock D.toL (lock getD q40 (lock toN i127))) (lock toN i131)) 0)) (1 : Int)) = false := by simp only [lock_eq]; exact h1
     simp only [relock, h2]
     (try cbv)
     apply Hidden.out
     refine Z9 hr ?_ ?_ <;> intro h1 hr
     ·constructor
      have h2 : (lock ilt (lock iconv .u64 (lock ofN (lock (@xlen D) (lock (@cat D) r3 ([(D.l [(D.i y28), (D.i y29), (D.i y30)])] : List D))))) (lock D.toI (lock D.fld (lock getD (lock D.toL (lock getD q40 (lock toN i127))) (lock toN i131)) 0))) = true := by simp only [lock_eq]; exact h1
      simp only [relock, h2]
      (try cbv)
      apply Hidden.out
      exact cld39d7
     constructor
     have h2 : (lock ilt (lock iconv .u64 (lock ofN (lock (@xlen D) (lock (@cat D) r3 ([(D.l [(D.i y28), (D.i y29), (D.i y30)])] : List D))))) (lock D.toI (lock D.fld (lock getD (lock D.toL (lock getD q40 (lock toN i127))) (lock toN i131)) 0))) = false := by simp only [lock_eq]; exact h1
     simp only [relock, h2]
     (try cbv)
     refine Z3 hr fun hr => ?_
     apply Hidden.out
     refine Z9 hr ?_ ?_ <;> intro h1 hr
     ·constructor
      have h2 : (lock band (lock ieq (lock D.toI (lock D.fld (lock getD (lock (@cat D) r3 ([(D.l [(D.i y28), (D.i y29), (D.i y30)])] : List D)) (lock toN (lock isub .u64 (lock D.toI (lock D.fld (lock getD (lock D.toL (lock getD q40 (lock toN i127))) (lock toN i131)) 0)) (1 : Int)))) 0)) (lock D.toI (lock D.fld (lock getD (lock D.toL (lock getD q40 (lock toN i127))) (lock toN i131)) 0))) (lock band (lock ieq (lock D.toI (lock D.fld (lock getD (lock (@cat D) r3 ([(D.l [(D.i y28), (D.i y29), (D.i y30)])] : List D)) (lock toN (lock isub .u64 (lock D.toI (lock D.fld (lock getD (lock D.toL (lock getD q40 (lock toN i127))) (lock toN i131)) 0)) (1 : Int)))) 1)) (lock D.toI (lock D.fld (lock getD (lock D.toL (lock getD q40 (lock toN i127))) (lock toN i131)) 1))) (lock band (lock ieq (lock D.toI (lock D.fld (lock getD (lock (@cat D) r3 ([(D.l [(D.i y28), (D.i y29), (D.i y30)])] : List D)) (lock toN (lock isub .u64 (lock D.toI (lock D.fld (lock getD (lock D.toL (lock getD q40 (lock toN i127))) (lock toN i131)) 0)) (1 : Int)))) 2)) (lock D.toI (lock D.fld (lock getD (lock D.toL (lock getD q40 (lock toN i127))) (lock toN i131)) 2))) true))) = true := by simp only [lock_eq]; exact h1
      simp only [relock, h2]
      (try cbv)
      refine Z3 hr fun hr => ?_
      apply Hidden.out
      refine Z9 hr ?_ ?_ <;> intro h1 hr
      ·constructor
       have h2 : (lock ilt (0 : Int) (lock getI l1 (lock toN (lock D.toI (lock D.fld (lock getD (lock D.toL (lock getD q40 (lock toN i127))) (lock toN i131)) 0))))) = true := by simp only [lock_eq]; exact h1
       simp only [relock, h2]
       (try cbv)
       apply Hidden.out
       exact cld39d7
      constructor
      have h2 : (lock ilt (0 : Int) (lock getI l1 (lock toN (lock D.toI (lock D.fld (lock getD (lock D.toL (lock getD q40 (lock toN i127))) (lock toN i131)) 0))))) = false := by simp only [lock_eq]; exact h1
      simp only [relock, h2]
      (try cbv)
      apply Hidden.out
      refine Z9 hr ?_ ?_ <;> intro h1 hr
      ·constructor
       have h2 : (lock ilt (0 : Int) i131) = true := by simp only [lock_eq]; exact h1
       simp only [relock, h2]
       (try cbv)
       refine Z3 hr fun hr => ?_
       refine Z3 hr fun hr => ?_
       refine Z2 hr ?_ ?_ <;> intro h1 hr
       ·(try cbv)
        apply Hidden.out
        exact cld39d7
       (try cbv)
       apply Hidden.out
       exact cl81169
      constructor
      have h2 : (lock ilt (0 : Int) i131) = false := by simp only [lock_eq]; exact h1
      simp only [relock, h2]
      (try cbv)
      apply Hidden.out
      exact cl81169
     constructor
     have h2 : (lock band (lock ieq (lock D.toI (lock D.fld (lock getD (lock (@cat D) r3 ([(D.l [(D.i y28), (D.i y29), (D.i y30)])] : List D)) (lock toN (lock isub .u64 (lock D.toI (lock D.fld (lock getD (lock D.toL (lock getD q40 (lock toN i127))) (lock toN i131)) 0)) (1 : Int)))) 0)) (lock D.toI (lock D.fld (lock getD (lock D.toL (lock getD q40 (lock toN i127))) (lock toN i131)) 0))) (lock band (lock ieq (lock D.toI (lock D.fld (lock getD (lock (@cat D) r3 ([(D.l [(D.i y28), (D.i y29), (D.i y30)])] : List D)) (lock toN (lock isub .u64 (lock D.toI (lock D.fld (lock getD (lock D.toL (lock getD q40 (lock toN i127))) (lock toN i131)) 0)) (1 : Int)))) 1)) (lock D.toI (lock D.fld (lock getD (lock D.toL (lock getD q40 (lock toN i127))) (lock toN i131)) 1))) (lock band (lock ieq (lock D.toI (lock D.fld (lock getD (lock (@cat D) r3 ([(D.l [(D.i y28), (D.i y29), (D.i y30)])] : List D)) (lock toN (lock isub .u64 (lock D.toI (lock D.fld (lock getD (lock D.toL (lock getD q40 (lock toN i127))) (lock toN i131)) 0)) (1 : Int)))) 2)) (lock D.toI (lock D.fld (lock getD (lock D.toL (lock getD q40 (lock toN i127))) (lock toN i131)) 2))) true))) = false := by simp only [lock_eq]; exact h1
     simp only [relock, h2]
     (try cbv)
     apply Hidden.out
     exact cld39d7
    (try cbv)
    apply Hidden.out
    exact cld532a
   (try cbv)
   apply Hidden.out
   obtain ⟨t, hr2, hw⟩ := Zr hr
   clear hr
   subst hw
   have e := (ht2 _ rfl).symm
   subst e
   have hr := hr2
   clear hr2
   constructor
   refine LoopOK.iter T (drawOK T hm) hr (fun | (i132, i133) => ⟨mkFr [(0, (.rsl (.row 33 (.st [.str, .bool, (.row 83 (.st [.str, (.int .u64), (.int .u64), (.int .u64), (.int .i64), .bool])), (.st [(.row 96 (.st [(.int .i64), (.int .i64), (.int .i64)])), (.int .i64)])]) r1))), (1, (.rsl (.row 58 (.st [(.int .i64), (.int .i64), (.int .i64), (.int .u64), (.int .u8)]) r2))), (7, (.ptr 0 0)), (8, (.wsl 1)), (9, (.wsl 2)), (10, (.v (.int .i64 i67))), (15, (.v (.int .i64 i132))), (19, (.v (.int .i64 i133)))] 214 0, [(0, .blk 92 [(.str t4), (.v (.bool c9)), (.wsl 3), (.wsl 4), (.v (.int .i64 y34)), (.v (.int .u64 y35)), (.wsl 5), (.ptr 6 0)]), (1, .row (.row 75 (.st [(.int .u64), (.int .i64), (.int .i64)]) (lock (@cat D) r3 ([(D.l [(D.i y28), (D.i y29), (D.i y30)])] : List D)))), (2, .row (.ints 3 .i64 l1)), (3, .row (.row 83 (.st [.str, (.int .u64), (.int .u64), (.int .u64), (.int .i64), .bool]) q35)), (4, .row (.row 96 (.st [(.int .i64), (.int .i64), (.int .i64)]) q36)), (5, .prow 98 tm98 k5 7), (6, .blk 169 [(.wsl 8), (.v (.int .i64 y36)), (.v (.bool c10)), (.wsl 9)]), (7, .gho tm98 q41 none), (8, .row (.ints 46 .u64 m31)), (9, .row (.ints 46 .u64 m32))], 10⟩) ?_ ?_
   ·exact cl1df3b
   clear hr
   intro x bb2 hr ht2
   obtain ⟨i132, i133⟩ := x
   as_aux_lemma =>
   constructor
   unfold Zg0 at hr
   (try dsimp only at hr)
   (try cbv)
   refine Z2 hr ?_ ?_ <;> intro h1 hr
   ·(try cbv)
    refine Z3 hr fun hr => ?_
    apply Hidden.out
    exact cl81169
   (try cbv)
   refine Zd hr ?_ ?_ <;> intro h1 hr
   ·(try cbv)
    apply Hidden.out
    exact cl5a7c6
   (try cbv)
   apply Hidden.out
   exact cl2576e
  as_aux_lemma =>
  (try cbv)
  refine Z2 hr ?_ ?_ <;> intro h1 hr
  ·(try cbv)
   apply Hidden.out
   exact clb5cb2
  as_aux_lemma =>
  (try cbv)
  refine Z2 hr ?_ ?_ <;> intro h1 hr
  ·as_aux_lemma =>
   (try cbv)
   refine Z3 hr fun hr => ?_
   refine Z3 hr fun hr => ?_
   refine LoopOK.iter T (drawOK T hm) hr (fun | i134 => ⟨mkFr [(0, (.rsl (.row 33 (.st [.str, .bool, (.row 83 (.st [.str, (.int .u64), (.int .u64), (.int .u64), (.int .i64), .bool])), (.st [(.row 96 (.st [(.int .i64), (.int .i64), (.int .i64)])), (.int .i64)])]) r1))), (1, (.rsl (.row 58 (.st [(.int .i64), (.int .i64), (.int .i64), (.int .u64), (.int .u8)]) r2))), (7, (.ptr 0 0)), (8, (.wsl 1)), (9, (.wsl 2)), (10, (.v (.int .i64 i67))), (12, (.ptr 3 0)), (13, (.v (.int .i64 i134)))] 214 0, [(0, .blk 92 [(.str t4), (.v (.bool c9)), (.wsl 4), (.wsl 5), (.v (.int .i64 y34)), (.v (.int .u64 y35)), (.wsl 6), (.ptr 7 0)]), (1, .row (.row 75 (.st [(.int .u64), (.int .i64), (.int .i64)]) r3)), (2, .row (.ints 3 .i64 (lock setI l1 (lock toN y31) (lock iadd .i64 (lock getI l1 (lock toN y31)) (1 : Int))))), (3, .blk 75 [(.v (.int .u64 y31)), (.v (.int .i64 y32)), (.v (.int .i64 y33))]), (4, .row (.row 83 (.st [.str, (.int .u64), (.int .u64), (.int .u64), (.int .i64), .bool]) q35)), (5, .row (.row 96 (.st [(.int .i64), (.int .i64), (.int .i64)]) q36)), (6, .prow 98 tm98 k5 8), (7, .blk 169 [(.wsl 9), (.v (.int .i64 y36)), (.v (.bool c10)), (.wsl 10)]), (8, .gho tm98 q37 none), (9, .row (.ints 46 .u64 m31)), (10, .row (.ints 46 .u64 m32))], 11⟩) ?_ ?_
   ·exact cl2ec4c
   clear hr
   intro x bb2 hr ht2
   obtain ⟨i134, hz⟩ : ∃ z, z = x := ⟨x, rfl⟩
   subst hz
   as_aux_lemma =>
   constructor
   unfold Z4p at hr
   (try dsimp only at hr)
   (try cbv)
   refine Z2 hr ?_ ?_ <;> intro h1 hr
   ·(try cbv)
    refine Z3 hr fun hr => ?_
    apply Hidden.out
    refine Z9 hr ?_ ?_ <;> intro h1 hr
    ·constructor
     have h2 : (lock ieq (lock D.toI (lock D.fld (lock getD r3 (lock toN i134)) 1)) y32) = true := by simp only [lock_eq]; exact h1
     simp only [relock, h2]
     (try cbv)
     refine Z3 hr fun hr => ?_
     refine Z2 hr ?_ ?_ <;> intro h1 hr
     ·(try cbv)
      apply Hidden.out
      exact cl5a7c6
     (try cbv)
     apply Hidden.out
     exact clba30f
    constructor
    have h2 : (lock ieq (lock D.toI (lock D.fld (lock getD r3 (lock toN i134)) 1)) y32) = false := by simp only [lock_eq]; exact h1
    simp only [relock, h2]
    (try cbv)
    apply Hidden.out
    exact clba30f
   as_aux_lemma =>
   (try cbv)
   refine Z3 hr fun hr => ?_
   apply Hidden.out
   refine Z9 hr ?_ ?_ <;> intro h1 hr
   ·constructor
    have h2 : (lock band (lock ieq (lock D.toI (lock D.fld (lock getD r3 (lock toN (lock isub .u64 y31 (1 : Int)))) 0)) y31) (lock band (lock ieq (lock D.toI (lock D.fld (lock getD r3 (lock toN (lock isub .u64 y31 (1 : Int)))) 1)) y32) (lock band (lock ieq (lock D.toI (lock D.fld (lock getD r3 (lock toN (lock isub .u64 y31 (1 : Int)))) 2)) y33) true))) = true := by simp only [lock_eq]; exact h1
    simp only [relock, h2]
    (try cbv)
    refine Z3 hr fun hr => ?_
    refine Z2 hr ?_ ?_ <;> intro h1 hr
    ·(try cbv)
     apply Hidden.out
     exact cl5a7c6
    as_aux_lemma =>
    (try cbv)
    refine cal hr (by rintro (⟨_, _, _, _⟩) _ <;> cbv) ?_
    rintro ⟨m37, m38, q42, q43⟩ hx21 hr
    (try dsimp only at hr); constructor; (try cbv)
    apply Hidden.out
    obtain ⟨t, hr2, hw⟩ := Zr hr
    clear hr
    subst hw
    have e := (ht2 _ rfl).symm
    subst e
    have hr := hr2
    clear hr2
    constructor
    refine LoopOK.iter T (drawOK T hm) hr (fun | (i137, i138) => ⟨mkFr [(0, (.rsl (.row 33 (.st [.str, .bool, (.row 83 (.st [.str, (.int .u64), (.int .u64), (.int .u64), (.int .i64), .bool])), (.st [(.row 96 (.st [(.int .i64), (.int .i64), (.int .i64)])), (.int .i64)])]) r1))), (1, (.rsl (.row 58 (.st [(.int .i64), (.int .i64), (.int .i64), (.int .u64), (.int .u8)]) r2))), (7, (.ptr 0 0)), (8, (.wsl 1)), (9, (.wsl 2)), (10, (.v (.int .i64 i67))), (14, (.rsl (.row 72 (.row 75 (.st [(.int .u64), (.int .i64), (.int .i64)])) q42))), (15, (.v (.int .i64 i137))), (16, (.v (.int .i64 i138)))] 214 0, [(0, .blk 92 [(.str t4), (.v (.bool c9)), (.wsl 3), (.wsl 4), (.v (.int .i64 y34)), (.v (.int .u64 y35)), (.wsl 5), (.ptr 6 0)]), (1, .row (.row 75 (.st [(.int .u64), (.int .i64), (.int .i64)]) r3)), (2, .row (.ints 3 .i64 (lock setI l1 (lock toN y31) (lock iadd .i64 (lock getI l1 (lock toN y31)) (1 : Int))))), (3, .row (.row 83 (.st [.str, (.int .u64), (.int .u64), (.int .u64), (.int .i64), .bool]) q35)), (4, .row (.row 96 (.st [(.int .i64), (.int .i64), (.int .i64)]) q36)), (5, .prow 98 tm98 k5 7), (6, .blk 169 [(.wsl 8), (.v (.int .i64 y36)), (.v (.bool c10)), (.wsl 9)]), (7, .gho tm98 q43 none), (8, .row (.ints 46 .u64 m31)), (9, .row (.ints 46 .u64 m32))], 10⟩) ?_ ?_
    ·exact cl1df3b
    clear hr
    intro x bb2 hr ht2
    obtain ⟨i137, i138⟩ := x
    as_aux_lemma =>
    constructor
    unfold Z8a at hr
    (try dsimp only at hr)
    (try cbv)
    refine Z2 hr ?_ ?_ <;> intro h1 hr
    ·as_aux_lemma =>
     (try cbv)
     refine LoopOK.iter T (drawOK T hm) hr (fun | (i141, i142) => ⟨mkFr [(0, (.rsl (.row 33 (.st [.str, .bool, (.row 83 (.st [.str, (.int .u64), (.int .u64), (.int .u64), (.int .i64), .bool])), (.st [(.row 96 (.st [(.int .i64), (.int .i64), (.int .i64)])), (.int .i64)])]) r1))), (1, (.rsl (.row 58 (.st [(.int .i64), (.int .i64), (.int .i64), (.int .u64), (.int .u8)]) r2))), (7, (.ptr 0 0)), (8, (.wsl 1)), (9, (.wsl 2)), (10, (.v (.int .i64 i67))), (14, (.rsl (.row 72 (.row 75 (.st [(.int .u64), (.int .i64), (.int .i64)])) q42))), (15, (.v (.int .i64 i141))), (16, (.v (.int .i64 i138))), (17, (.v (.int .i64 i142)))] 214 0, [(0, .blk 92 [(.str t4), (.v (.bool c9)), (.wsl 3), (.wsl 4), (.v (.int .i64 y34)), (.v (.int .u64 y35)), (.wsl 5), (.ptr 6 0)]), (1, .row (.row 75 (.st [(.int .u64), (.int .i64), (.int .i64)]) r3)), (2, .row (.ints 3 .i64 (lock setI l1 (lock toN y31) (lock iadd .i64 (lock getI l1 (lock toN y31)) (1 : Int))))), (3, .row (.row 83 (.st [.str, (.int .u64), (.int .u64), (.int .u64), (.int .i64), .bool]) q35)), (4, .row (.row 96 (.st [(.int .i64), (.int .i64), (.int .i64)]) q36)), (5, .prow 98 tm98 k5 7), (6, .blk 169 [(.wsl 8), (.v (.int .i64 y36)), (.v (.bool c10)), (.wsl 9)]), (7, .gho tm98 q43 none), (8, .row (.ints 46 .u64 m31)), (9, .row (.ints 46 .u64 m32))], 10⟩) ?_ ?_
     ·exact cl1df3b
     clear hr
     intro x bb3 hr ht3
     obtain ⟨i141, i142⟩ := x
     as_aux_lemma =>
     constructor
     unfold Zft at hr
     (try dsimp only at hr)
     (try cbv)
     refine Z3 hr fun hr => ?_
     refine Z2 hr ?_ ?_ <;> intro h1 hr
     ·as_aux_lemma =>
      (try cbv)
      refine Z3 hr fun hr => ?_
      refine Z3 hr fun hr => ?_
      apply Hidden.out
      refine Z9 hr ?_ ?_ <;> intro h1 hr
      ·constructor
       have h2 : (lock ilt (lock D.toI (lock D.fld (lock getD (lock D.toL (lock getD q42 (lock toN i138))) (lock toN i142)) 0)) (1 : Int)) = true := by simp only [lock_eq]; exact h1
       simp only [relock, h2]
       (try cbv)
       apply Hidden.out
       exact cld39d7
      constructor
      have h2 : (lock ilt (lock D.toI (lock D.fld (lock getD (lock D.toL (lock getD q42 (lock toN i138))) (lock toN i142)) 0)) (1 : Int)) = false := by simp only [lock_eq]; exact h1
      simp only [relock, h2]
      (try cbv)
      apply Hidden.out
      refine Z9 hr ?_ ?_ <;> intro h1 hr
      ·constructor
       have h2 : (lock ilt (lock iconv .u64 (lock ofN (lock (@xlen D) r3))) (lock D.toI (lock D.fld (lock getD (lock D.toL (lock getD q42 (lock toN i138))) (lock toN i142)) 0))) = true := by simp only [lock_eq]; exact h1
       simp only [relock, h2]
       (try cbv)
       apply Hidden.out
       exact cld39d7
      constructor
      have h2 : (lock ilt (lock iconv .u64 (lock ofN (lock (@xlen D) r3))) (lock D.toI (lock D.fld (lock getD (lock D.toL (lock getD q42 (lock toN i138))) (lock toN i142)) 0))) = false := by simp only [lock_eq]; exact h1
      simp only [relock, h2]
      (try cbv)
      refine Z3 hr fun hr => ?_
      apply Hidden.out
      refine Z9 hr ?_ ?_ <;> intro h1 hr
      ·constructor
       have h2 : (lock band (lock ieq (lock D.toI (lock D.fld (lock getD r3 (lock toN (lock isub .u64 (lock D.toI (lock D.fld (lock getD (lock D.toL (lock getD q42 (lock toN i138))) (lock toN i142)) 0)) (1 : Int)))) 0)) (lock D.toI (lock D.fld (lock getD (lock D.toL (lock getD q42 (lock toN i138))) (lock toN i142)) 0))) (lock band (lock ieq (lock D.toI (lock D.fld (lock getD r3 (lock toN (lock isub .u64 (lock D.toI (lock D.fld (lock getD (lock D.toL (lock getD q42 (lock toN i138))) (lock toN i142)) 0)) (1 : Int)))) 1)) (lock D.toI (lock D.fld (lock getD (lock D.toL (lock getD q42 (lock toN i138))) (lock toN i142)) 1))) (lock band (lock ieq (lock D.toI (lock D.fld (lock getD r3 (lock toN (lock isub .u64 (lock D.toI (lock D.fld (lock getD (lock D.toL (lock getD q42 (lock toN i138))) (lock toN i142)) 0)) (1 : Int)))) 2)) (lock D.toI (lock D.fld (lock getD (lock D.toL (lock getD q42 (lock toN i138))) (lock toN i142)) 2))) true))) = true := by simp only [lock_eq]; exact h1
       simp only [relock, h2]
       (try cbv)
       refine Z3 hr fun hr => ?_
       apply Hidden.out
       refine Z9 hr ?_ ?_ <;> intro h1 hr
       ·constructor
        have h2 : (lock ilt (0 : Int) (lock getI (lock setI l1 (lock toN y31) (lock iadd .i64 (lock getI l1 (lock toN y31)) (1 : Int))) (lock toN (lock D.toI (lock D.fld (lock getD (lock D.toL (lock getD q42 (lock toN i138))) (lock toN i142)) 0))))) = true := by simp only [lock_eq]; exact h1
        simp only [relock, h2]
        (try cbv)
        apply Hidden.out
        exact cld39d7
       constructor
       have h2 : (lock ilt (0 : Int) (lock getI (lock setI l1 (lock toN y31) (lock iadd .i64 (lock getI l1 (lock toN y31)) (1 : Int))) (lock toN (lock D.toI (lock D.fld (lock getD (lock D.toL (lock getD q42 (lock toN i138))) (lock toN i142)) 0))))) = false := by simp only [lock_eq]; exact h1
       simp only [relock, h2]
       (try cbv)
       apply Hidden.out
       refine Z9 hr ?_ ?_ <;> intro h1 hr
       ·constructor
        have h2 : (lock ilt (0 : Int) i142) = true := by simp only [lock_eq]; exact h1
        simp only [relock, h2]
        (try cbv)
        refine Z3 hr fun hr => ?_
        refine Z3 hr fun hr => ?_
        refine Z2 hr ?_ ?_ <;> intro h1 hr
        ·(try cbv)
         apply Hidden.out
         exact cld39d7
        (try cbv)
        apply Hidden.out
        exact cl81169
       constructor
       have h2 : (lock ilt (0 : Int) i142) = false := by simp only [lock_eq]; exact h1
       simp only [relock, h2]
       (try cbv)
       apply Hidden.out
       exact cl81169
      constructor
      have h2 : (lock band (lock ieq (lock D.toI (lock D.fld (lock getD r3 (lock toN (lock isub .u64 (lock D.toI (lock D.fld (lock getD (lock D.toL (lock getD q42 (lock toN i138))) (lock toN i142)) 0)) (1 : Int)))) 0)) (lock D.toI (lock D.fld (lock getD (lock D.toL (lock getD q42 (lock toN i138))) (lock toN i142)) 0))) (lock band (lock ieq (lock D.toI (lock D.fld (lock getD r3 (lock toN (lock isub .u64 (lock D.toI (lock D.fld (lock getD (lock D.toL (lock getD q42 (lock toN i138))) (lock toN i142)) 0)) (1 : Int)))) 1)) (lock D.toI (lock D.fld (lock getD (lock D.toL (lock getD q42 (lock toN i138))) (lock toN i142)) 1))) (lock band (lock ieq (lock D.toI (lock D.fld (lock getD r3 (lock toN (lock isub .u64 (lock D.toI (lock D.fld (lock getD (lock D.toL (lock getD q42 (lock toN i138))) (lock toN i142)) 0)) (1 : Int)))) 2)) (lock D.toI (lock D.fld (lock getD (lock D.toL (lock getD q42 (lock toN i138))) (lock toN i142)) 2))) true))) = false := by simp only [lock_eq]; exact h1
      simp only [relock, h2]
      (try cbv)
      apply Hidden.out
      exact cld39d7
     (try cbv)
     apply Hidden.out
     exact cld532a
    (try cbv)
    apply Hidden.out
    obtain ⟨t, hr2, hw⟩ := Zr hr
    clear hr
    subst hw
    have e := (ht2 _ rfl).symm
    subst e
    have hr := hr2
    clear hr2
    constructor
    refine LoopOK.iter T (drawOK T hm) hr (fun | (i143, i144) => ⟨mkFr [(0, (.rsl (.row 33 (.st [.str, .bool, (.row 83 (.st [.str, (.int .u64), (.int .u64), (.int .u64), (.int .i64), .bool])), (.st [(.row 96 (.st [(.int .i64), (.int .i64), (.int .i64)])), (.int .i64)])]) r1))), (1, (.rsl (.row 58 (.st [(.int .i64), (.int .i64), (.int .i64), (.int .u64), (.int .u8)]) r2))), (7, (.ptr 0 0)), (8, (.wsl 1)), (9, (.wsl 2)), (10, (.v (.int .i64 i67))), (15, (.v (.int .i64 i143))), (19, (.v (.int .i64 i144)))] 214 0, [(0, .blk 92 [(.str t4), (.v (.bool c9)), (.wsl 3), (.wsl 4), (.v (.int .i64 y34)), (.v (.int .u64 y35)), (.wsl 5), (.ptr 6 0)]), (1, .row (.row 75 (.st [(.int .u64), (.int .i64), (.int .i64)]) r3)), (2, .row (.ints 3 .i64 (lock setI l1 (lock toN y31) (lock iadd .i64 (lock getI l1 (lock toN y31)) (1 : Int))))), (3, .row (.row 83 (.st [.str, (.int .u64), (.int .u64), (.int .u64), (.int .i64), .bool]) q35)), (4, .row (.row 96 (.st [(.int .i64), (.int .i64), (.int .i64)]) q36)), (5, .prow 98 tm98 k5 7), (6, .blk 169 [(.wsl 8), (.v (.int .i64 y36)), (.v (.bool c10)), (.wsl 9)]), (7, .gho tm98 q43 none), (8, .row (.ints 46 .u64 m31)), (9, .row (.ints 46 .u64 m32))], 10⟩) ?_ ?_
    ·exact cl1df3b
    clear hr
    intro x bb2 hr ht2
    obtain ⟨i143, i144⟩ := x
    as_aux_lemma =>
    constructor
    unfold Zfu at hr
    (try dsimp only at hr)
    (try cbv)
    refine Z2 hr ?_ ?_ <;> intro h1 hr
    ·(try cbv)
     refine Z3 hr fun hr => ?_
     apply Hidden.out
     exact cl81169
    (try cbv)
    refine Zd hr ?_ ?_ <;> intro h1 hr
    ·(try cbv)
     apply Hidden.out
     exact cl5a7c6
    (try cbv)
    apply Hidden.out
    exact cl2576e
   constructor
   have h2 : (lock band (lock ieq (lock D.toI (lock D.fld (lock getD r3 (lock toN (lock isub .u64 y31 (1 : Int)))) 0)) y31) (lock band (lock ieq (lock D.toI (lock D.fld (lock getD r3 (lock toN (lock isub .u64 y31 (1 : Int)))) 1)) y32) (lock band (lock ieq (lock D.toI (lock D.fld (lock getD r3 (lock toN (lock isub .u64 y31 (1 : Int)))) 2)) y33) true))) = false := by simp only [lock_eq]; exact h1
   simp only [relock, h2]
   (try cbv)
   apply Hidden.out
   exact cl5a7c6
  as_aux_lemma =>
  (try cbv)
  refine cal hr (by rintro (⟨_, _, _, _⟩) _ <;> cbv) ?_
  rintro ⟨m39, m40, q44, q45⟩ hx22 hr
  (try dsimp only at hr); constructor; (try cbv)
  refine LoopOK.iter T (drawOK T hm) hr (fun | (i147, i148) => ⟨mkFr [(0, (.rsl (.row 33 (.st [.str, .bool, (.row 83 (.st [.str, (.int .u64), (.int .u64), (.int .u64), (.int .i64), .bool])), (.st [(.row 96 (.st [(.int .i64), (.int .i64), (.int .i64)])), (.int .i64)])]) r1))), (1, (.rsl (.row 58 (.st [(.int .i64), (.int .i64), (.int .i64), (.int .u64), (.int .u8)]) r2))), (7, (.ptr 0 0)), (8, (.wsl 1)), (9, (.wsl 2)), (10, (.v (.int .i64 i67))), (14, (.rsl (.row 72 (.row 75 (.st [(.int .u64), (.int .i64), (.int .i64)])) q44))), (15, (.v (.int .i64 i147))), (16, (.v (.int .i64 i148)))] 214 0, [(0, .blk 92 [(.str t4), (.v (.bool c9)), (.wsl 3), (.wsl 4), (.v (.int .i64 y34)), (.v (.int .u64 y35)), (.wsl 5), (.ptr 6 0)]), (1, .row (.row 75 (.st [(.int .u64), (.int .i64), (.int .i64)]) r3)), (2, .row (.ints 3 .i64 l1)), (3, .row (.row 83 (.st [.str, (.int .u64), (.int .u64), (.int .u64), (.int .i64), .bool]) q35)), (4, .row (.row 96 (.st [(.int .i64), (.int .i64), (.int .i64)]) q36)), (5, .prow 98 tm98 k5 7), (6, .blk 169 [(.wsl 8), (.v (.int .i64 y36)), (.v (.bool c10)), (.wsl 9)]), (7, .gho tm98 q45 none), (8, .row (.ints 46 .u64 m31)), (9, .row (.ints 46 .u64 m32))], 10⟩) ?_ ?_
  ·exact cl1df3b
  clear hr
  intro x bb2 hr ht2
  obtain ⟨i147, i148⟩ := x
  as_aux_lemma =>
  constructor
  unfold Z2i at hr
  (try dsimp only at hr)
  (try cbv)
  refine Z2 hr ?_ ?_ <;> intro h1 hr
  ·as_aux_lemma =>
   (try cbv)
   refine LoopOK.iter T (drawOK T hm) hr (fun | (i151, i152) => ⟨mkFr [(0, (.rsl (.row 33 (.st [.str, .bool, (.row 83 (.st [.str, (.int .u64), (.int .u64), (.int .u64), (.int .i64), .bool])), (.st [(.row 96 (.st [(.int .i64), (.int .i64), (.int .i64)])), (.int .i64)])]) r1))), (1, (.rsl (.row 58 (.st [(.int .i64), (.int .i64), (.int .i64), (.int .u64), (.int .u8)]) r2))), (7, (.ptr 0 0)), (8, (.wsl 1)), (9, (.wsl 2)), (10, (.v (.int .i64 i67))), (14, (.rsl (.row 72 (.row 75 (.st [(.int .u64), (.int .i64), (.int .i64)])) q44))), (15, (.v (.int .i64 i151))), (16, (.v (.int .i64 i148))), (17, (.v (.int .i64 i152)))] 214 0, [(0, .blk 92 [(.str t4), (.v (.bool c9)), (.wsl 3), (.wsl 4), (.v (.int .i64 y34)), (.v (.int .u64 y35)), (.wsl 5), (.ptr 6 0)]), (1, .row (.row 75 (.st [(.int .u64), (.int .i64), (.int .i64)]) r3)), (2, .row (.ints 3 .i64 l1)), (3, .row (.row 83 (.st [.str, (.int .u64), (.int .u64), (.int .u64), (.int .i64), .bool]) q35)), (4, .row (.row 96 (.st [(.int .i64), (.int .i64), (.int .i64)]) q36)), (5, .prow 98 tm98 k5 7), (6, .blk 169 [(.wsl 8), (.v (.int .i64 y36)), (.v (.bool c10)), (.wsl 9)]), (7, .gho tm98 q45 none), (8, .row (.ints 46 .u64 m31)), (9, .row (.ints 46 .u64 m32))], 10⟩) ?_ ?_
   ·exact cl1df3b
   clear hr
   intro x bb3 hr ht3
   obtain ⟨i151, i152⟩ := x
   as_aux_lemma =>
   constructor
   unfold Z4n at hr
   (try dsimp only at hr)
   (try cbv)
   refine Z3 hr fun hr => ?_
   refine Z2 hr ?_ ?_ <;> intro h1 hr
   ·as_aux_lemma =>
    (try cbv)
    refine Z3 hr fun hr => ?_
    refine Z3 hr fun hr => ?_
    apply Hidden.out
    refine Z9 hr ?_ ?_ <;> intro h1 hr
    ·constructor
     have h2 : (lock ilt (lock D.toI (lock D.fld (lock getD (lock D.toL (lock getD q44 (lock toN i148))) (lock toN i152)) 0)) (1 : Int)) = true := by simp only [lock_eq]; exact h1
     simp only [relock, h2]
     (try cbv)
     apply Hidden.out
     exact cld39d7
    constructor
    have h2 : (lock ilt (lock D.toI (lock D.fld (lock getD (lock D.toL (lock getD q44 (lock toN i148))) (lock toN i152)) 0)) (1 : Int)) = false := by simp only [lock_eq]; exact h1
    simp only [relock, h2]
    (try cbv)
    apply Hidden.out
    refine Z9 hr ?_ ?_ <;> intro h1 hr
    ·constructor
     have h2 : (lock ilt (lock iconv .u64 (lock ofN (lock (@xlen D) r3))) (lock D.toI (lock D.fld (lock getD (lock D.toL (lock getD q44 (lock toN i148))) (lock toN i152)) 0))) = true := by simp only [lock_eq]; exact h1
     simp only [relock, h2]
     (try cbv)
     apply Hidden.out
     exact cld39d7
    constructor
    have h2 : (lock ilt (lock iconv .u64 (lock ofN (lock (@xlen D) r3))) (lock D.toI (lock D.fld (lock getD (lock D.toL (lock getD q44 (lock toN i148))) (lock toN i152)) 0))) = false := by simp only [lock_eq]; exact h1
    simp only [relock, h2]
    (try cbv)
    refine Z3 hr fun hr => ?_
    apply Hidden.out
    refine Z9 hr ?_ ?_ <;> intro h1 hr
    ·constructor
     have h2 : (lock band (lock ieq (lock D.toI (lock D.fld (lock getD r3 (lock toN (lock isub .u64 (lock D.toI (lock D.fld (lock getD (lock D.toL (lock getD q44 (lock toN i148))) (lock toN i152)) 0)) (1 : Int)))) 0)) (lock D.toI (lock D.fld (lock getD (lock D.toL (lock getD q44 (lock toN i148))) (lock toN i152)) 0))) (lock band (lock ieq (lock D.toI (lock D.fld (lock getD r3 (lock toN (lock isub .u64 (lock D.toI (lock D.fld (lock getD (lock D.toL (lock getD q44 (lock toN i148))) (lock toN i152)) 0)) (1 : Int)))) 1)) (lock D.toI (lock D.fld (lock getD (lock D.toL (lock getD q44 (lock toN i148))) (lock toN i152)) 1))) (lock band (lock ieq (lock D.toI (lock D.fld (lock getD r3 (lock toN (lock isub .u64 (lock D.toI (lock D.fld (lock getD (lock D.toL (lock getD q44 (lock toN i148))) (lock toN i152)) 0)) (1 : Int)))) 2)) (lock D.toI (lock D.fld (lock getD (lock D.toL (lock getD q44 (lock toN i148))) (lock toN i152)) 2))) true))) = true := by simp only [lock_eq]; exact h1
     simp only [relock, h2]
     (try cbv)
     refine Z3 hr fun hr => ?_
     apply Hidden.out
     refine Z9 hr ?_ ?_ <;> intro h1 hr
     ·constructor
      have h2 : (lock ilt (0 : Int) (lock getI l1 (lock toN (lock D.toI (lock D.fld (lock getD (lock D.toL (lock getD q44 (lock toN i148))) (lock toN i152)) 0))))) = true := by simp only [lock_eq]; exact h1
      simp only [relock, h2]
      (try cbv)
      apply Hidden.out
      exact cld39d7
     constructor
     have h2 : (lock ilt (0 : Int) (lock getI l1 (lock toN (lock D.toI (lock D.fld (lock getD (lock D.toL (lock getD q44 (lock toN i148))) (lock toN i152)) 0))))) = false := by simp only [lock_eq]; exact h1
     simp only [relock, h2]
     (try cbv)
     apply Hidden.out
     refine Z9 hr ?_ ?_ <;> intro h1 hr
     ·constructor
      have h2 : (lock ilt (0 : Int) i152) = true := by simp only [lock_eq]; exact h1
      simp only [relock, h2]
      (try cbv)
      refine Z3 hr fun hr => ?_
      refine Z3 hr fun hr => ?_
      refine Z2 hr ?_ ?_ <;> intro h1 hr
      ·(try cbv)
       apply Hidden.out
       exact cld39d7
      (try cbv)
      apply Hidden.out
      exact cl81169
     constructor
     have h2 : (lock ilt (0 : Int) i152) = false := by simp only [lock_eq]; exact h1
     simp only [relock, h2]
     (try cbv)
     apply Hidden.out
     exact cl81169
    constructor
    have h2 : (lock band (lock ieq (lock D.toI (lock D.fld (lock getD r3 (lock toN (lock isub .u64 (lock D.toI (lock D.fld (lock getD (lock D.toL (lock getD q44 (lock toN i148))) (lock toN i152)) 0)) (1 : Int)))) 0)) (lock D.toI (lock D.fld (lock getD (lock D.toL (lock getD q44 (lock toN i148))) (lock toN i152)) 0))) (lock band (lock ieq (lock D.toI (lock D.fld (lock getD r3 (lock toN (lock isub .u64 (lock D.toI (lock D.fld (lock getD (lock D.toL (lock getD q44 (lock toN i148))) (lock toN i152)) 0)) (1 : Int)))) 1)) (lock D.toI (lock D.fld (lock getD (lock D.toL (lock getD q44 (lock toN i148))) (lock toN i152)) 1))) (lock band (lock ieq (lock D.toI (lock D.fld (lock getD r3 (lock toN (lock isub .u64 (lock D.toI (lock D.fld (lock getD (lock D.toL (lock getD q44 (lock toN i148))) (lock toN i152)) 0)) (1 : Int)))) 2)) (lock D.toI (lock D.fld (lock getD (lock D.toL (lock getD q44 (lock toN i148))) (lock toN i152)) 2))) true))) = false := by simp only [lock_eq]; exact h1
    simp only [relock, h2]
    (try cbv)
    apply Hidden.out
    exact cld39d7
   (try cbv)
   apply Hidden.out
   exact cld532a
  (try cbv)
  apply Hidden.out
  obtain ⟨t, hr2, hw⟩ := Zr hr
  clear hr
  subst hw
  have e := (ht2 _ rfl).symm
  subst e
  have hr := hr2
  clear hr2
  constructor
  refine LoopOK.iter T (drawOK T hm) hr (fun | (i153, i154) => ⟨mkFr [(0, (.rsl (.row 33 (.st [.str, .bool, (.row 83 (.st [.str, (.int .u64), (.int .u64), (.int .u64), (.int .i64), .bool])), (.st [(.row 96 (.st [(.int .i64), (.int .i64), (.int .i64)])), (.int .i64)])]) r1))), (1, (.rsl (.row 58 (.st [(.int .i64), (.int .i64), (.int .i64), (.int .u64), (.int .u8)]) r2))), (7, (.ptr 0 0)), (8, (.wsl 1)), (9, (.wsl 2)), (10, (.v (.int .i64 i67))), (15, (.v (.int .i64 i153))), (19, (.v (.int .i64 i154)))] 214 0, [(0, .blk 92 [(.str t4), (.v (.bool c9)), (.wsl 3), (.wsl 4), (.v (.int .i64 y34)), (.v (.int .u64 y35)), (.wsl 5), (.ptr 6 0)]), (1, .row (.row 75 (.st [(.int .u64), (.int .i64), (.int .i64)]) r3)), (2, .row (.ints 3 .i64 l1)), (3, .row (.row 83 (.st [.str, (.int .u64), (.int .u64), (.int .u64), (.int .i64), .bool]) q35)), (4, .row (.row 96 (.st [(.int .i64), (.int .i64), (.int .i64)]) q36)), (5, .prow 98 tm98 k5 7), (6, .blk 169 [(.wsl 8), (.v (.int .i64 y36)), (.v (.bool c10)), (.wsl 9)]), (7, .gho tm98 q45 none), (8, .row (.ints 46 .u64 m31)), (9, .row (.ints 46 .u64 m32))], 10⟩) ?_ ?_
  ·exact cl1df3b
  clear hr
  intro x bb2 hr ht2
  obtain ⟨i153, i154⟩ := x
  as_aux_lemma =>
  constructor
  unfold Z4o at hr
  (try dsimp only at hr)
  (try cbv)
  refine Z2 hr ?_ ?_ <;> intro h1 hr
  ·(try cbv)
   refine Z3 hr fun hr => ?_
   apply Hidden.out
   exact cl81169
  (try cbv)
  refine Zd hr ?_ ?_ <;> intro h1 hr
  ·(try cbv)
   apply Hidden.out
   exact cl5a7c6
  (try cbv)
  apply Hidden.out
  exact cl2576e
 (try cbv)
 apply Hidden.out
 exact clb5cb2
theorem mixed : Try.prog.follows .mixedOrders = true := by kernel_rfl
theorem Zmw : Tab Try.prog Zen := Tab.nil _
theorem Zsv : FnOK Try.prog 32 Za9 := FnOK.of Zmw mixed Try.func32 Zpt (Zxo _ Zmw mixed)
theorem Zmv : Tab Try.prog Zem := Tab.cons (Tab.nil _) Zsv Try.func32 rfl rfl
theorem Zcv : FnOK Try.prog 13 Z5q := FnOK.of Zmv mixed Try.func13 Zpi (Zxn _ Zmv mixed)
theorem Zna : Tab Try.prog Zf1 := Tab.nil _
theorem Zt0 : FnOK Try.prog 78 Zb0 := FnOK.of Zna mixed Try.func78 Zql (Zy2 _ Zna mixed)
theorem Znb : Tab Try.prog Zf2 := Tab.nil _
theorem Zt1 : FnOK Try.prog 79 Zb2 := FnOK.of Znb mixed Try.func79 Zqm (Zy3 _ Znb mixed)
theorem Zn8 : Tab Try.prog Zez := Tab.cons (Tab.cons (Tab.nil _) Zt1 Try.func79 rfl rfl) Zt0 Try.func78 rfl rfl
theorem Zk3 : FnOK Try.prog 50 Z75 := FnOK.of Zn8 mixed Try.func50 Zq2 (Zy0 _ Zn8 mixed)
theorem Zm4 : Tab Try.prog Zdv := Tab.nil _
theorem Zsd : FnOK Try.prog 60 Z8u := FnOK.of Zm4 mixed Try.func60 Zqc (Zww _ Zm4 mixed)
theorem Zmd : Tab Try.prog Ze4 := Tab.nil _
theorem Zsl : FnOK Try.prog 61 Z9e := FnOK.of Zmd mixed Try.func61 Zqd (Zx5 _ Zmd mixed)
theorem Zn9 : Tab Try.prog Zf0 := Tab.nil _
theorem Zsz : FnOK Try.prog 89 Zaz := FnOK.of Zn9 mixed Try.func89 Zqx (Zy1 _ Zn9 mixed)
theorem Zm5 : Tab Try.prog Zdw := Tab.cons (Tab.nil _) Zsz Try.func89 rfl rfl
theorem Zse : FnOK Try.prog 62 Z8w := FnOK.of Zm5 mixed Try.func62 Zqe (Zwx _ Zm5 mixed)
theorem Zn5 : Tab Try.prog Zew := Tab.cons (Tab.cons (Tab.cons (Tab.cons (Tab.nil _) Zse Try.func62 rfl rfl) Zsl Try.func61 rfl rfl) Zsd Try.func60 rfl rfl) Zk3 Try.func50 rfl rfl
theorem Zk1 : FnOK Try.prog 31 Z73 := FnOK.of Zn5 mixed Try.func31 Zps (Zxx _ Zn5 mixed)
theorem Zmu : Tab Try.prog Zel := Tab.cons (Tab.cons (Tab.nil _) Zk1 Try.func31 rfl rfl) Zcv Try.func13 rfl rfl
theorem Zjv : FnOK Try.prog 10 Z6x := FnOK.of Zmu mixed Try.func10 Zpg (Zxm _ Zmu mixed)
theorem Zmn : Tab Try.prog Zee := Tab.nil _
theorem Zsq : FnOK Try.prog 81 Z9t := FnOK.of Zmn mixed Try.func81 Zqp (Zxf _ Zmn mixed)
theorem Znh : Tab Try.prog Zf8 := Tab.cons (Tab.nil _) Zsq Try.func81 rfl rfl
theorem Zt8 : FnOK Try.prog 80 Zbi := FnOK.of Znh mixed Try.func80 Zqo (Zy9 _ Znh mixed)
theorem Zmo : Tab Try.prog Zef := Tab.cons (Tab.nil _) Zt8 Try.func80 rfl rfl
theorem Zjt : FnOK Try.prog 51 Z6v := FnOK.of Zmo mixed Try.func51 Zq3 (Zxg _ Zmo mixed)
theorem Zml : Tab Try.prog Zec := Tab.nil _
theorem Zsp : FnOK Try.prog 91 Z9q := FnOK.of Zml mixed Try.func91 Zr0 (Zxd _ Zml mixed)
theorem Zmk : Tab Try.prog Zeb := Tab.nil _
theorem Zcu : FnOK Try.prog 85 Z5p := FnOK.of Zmk mixed Try.func85 Zqt (Zxc _ Zmk mixed)
theorem Zmm : Tab Try.prog Zed := Tab.cons (Tab.cons (Tab.nil _) Zcu Try.func85 rfl rfl) Zsp Try.func91 rfl rfl
theorem Zjs : FnOK Try.prog 67 Z6u := FnOK.of Zmm mixed Try.func67 Zqj (Zxe _ Zmm mixed)
theorem Zmj : Tab Try.prog Zea := Tab.cons (Tab.nil _) Zjs Try.func67 rfl rfl
theorem Zso : FnOK Try.prog 52 Z9n := FnOK.of Zmj mixed Try.func52 Zq4 (Zxb _ Zmj mixed)
theorem Zmy : Tab Try.prog Zep := Tab.cons (Tab.cons (Tab.nil _) Zso Try.func52 rfl rfl) Zjt Try.func51 rfl rfl
theorem Zjx : FnOK Try.prog 26 Z6z := FnOK.of Zmy mixed Try.func26 Zpo (Zxq _ Zmy mixed)
theorem Zmg : Tab Try.prog Ze7 := Tab.nil _
theorem Zct : FnOK Try.prog 33 Z5o := FnOK.of Zmg mixed Try.func33 Zpu (Zx8 _ Zmg mixed)
theorem Zmf : Tab Try.prog Ze6 := Tab.cons (Tab.nil _) Zct Try.func33 rfl rfl
theorem Zjq : FnOK Try.prog 83 Z6s := FnOK.of Zmf mixed Try.func83 Zqr (Zx7 _ Zmf mixed)
theorem Zn7 : Tab Try.prog Zey := Tab.cons (Tab.nil _) Zjq Try.func83 rfl rfl
theorem Zsy : FnOK Try.prog 54 Zau := FnOK.of Zn7 mixed Try.func54 Zq6 (Zxz _ Zn7 mixed)
theorem Zm9 : Tab Try.prog Ze0 := Tab.nil _
theorem Zsi : FnOK Try.prog 99 Z95 := FnOK.of Zm9 mixed Try.func99 Zr3 (Zx1 _ Zm9 mixed)
theorem Zmr : Tab Try.prog Zei := Tab.nil _
theorem Zju : FnOK Try.prog 97 Z6w := FnOK.of Zmr mixed Try.func97 Zr1 (Zxj _ Zmr mixed)
theorem Zma : Tab Try.prog Ze1 := Tab.cons (Tab.cons (Tab.nil _) Zju Try.func97 rfl rfl) Zsi Try.func99 rfl rfl
theorem Zsj : FnOK Try.prog 84 Z97 := FnOK.of Zma mixed Try.func84 Zqs (Zx2 _ Zma mixed)
theorem Zm6 : Tab Try.prog Zdx := Tab.cons (Tab.nil _) Zsj Try.func84 rfl rfl
theorem Zsf : FnOK Try.prog 55 Z8y := FnOK.of Zm6 mixed Try.func55 Zq7 (Zwy _ Zm6 mixed)
theorem Zmi : Tab Try.prog Ze9 := Tab.cons (Tab.cons (Tab.nil _) Zcu Try.func85 rfl rfl) Zjq Try.func83 rfl rfl
theorem Zsn : FnOK Try.prog 56 Z9l := FnOK.of Zmi mixed Try.func56 Zq8 (Zxa _ Zmi mixed)
theorem Zm1 : Tab Try.prog Zds := Tab.nil _
theorem Zsa : FnOK Try.prog 57 Z8o := FnOK.of Zm1 mixed Try.func57 Zq9 (Zwt _ Zm1 mixed)
theorem Zn0 : Tab Try.prog Zer := Tab.cons (Tab.cons (Tab.cons (Tab.cons (Tab.nil _) Zsa Try.func57 rfl rfl) Zsn Try.func56 rfl rfl) Zsf Try.func55 rfl rfl) Zsy Try.func54 rfl rfl
theorem Zjy : FnOK Try.prog 29 Z70 := FnOK.of Zn0 mixed Try.func29 Zpq (Zxs _ Zn0 mixed)
theorem Zmt : Tab Try.prog Zek := Tab.nil _
theorem Zsu : FnOK Try.prog 98 Za5 := FnOK.of Zmt mixed Try.func98 Zr2 (Zxl _ Zmt mixed)
theorem Zms : Tab Try.prog Zej := Tab.cons (Tab.cons (Tab.nil _) Zju Try.func97 rfl rfl) Zsu Try.func98 rfl rfl
theorem Zst : FnOK Try.prog 82 Za3 := FnOK.of Zms mixed Try.func82 Zqq (Zxk _ Zms mixed)
theorem Zm2 : Tab Try.prog Zdt := Tab.cons (Tab.nil _) Zst Try.func82 rfl rfl
theorem Zsb : FnOK Try.prog 53 Z8q := FnOK.of Zm2 mixed Try.func53 Zq5 (Zwu _ Zm2 mixed)
theorem Zn4 : Tab Try.prog Zev := Tab.cons (Tab.nil _) Zsb Try.func53 rfl rfl
theorem Zk0 : FnOK Try.prog 28 Z72 := FnOK.of Zn4 mixed Try.func28 Zpp (Zxw _ Zn4 mixed)
theorem Zmz : Tab Try.prog Zeq := Tab.cons (Tab.nil _) Zct Try.func33 rfl rfl
theorem Zsw : FnOK Try.prog 14 Zah := FnOK.of Zmz mixed Try.func14 Zpj (Zxr _ Zmz mixed)
theorem Zmb : Tab Try.prog Ze2 := Tab.nil _
theorem Zjp : FnOK Try.prog 77 Z6r := FnOK.of Zmb mixed Try.func77 Zqk (Zx3 _ Zmb mixed)
theorem Zm8 : Tab Try.prog Zdz := Tab.cons (Tab.nil _) Zjp Try.func77 rfl rfl
theorem Zsh : FnOK Try.prog 48 Z93 := FnOK.of Zm8 mixed Try.func48 Zq1 (Zx0 _ Zm8 mixed)
theorem Zme : Tab Try.prog Ze5 := Tab.cons (Tab.cons (Tab.nil _) Zcu Try.func85 rfl rfl) Zct Try.func33 rfl rfl
theorem Zsm : FnOK Try.prog 66 Z9g := FnOK.of Zme mixed Try.func66 Zqi (Zx6 _ Zme mixed)
theorem Zn6 : Tab Try.prog Zex := Tab.cons (Tab.nil _) Zsm Try.func66 rfl rfl
theorem Zk2 : FnOK Try.prog 36 Z74 := FnOK.of Zn6 mixed Try.func36 Zpx (Zxy _ Zn6 mixed)
theorem Zn3 : Tab Try.prog Zeu := Tab.cons (Tab.cons (Tab.nil _) Zk2 Try.func36 rfl rfl) Zsh Try.func48 rfl rfl
theorem Zcw : FnOK Try.prog 21 Z5r := FnOK.of Zn3 mixed Try.func21 Zpl (Zxv _ Zn3 mixed)
theorem Zne : Tab Try.prog Zf5 := Tab.nil _
theorem Zt4 : FnOK Try.prog 63 Zba := FnOK.of Zne mixed Try.func63 Zqf (Zy6 _ Zne mixed)
theorem Znf : Tab Try.prog Zf6 := Tab.nil _
theorem Zt5 : FnOK Try.prog 64 Zbc := FnOK.of Znf mixed Try.func64 Zqg (Zy7 _ Znf mixed)
theorem Zmq : Tab Try.prog Zeh := Tab.cons (Tab.cons (Tab.nil _) Zt5 Try.func64 rfl rfl) Zt4 Try.func63 rfl rfl
theorem Zss : FnOK Try.prog 34 Z9z := FnOK.of Zmq mixed Try.func34 Zpv (Zxi _ Zmq mixed)
theorem Znc : Tab Try.prog Zf3 := Tab.cons (Tab.nil _) Zt6 Try.func101 rfl rfl
theorem Zt2 : FnOK Try.prog 90 Zb5 := FnOK.of Znc mixed Try.func90 Zqz (Zy4 _ Znc mixed)
theorem Zmc : Tab Try.prog Ze3 := Tab.cons (Tab.nil _) Zt2 Try.func90 rfl rfl
theorem Zsk : FnOK Try.prog 65 Z9c := FnOK.of Zmc mixed Try.func65 Zqh (Zx4 _ Zmc mixed)
theorem Zmp : Tab Try.prog Zeg := Tab.cons (Tab.cons (Tab.nil _) Zsk Try.func65 rfl rfl) Zjt Try.func51 rfl rfl
theorem Zsr : FnOK Try.prog 35 Z9x := FnOK.of Zmp mixed Try.func35 Zpw (Zxh _ Zmp mixed)
theorem Zm3 : Tab Try.prog Zdu := Tab.nil _
theorem Zsc : FnOK Try.prog 37 Z8s := FnOK.of Zm3 mixed Try.func37 Zpy (Zwv _ Zm3 mixed)
theorem Zmh : Tab Try.prog Ze8 := Tab.cons (Tab.nil _) Zjs Try.func67 rfl rfl
theorem Zjr : FnOK Try.prog 38 Z6t := FnOK.of Zmh mixed Try.func38 Zpz (Zx9 _ Zmh mixed)
theorem Zmx : Tab Try.prog Zeo := Tab.cons (Tab.cons (Tab.cons (Tab.cons (Tab.cons (Tab.cons (Tab.cons (Tab.nil _) Zjr Try.func38 rfl rfl) Zsc Try.func37 rfl rfl) Zk1 Try.func31 rfl rfl) Zsr Try.func35 rfl rfl) Zk2 Try.func36 rfl rfl) Zss Try.func34 rfl rfl) Zcv Try.func13 rfl rfl
theorem Zjw : FnOK Try.prog 15 Z6y := FnOK.of Zmx mixed Try.func15 Zpk (Zxp _ Zmx mixed)
theorem Zn1 : Tab Try.prog Zes := Tab.cons (Tab.nil _) Zk3 Try.func50 rfl rfl
theorem Zsx : FnOK Try.prog 24 Zak := FnOK.of Zn1 mixed Try.func24 Zpm (Zxt _ Zn1 mixed)
theorem Znk : Tab Try.prog Zfb := Tab.nil _
theorem Ztb : FnOK Try.prog 88 Zbq := FnOK.of Znk mixed Try.func88 Zqw (Zyc _ Znk mixed)
theorem Znj : Tab Try.prog Zfa := Tab.cons (Tab.nil _) Ztb Try.func88 rfl rfl
theorem Zta : FnOK Try.prog 87 Zbl := FnOK.of Znj mixed Try.func87 Zqv (Zyb _ Znj mixed)
theorem Zng : Tab Try.prog Zf7 := Tab.cons (Tab.nil _) Zta Try.func87 rfl rfl
theorem Zt7 : FnOK Try.prog 100 Zbf := FnOK.of Zng mixed Try.func100 Zph (Zy8 _ Zng mixed)
theorem Znd : Tab Try.prog Zf4 := Tab.cons (Tab.nil _) Zt7 Try.func100 rfl rfl
theorem Zt3 : FnOK Try.prog 86 Zb7 := FnOK.of Znd mixed Try.func86 Zqu (Zy5 _ Znd mixed)
theorem Zni : Tab Try.prog Zf9 := Tab.cons (Tab.nil _) Zt3 Try.func86 rfl rfl
theorem Zt9 : FnOK Try.prog 58 Zbk := FnOK.of Zni mixed Try.func58 Zqa (Zya _ Zni mixed)
theorem Zm7 : Tab Try.prog Zdy := Tab.cons (Tab.nil _) Zjp Try.func77 rfl rfl
theorem Zsg : FnOK Try.prog 59 Z90 := FnOK.of Zm7 mixed Try.func59 Zqb (Zwz _ Zm7 mixed)
theorem Zn2 : Tab Try.prog Zet := Tab.cons (Tab.cons (Tab.cons (Tab.nil _) Zjr Try.func38 rfl rfl) Zsg Try.func59 rfl rfl) Zt9 Try.func58 rfl rfl
theorem Zjz : FnOK Try.prog 30 Z71 := FnOK.of Zn2 mixed Try.func30 Zpr (Zxu _ Zn2 mixed)
theorem Znm : Tab Try.prog Zfd := Tab.cons (Tab.cons (Tab.cons (Tab.cons (Tab.cons (Tab.cons (Tab.cons (Tab.cons (Tab.cons (Tab.cons (Tab.nil _) Zjz Try.func30 rfl rfl) Zcv Try.func13 rfl rfl) Zsx Try.func24 rfl rfl) Zjw Try.func15 rfl rfl) Zcw Try.func21 rfl rfl) Zsw Try.func14 rfl rfl) Zk0 Try.func28 rfl rfl) Zjy Try.func29 rfl rfl) Zjx Try.func26 rfl rfl) Zjv Try.func10 rfl rfl
theorem Ztd : FnOK Try.prog 8 Zbu := FnOK.of Znm mixed Try.func8 Zqn (Zye _ Znm mixed)
theorem Zno : Tab Try.prog Zff := Tab.nil _
theorem Ztf : FnOK Try.prog 9 Zby := FnOK.of Zno mixed Try.func9 Zqy (Zyg _ Zno mixed)
theorem Znn : Tab Try.prog Zfe := Tab.cons (Tab.cons (Tab.cons (Tab.cons (Tab.cons (Tab.cons (Tab.nil _) Zjz Try.func30 rfl rfl) Zcw Try.func21 rfl rfl) Zjw Try.func15 rfl rfl) Zjy Try.func29 rfl rfl) Zk0 Try.func28 rfl rfl) Zjx Try.func26 rfl rfl
theorem Zte : FnOK Try.prog 25 Zbw := FnOK.of Znn mixed Try.func25 Zpn (Zyf _ Znn mixed)
theorem Znl : Tab Try.prog Zfc := Tab.cons (Tab.cons (Tab.cons (Tab.cons (Tab.cons (Tab.nil _) Zcw Try.func21 rfl rfl) Zte Try.func25 rfl rfl) Zjv Try.func10 rfl rfl) Ztf Try.func9 rfl rfl) Ztd Try.func8 rfl rfl
theorem Ztc : FnOK Try.prog 4 Zgo := FnOK.of Znl mixed Try.func4 Zq0 (Zyd _ Znl mixed)
end Go.Proofs.Ytojbpjcfdjakkaa
end
section
set_option linter.unusedVariables false
set_option linter.unusedSimpArgs false
namespace Go.Proofs.Ytojbpjcfdjakkaa
open Go.RowKit Go.ChangeShapes Go.WideShapes Go.Deep
mutual
def Ty.rng : Ty → D → Prop
 | .int k, d => (Lit.int k d.toI).wf = true
 | .bool, _ => True
 | .str, d => d.toS.length ≤ maxLen
 | .bytes _, d => d.toS.length ≤ maxLen
 | .ints _ k, d => d.toIs.length ≤ maxLen ∧ ∀ x ∈ d.toIs, (Lit.int k x).wf = true
 | .row _ e, d => d.toL.length ≤ maxLen ∧ ∀ x ∈ d.toL, e.rng x
 | .st fs, d => Ty.rngL fs d 0
 | .self _, _ => True
 | .u8s _, _ => True
def Ty.rngL : List Ty → D → Nat → Prop
 | [], _, _ => True
 | t :: ts, d, j => t.rng (d.fld j) ∧ Ty.rngL ts d (j + 1)
end
mutual
def tyChk (P : Program) : Ty → TypeId → Bool
 | .int k, t => match P.underlying t with | some (.int j) => j == k | _ => false
 | .bool, t => match P.underlying t with | some .bool => true | _ => false
 | .str, t => match P.underlying t with | some .string => true | _ => false
 | .bytes T, t => match P.underlying t, P.underlying T with | some (.slice e), some (.int .u8) => Nat.beq e T && Nat.beq (P.cellsOf T) 1 | _, _ => false
 | .ints T k, t => match P.underlying t, P.underlying T with | some (.slice e), some (.int j) => Nat.beq e T && Nat.beq (P.cellsOf T) 1 && j == k | _, _ => false
 | .row T e, t => match P.underlying t with | some (.slice e') => Nat.beq e' T && Nat.beq (P.cellsOf T) e.size && Nat.ble 1 e.size && tyChk P e T | _ => false
 | .st es, t => match P.underlying t with | some (.struct fl) => Nat.beq (P.cellsOf t) (Ty.sizes es) && tysChk P es fl.toList 0 | _ => false
 | .self _, _ => false
 | .u8s _, _ => false
def tysChk (P : Program) : List Ty → List Field → Nat → Bool
 | [], [], _ => true
 | e :: es, f :: fl, o => Nat.beq f.offset o && Nat.beq (P.cellsOf f.type) e.size && tyChk P e f.type && tysChk P es fl (o + e.size)
 | _, _, _ => false
end
section
variable {H : Type} {enc : TypeId × Value → H} {P : Program} {w : World} {base : Nat} {spare : Nat → Bool} {held : Bool}
def PN : Nat → Option Pl := fun _ => none
def AN : Nat → Prop := fun _ => False
theorem Zcx {r : R} {a : Addr} {len cap : Nat} (hr : rlen r = len) (hl : len ≤ cap) (hsz : 0 < r.sz) (hrow : ∀ i, i < len → ∃ cs, cs.length = r.sz ∧ (∀ j, j < r.sz → w.cell? (a.add (i * r.sz + j)) = cs[j]?) ∧ Dens PN w AN (r.elem i) cs) :
  Den PN w AN (.rsl r) (.slice (some a) len cap) := by
 subst hr
 have : ∀ i, ∃ cs : List Value, i < rlen r → cs.length = r.sz ∧ (∀ j, j < r.sz → w.cell? (a.add (i * r.sz + j)) = cs[j]?) ∧ Dens PN w AN (r.elem i) cs := fun i => by
  by_cases h : i < rlen r
  ·obtain ⟨cs, h⟩ := hrow i h; exact ⟨cs, fun _ => h⟩
  exact ⟨[], fun h' => absurd h' h⟩
 obtain ⟨f, hf⟩ := Classical.axiomOfChoice this
 refine .rsl r (some a) cap (fun i j => ((f i)[j]?).getD undef) hl ?_ ?_ ?_
 ·intro h0
  obtain ⟨h1, h2, h3⟩ := hf 0 h0
  have hc := h2 0 hsz
  rw [Nat.zero_mul, Nat.zero_add, List.getElem?_eq_getElem (by omega)] at hc
  refine ⟨a, rfl, ?_, fun h => h⟩
  have := World.block_lt_of_cell? w _ hc
  rwa [Z5m] at this
 ·intro i j ad e hi hj
  injection e with e; subst e
  obtain ⟨h1, h2, h3⟩ := hf i hi
  have hjl : j < (f i).length := by omega
  rw [Z1i, h2 j hj, List.getElem?_eq_getElem hjl]
  have hle : (r.elem i).length = (f i).length := h3.1.symm
  exact ⟨rfl, by simpa using (h3.2 j (by omega) hjl).2⟩
 intro i j hi hj
 obtain ⟨h1, h2, h3⟩ := hf i hi
 have hjl : j < (f i).length := by rw [h3.1]; exact hj
 have := (h3.2 j hj hjl).1
 simpa [List.getElem?_eq_getElem hjl] using this
theorem den1 {v : SV} {c : Value} (h : Den PN w AN v c) (h1 : c.oneCell' = true) : Dens PN w AN [v] [c] := Dens.cons h h1 Dens.nil
theorem Zth {t T : TypeId} (hu : P.underlying t = some (.slice T)) (he : P.underlying T = some (.int .u8)) (hc : P.cellsOf T = 1) {fuel : Nat} {cs : List Value} {x : DataW H × List MemPlace} (h : DataW.trod enc P w base spare held fuel t cs = some x) :
  ∃ l : List UInt8, l.length ≤ maxLen ∧ Dens PN w AN [.rsl (.bs T l)] cs := by
 rcases open_slice1 hu hc h with ⟨rfl, _⟩ | ⟨a, len, cap, m, n, V, D, Pl, rfl, hb, hl, hm, hmm, _, hi⟩
 ·exact ⟨[], by simp, den1 (Z1j rfl .nsl) rfl⟩
 have hle : len ≤ m := by rw [hmm]; split <;> omega
 have each : ∀ i, ∃ b : UInt8, i < len → w.cell? (a.add i) = some (.int .u8 b.toNat) := fun i => by
  by_cases h : i < len
  ·obtain ⟨h1, h2⟩ := hi i (by omega)
   obtain ⟨y, e1, _, e2⟩ := DataW.trod_int he h2
   injection e1 with e1 _
   have hy : 0 ≤ y ∧ y ≤ 255 := by simpa [Lit.wf, IntKind.min, IntKind.max, IntKind.signed, IntKind.bits, Int.lt_add_one_iff, Int.le_sub_one_iff] using e2
   refine ⟨UInt8.ofNat y.toNat, fun _ => ?_⟩
   rw [h1, e1]
   have : ((UInt8.ofNat y.toNat).toNat : Int) = y := by simp; omega
   rw [this]
  exact ⟨0, fun h' => absurd h' h⟩
 obtain ⟨f, hf⟩ := Classical.axiomOfChoice each
 refine ⟨(List.range len).map f, by simp; omega, den1 (Zcx (by simp [rlen]) hl (by show 0 < 1; omega) fun i hi => ⟨[.int .u8 (f i).toNat], rfl, ?_, ?_⟩) rfl⟩
 ·intro j hj
  have : j = 0 := by simp [R.sz] at hj; exact hj
  subst this
  simp only [R.sz, Nat.mul_one, Nat.add_zero]
  rw [hf i hi]
  rfl
 have : getB ((List.range len).map f) i = ((f i).toNat : Int) := by simp [getB, hi]
 simp only [R.elem, lock_eq, this]
 exact den1 (.v _) rfl
theorem Zti {t T : TypeId} {k : IntKind} (hu : P.underlying t = some (.slice T)) (he : P.underlying T = some (.int k)) (hc : P.cellsOf T = 1) {fuel : Nat} {cs : List Value} {x : DataW H × List MemPlace} (h : DataW.trod enc P w base spare held fuel t cs = some x) :
  ∃ l : List Int, l.length ≤ maxLen ∧ (∀ y ∈ l, (Lit.int k y).wf = true) ∧ Dens PN w AN [.rsl (.ints T k l)] cs := by
 rcases open_slice1 hu hc h with ⟨rfl, _⟩ | ⟨a, len, cap, m, n, V, D, Pl, rfl, hb, hl, hm, hmm, _, hi⟩
 ·exact ⟨[], by simp, by simp, den1 (Z1j rfl .nsl) rfl⟩
 have hle : len ≤ m := by rw [hmm]; split <;> omega
 have each : ∀ i, ∃ b : Int, i < len → w.cell? (a.add i) = some (.int k b) ∧ (Lit.int k b).wf = true := fun i => by
  by_cases h : i < len
  ·obtain ⟨h1, h2⟩ := hi i (by omega)
   obtain ⟨y, e1, _, e2⟩ := DataW.trod_int he h2
   injection e1 with e1 _
   exact ⟨y, fun _ => ⟨by rw [h1, e1], e2⟩⟩
  exact ⟨0, fun h' => absurd h' h⟩
 obtain ⟨f, hf⟩ := Classical.axiomOfChoice each
 refine ⟨(List.range len).map f, by simp; omega, ?_, den1 (Zcx (by simp [rlen]) hl (by show 0 < 1; omega) fun i hi => ⟨[.int k (f i)], rfl, ?_, ?_⟩) rfl⟩
 ·intro y hy
  obtain ⟨i, h1, rfl⟩ := List.mem_map.1 hy
  exact (hf i (List.mem_range.1 h1)).2
 ·intro j hj
  have : j = 0 := by simp [R.sz] at hj; exact hj
  subst this
  simp only [R.sz, Nat.mul_one, Nat.add_zero]
  rw [(hf i hi).1]
  rfl
 have : getI ((List.range len).map f) i = f i := by simp [getI, hi]
 simp only [R.elem, lock_eq, this]
 exact den1 (.v _) rfl
theorem Zr5 {a b : List SV} {c d : List Value} (h : Dens PN w AN a c) (k : Dens PN w AN b d) : Dens PN w AN (a ++ b) (c ++ d) := by
 refine ⟨by simp [h.1, k.1], fun j h1 h2 => ?_⟩
 by_cases hj : j < a.length
 ·have hc : j < c.length := by rw [h.1]; exact hj
  rw [List.getElem_append_left hj, List.getElem_append_left hc]
  exact h.2 j hj hc
 have hc : ¬ j < c.length := by rw [h.1]; exact hj
 rw [List.getElem_append_right (by omega), List.getElem_append_right (by omega)]
 have e := h.1
 have := k.2 (j - a.length) (by simp at h1; omega) (by simp at h2; omega)
 simpa [e] using this
theorem D.fld_l (l : List D) (j : Nat) : (D.l l).fld j = l.getD j (.i 0) := rfl
theorem Zk6 : ∀ (e : Ty) (t : TypeId) (fuel : Nat) (cs : List Value) (x : DataW H × List MemPlace), tyChk P e t = true → DataW.trod enc P w base spare held fuel t cs = some x → ∃ d : D, Dens PN w AN (e.leaves d) cs ∧ e.rng d := by
 intro e
 apply Ty.rec (motive_1 := fun e => ∀ (t : TypeId) (fuel : Nat) (cs : List Value) (x : DataW H × List MemPlace), tyChk P e t = true → DataW.trod enc P w base spare held fuel t cs = some x → ∃ d : D, Dens PN w AN (e.leaves d) cs ∧ e.rng d)
  (motive_2 := fun es => ∀ (fl : List Field) (o : Nat) (cs : List Value), tysChk P es fl o = true → (∀ f ∈ fl, ∃ fuel x, DataW.trod enc P w base spare held fuel f.type ((cs.drop f.offset).take (P.cellsOf f.type)) = some x) → cs.length = o + Ty.sizes es →
   ∃ ds : List D, ds.length = es.length ∧ ∀ d j, (∀ i, i < es.length → d.fld (j + i) = ds.getD i (.i 0)) → Dens PN w AN (Ty.leavesL es d j) (cs.drop o) ∧ Ty.rngL es d j)
 ·intro k t fuel cs x hc h
  simp only [tyChk] at hc
  split at hc
  ·rename_i j hu
   have := LawfulBEq.eq_of_beq hc
   subst this
   obtain ⟨y, rfl, _, e2⟩ := DataW.trod_int hu h
   refine ⟨.i y, ?_, e2⟩
   simp only [Ty.leaves, lock_eq]
   exact den1 (.v _) rfl
  cases hc
 ·intro t fuel cs x hc h
  simp only [tyChk] at hc
  split at hc
  ·rename_i hu
   obtain ⟨b, rfl, _⟩ := DataW.trod_bool hu h
   refine ⟨.b b, ?_, trivial⟩
   simp only [Ty.leaves, lock_eq]
   exact den1 (.v _) rfl
  cases hc
 ·intro t fuel cs x hc h
  simp only [tyChk] at hc
  split at hc
  ·rename_i hu
   obtain ⟨b, rfl, _, e2⟩ := DataW.trod_string hu h
   refine ⟨.s b.data.toList, ?_, by
    show b.data.toList.length ≤ maxLen
    have : b.data.toList.length = b.size := by rw [Array.length_toList]; rfl
    rw [this]; exact e2⟩
   simp only [Ty.leaves, lock_eq, D.toS]
   have := Den.str (PL := PN) (w := w) (Av := AN) b.data.toList
   simp at this
   exact den1 this rfl
  cases hc
 ·intro T t fuel cs x hc h
  simp only [tyChk] at hc
  split at hc
  ·rename_i e0 hu he
   simp only [Bool.and_eq_true] at hc
   have e1 := (nbeq _ _).1 hc.1
   have e2 := (nbeq _ _).1 hc.2
   subst e1
   obtain ⟨l, h1, h2⟩ := Zth hu he e2 h
   exact ⟨.s l, by simp only [Ty.leaves, lock_eq]; exact h2, h1⟩
  cases hc
 ·intro T k t fuel cs x hc h
  simp only [tyChk] at hc
  split at hc
  ·rename_i e0 j hu he
   simp only [Bool.and_eq_true] at hc
   have e1 := (nbeq _ _).1 hc.1.1
   have e2 := (nbeq _ _).1 hc.1.2
   have e3 := LawfulBEq.eq_of_beq hc.2
   subst e1; subst e3
   obtain ⟨l, h1, h2, h3⟩ := Zti hu he e2 h
   exact ⟨.is l, by simp only [Ty.leaves, lock_eq]; exact h3, h1, h2⟩
  cases hc
 ·intro T e ih t fuel cs x hc h
  simp only [tyChk] at hc
  split at hc
  ·rename_i e0 hu
   simp only [Bool.and_eq_true] at hc
   obtain ⟨⟨⟨c1, c2⟩, c3⟩, c4⟩ := hc
   have e1 := (nbeq _ _).1 c1
   have e2 := (nbeq _ _).1 c2
   have e3 := Nat.le_of_ble_eq_true c3
   subst e1
   rcases open_slice hu h with ⟨rfl, _⟩ | ⟨a, len, cap, m, n, D0, Pl, rfl, hb, hl, hm, hmm, _, hi⟩
   ·refine ⟨.l [], ?_, by simp [Ty.rng, D.toL]⟩
    simp only [Ty.leaves, lock_eq, D.toL]
    exact den1 (Z1j rfl .nsl) rfl
   have hle : len ≤ m := by rw [hmm]; split <;> omega
   have each : ∀ i, ∃ q : D × List Value, i < len → q.2.length = e.size ∧ (∀ j, j < e.size → w.cell? (a.add (i * e.size + j)) = q.2[j]?) ∧ Dens PN w AN (e.leaves q.1) q.2 ∧ e.rng q.1 := fun i => by
    by_cases hil : i < len
    ·obtain ⟨cs', g1, g2⟩ := hi i (by omega)
     obtain ⟨_, g3, g4⟩ := World.cells?_some g1
     obtain ⟨d, g5, g6⟩ := ih _ n cs' _ c4 g2
     refine ⟨(d, cs'), fun _ => ⟨by rw [g3, e2], fun j hj => ?_, g5, g6⟩⟩
     have := g4 j (by omega)
     rw [Z1i, e2] at this
     exact this
    exact ⟨(.i 0, []), fun h' => absurd h' hil⟩
   obtain ⟨f, hf⟩ := Classical.axiomOfChoice each
   refine ⟨.l ((List.range len).map fun i => (f i).1), ?_, ?_, ?_⟩
   ·simp only [Ty.leaves, lock_eq, D.toL]
    refine den1 (Zcx (by simp [rlen]) hl (by show 0 < e.size; omega) fun i hi => ⟨(f i).2, (hf i hi).1, (hf i hi).2.1, ?_⟩) rfl
    have : getD ((List.range len).map fun i => (f i).1) i = (f i).1 := by simp [getD, hi]
    simp only [R.elem, lock_eq, this]
    exact (hf i hi).2.2.1
   ·simp [D.toL]; omega
   intro y hy
   simp only [D.toL] at hy
   obtain ⟨i, h1, rfl⟩ := List.mem_map.1 hy
   exact (hf i (List.mem_range.1 h1)).2.2.2
  cases hc
 ·intro es ih t fuel cs x hc h
  simp only [tyChk] at hc
  split at hc
  ·rename_i fl hu
   simp only [Bool.and_eq_true] at hc
   have e1 := (nbeq _ _).1 hc.1
   obtain ⟨xs, n, _, _, hlen, hxl, hx⟩ := DataW.trod_struct hu h
   obtain ⟨ds, h1, h2⟩ := ih fl.toList 0 cs hc.2 (fun f hf => by
    obtain ⟨i, hi, he⟩ := List.getElem_of_mem hf
    have hi' : i < fl.size := by simpa using hi
    have := hx i f (by rw [Array.getElem?_eq_getElem hi']; simpa using he)
    exact ⟨n, xs[i]'(by omega), by rw [this, List.getElem?_eq_getElem (by omega)]⟩) (by rw [hlen, e1]; omega)
   obtain ⟨g1, g2⟩ := h2 (.l ds) 0 (fun i hi => by rw [D.fld_l, Nat.zero_add])
   exact ⟨.l ds, by simp only [Ty.leaves]; simpa using g1, g2⟩
  cases hc
 ·intro T t fuel cs x hc h; simp [tyChk] at hc
 ·intro n t fuel cs x hc h; simp [tyChk] at hc
 ·intro fl o cs hc hf hl
  cases fl with
  | nil => exact ⟨[], rfl, fun d j _ => ⟨by simp only [Ty.leavesL]; rw [List.drop_of_length_le (by simp [Ty.sizes] at hl; omega)]; exact Dens.nil, trivial⟩⟩
  | cons f fl => simp [tysChk] at hc
 intro e es ih1 ih2 fl o cs hc hf hl
 cases fl with
 | nil => simp [tysChk] at hc
 | cons f fl =>
  simp only [tysChk, Bool.and_eq_true] at hc
  obtain ⟨⟨⟨c1, c2⟩, c3⟩, c4⟩ := hc
  have e1 := (nbeq _ _).1 c1
  have e2 := (nbeq _ _).1 c2
  obtain ⟨fuel, x, hx⟩ := hf f (List.mem_cons_self ..)
  obtain ⟨d1, g1, g2⟩ := ih1 _ _ _ _ c3 hx
  simp only [Ty.sizes] at hl
  obtain ⟨ds, g3, g4⟩ := ih2 fl (o + e.size) cs c4 (fun f hf' => hf f (List.mem_cons_of_mem _ hf')) (by omega)
  refine ⟨d1 :: ds, by simp [g3], fun d j hd => ?_⟩
  have hd0 : d.fld j = d1 := by simpa using hd 0 (by simp)
  obtain ⟨k1, k2⟩ := g4 d (j + 1) (fun i hi => by
   have := hd (i + 1) (by simpa using hi)
   rw [Nat.add_assoc, Nat.add_comm 1 i, this, List.getD_cons_succ])
  rw [e1, e2] at g1
  refine ⟨?_, ?_, k2⟩
  ·simp only [Ty.leavesL, lock_eq, hd0]
   have : cs.drop o = (cs.drop o).take e.size ++ cs.drop (o + e.size) := by
    rw [← List.drop_drop, List.take_append_drop]
   rw [this]
   exact Zr5 g1 k1
  rw [hd0]; exact g2
end
end Go.Proofs.Ytojbpjcfdjakkaa
end
section
set_option linter.unusedVariables false
set_option linter.unusedSimpArgs false
namespace Go.Proofs.Ytojbpjcfdjakkaa
theorem pieq {a b : Int} : (ieq a b = true) = (a = b) := by simp [ieq]
theorem pilt {a b : Int} : (ilt a b = true) = (a < b) := by simp [ilt]
theorem pile {a b : Int} : (ile a b = true) = (a ≤ b) := by simp [ile]
theorem pseq {a b : List UInt8} : (seq a b = true) = (a = b) := by simp [seq]
theorem pbeq2 {a b : Bool} : (beq2 a b = true) = (a = b) := by simp [beq2]
theorem pband {a b : Bool} : (band a b = true) = (a = true ∧ b = true) := by simp [band]
def U (x : Int) : Prop := 0 ≤ x ∧ x < 18446744073709551616
theorem U.lo {x : Int} (h : U x) : 0 ≤ x := h.1
theorem U.hi {x : Int} (h : U x) : x < 18446744073709551616 := h.2
theorem pwu64 (x : Int) : IntKind.u64.wrap x = x % 18446744073709551616 := by simp [IntKind.wrap, IntKind.signed, IntKind.bits]
theorem pwi64 {x : Int} (h1 : -9223372036854775808 ≤ x) (h2 : x ≤ 9223372036854775807) : IntKind.i64.wrap x = x := by
 simp only [IntKind.wrap, IntKind.signed, IntKind.bits]
 simp
 omega
theorem pu64 {x : Int} (h1 : 0 ≤ x) (h2 : x < 18446744073709551616) : IntKind.u64.wrap x = x := by rw [pwu64]; omega
theorem ptoN (n : Nat) : toN (n : Int) = n := rfl
theorem pnext {n : Nat} (h : n < 9223372036854775807) : iadd .i64 (n : Int) 1 = ((n + 1 : Nat) : Int) := by
 simp only [iadd]
 rw [pwi64] <;> omega
theorem pgetI {l : List Int} {n : Nat} (h : n < l.length) : getI l n = l[n] := by simp [getI, h]
theorem pgetD {l : List D} {n : Nat} (h : n < l.length) : getD l n = l[n] := by simp [getD, h]
theorem pcopy {α : Type} (l : List α) (x : α) : lspl (lrep l.length x) 0 (lsub l 0 (nmin (xlen (lrep l.length x)) (xlen l))) = l := by
 simp [lspl, lrep, lsub, nmin, xlen]
theorem pimax (a b : Int) : imax a b = max a b := by
 unfold imax
 by_cases h : b > a
 ·rw [if_pos h]; omega
 rw [if_neg h]; omega
theorem pimin (a b : Int) : imin a b = min a b := by
 unfold imin
 by_cases h : b < a
 ·rw [if_pos h]; omega
 rw [if_neg h]; omega
abbrev Pk := Int × Int × Int
def pk (d : D) : Pk := (D.toI (D.fld d 0), D.toI (D.fld d 1), D.toI (D.fld d 2))
def mkP (p : Pk) : D := .l [.i p.1, .i p.2.1, .i p.2.2]
def zP : D := .l [.i 0, .i 0, .i 0]
structure QR (f n : Nat) (r : List D) (l : List Pk) : Prop where
 hn : l.length = n
 le : n ≤ r.length
 hf : f < r.length ∨ (r = [] ∧ f = 0)
 big : r.length ≤ 1000000
 at_ : ∀ i, (hi : i < l.length) → pk (r.getD ((f + i) % r.length) (.i 0)) = l[i]
theorem QR.nil : QR 0 0 [] [] := ⟨rfl, by simp, .inr ⟨rfl, rfl⟩, by simp, fun i h => absurd h (by simp)⟩
theorem QR.zero {r : List D} (h : 0 < r.length) (hb : r.length ≤ 1000000) : QR 0 0 r [] := ⟨rfl, by simp, .inl h, hb, fun i h => absurd h (by simp)⟩
theorem Z7h {i f : Nat} {x y : Int} {r : List D} (hr : 0 < r.length) (hf : f ≤ 1000000) (hi : i ≤ 1000000) : Z1d (i : Int) x (f : Int) y r = some (((f + i) % r.length : Nat) : Int) := by
 unfold Z1d
 have e : iadd .i64 (f : Int) (i : Int) = ((f + i : Nat) : Int) := by simp only [iadd]; rw [pwi64 (by omega) (by omega)]; omega
 have e2 : irem ((f + i : Nat) : Int) (ofN (xlen r)) = (((f + i) % r.length : Nat) : Int) := by
  simp only [irem, ofN, xlen]
  rw [Int.tmod_eq_emod_of_nonneg (by omega)]
  exact (Int.natCast_emod _ _).symm
 rw [if_pos (by simp only [ofN, xlen]; omega), e, e2]
theorem Zty {f : Nat} {x y : Int} {r : List D} (hf : f ≤ r.length) (hb : r.length ≤ 400000) : ∃ z : List D, Z31 x (f : Int) y r = some (r.drop f ++ r.take f ++ z) ∧ r.length + z.length = max 4 (2 * r.length) := by
 obtain ⟨M, hM⟩ : ∃ M : Nat, M = max 4 (2 * r.length) := ⟨_, rfl⟩
 have hm : imax (4 : Int) (imul .i64 (2 : Int) (ofN (xlen r))) = (M : Int) := by
  have : imul .i64 (2 : Int) (ofN (xlen r)) = ((2 * r.length : Nat) : Int) := by simp only [imul, ofN, xlen]; rw [pwi64 (by omega) (by omega)]; omega
  rw [this, pimax]; omega
 obtain ⟨Z, hZ⟩ : ∃ Z : List D, Z = List.replicate M zP := ⟨_, rfl⟩
 have hZl : Z.length = M := by rw [hZ]; simp
 have e0 : @lrep D (toN (M : Int)) (D.l [(D.i (0 : Int)), (D.i (0 : Int)), (D.i (0 : Int))]) = Z := by rw [hZ]; rfl
 have ea : lsub r (toN (f : Int)) (ndec (xlen r) (toN (f : Int))) = r.drop f := by
  show (r.drop f).take (r.length - f) = _
  exact List.take_of_length_le (by simp)
 have eb : lsub r 0 (toN (f : Int)) = r.take f := by show (r.drop 0).take f = _; rfl
 have hla : (r.drop f).length = r.length - f := by simp
 have hlb : (r.take f).length = f := by simp; omega
 have em1 : nmin (xlen Z) (xlen (r.drop f)) = r.length - f := by simp only [nmin, xlen]; omega
 have el1 : lsub (r.drop f) 0 (r.length - f) = r.drop f := by show ((r.drop f).drop 0).take _ = _; exact List.take_of_length_le (by simp)
 have es1 : lspl Z 0 (r.drop f) = r.drop f ++ Z.drop (r.length - f) := by
  show Z.take 0 ++ r.drop f ++ Z.drop (0 + (r.drop f).length) = _
  rw [hla, Nat.zero_add]; rfl
 have hl1 : xlen (r.drop f ++ Z.drop (r.length - f)) = M := by simp only [xlen, List.length_append, List.length_drop]; omega
 have em2 : nmin (ndec M (toN (ofN (r.length - f)))) (xlen (r.take f)) = f := by simp only [nmin, ndec, xlen, hlb]; show min (M - (r.length - f)) f = f; omega
 have el2 : lsub (r.take f) 0 f = r.take f := by show ((r.take f).drop 0).take _ = _; exact List.take_of_length_le (by rw [List.drop_zero, hlb]; exact Nat.le_refl _)
 have es2 : lspl (r.drop f ++ Z.drop (r.length - f)) (toN (ofN (r.length - f))) (r.take f) = r.drop f ++ r.take f ++ Z.drop r.length := by
  show (r.drop f ++ Z.drop (r.length - f)).take (r.length - f) ++ r.take f ++ (r.drop f ++ Z.drop (r.length - f)).drop (r.length - f + (r.take f).length) = _
  rw [List.take_left' hla, hlb]
  congr 1
  rw [List.drop_append, List.drop_of_length_le (by omega), List.nil_append, List.drop_drop, hla]
  congr 1
  omega
 refine ⟨Z.drop r.length, ?_, by simp only [List.length_drop]; omega⟩
 unfold Z31
 rw [hm, e0, ea, em1, el1, es1, eb, hl1, em2, el2, es2]
 rw [if_pos (by omega), if_pos (by simp only [ofN, xlen]; omega), if_pos (by simp only [ofN]; omega), if_pos (by simp only [ofN, xlen]; omega)]
theorem Zcb {l m : List D} {i : Nat} (h : i < l.length) : (l ++ m).getD i (.i 0) = l.getD i (.i 0) := by
 rw [List.getD_eq_getElem?_getD, List.getD_eq_getElem?_getD, List.getElem?_append_left h]
theorem Zuy {r : List D} {f i : Nat} {z : List D} (hf : f < r.length) (hi : i < r.length) : (r.drop f ++ r.take f ++ z).getD i (.i 0) = r.getD ((f + i) % r.length) (.i 0) := by
 have hl : (r.drop f ++ r.take f).length = r.length := by simp; omega
 rw [Zcb (by omega)]
 by_cases h : f + i < r.length
 ·rw [Nat.mod_eq_of_lt h, Zcb (by simp; omega)]
  simp [List.getD_eq_getElem?_getD, List.getElem?_drop]
 have e : (f + i) % r.length = f + i - r.length := by rw [Nat.mod_eq_sub_mod (by omega), Nat.mod_eq_of_lt (by omega)]
 rw [e, List.getD_eq_getElem?_getD, List.getElem?_append_right (by simp; omega), List.getD_eq_getElem?_getD]
 simp only [List.length_drop]
 rw [List.getElem?_take_of_lt (by omega)]
 congr 2
 omega
theorem getD_set_ne {r : List D} {i j : Nat} {d : D} (h : i ≠ j) : (r.set i d).getD j (.i 0) = r.getD j (.i 0) := by
 rw [List.getD_eq_getElem?_getD, List.getD_eq_getElem?_getD, List.getElem?_set_ne h]
theorem Zcd {r : List D} {i : Nat} {d : D} (h : i < r.length) : (r.set i d).getD i (.i 0) = d := by
 rw [List.getD_eq_getElem?_getD, List.getElem?_set_self h]
 rfl
theorem Zs5 {L f n i : Nat} (hn : n < L) (hi : i < n) : (f + n) % L ≠ (f + i) % L := by
 intro e
 have h1 : (f + n) % L = (f + i + (n - i)) % L := by congr 1; omega
 rw [h1] at e
 have h2 : (f + i + (n - i)) % L = ((f + i) % L + (n - i)) % L := by rw [Nat.mod_add_mod]
 rw [h2] at e
 have hL : (f + i) % L < L := Nat.mod_lt _ (by omega)
 by_cases h : (f + i) % L + (n - i) < L
 ·rw [Nat.mod_eq_of_lt h] at e; omega
 rw [Nat.mod_eq_sub_mod (by omega), Nat.mod_eq_of_lt (by omega)] at e; omega
theorem QR.put {f n : Nat} {r : List D} {l : List Pk} (h : QR f n r l) (hn : n < r.length) (d : D) : QR f (n + 1) (r.set ((f + n) % r.length) d) (l ++ [pk d]) := by
 have hf : f < r.length := by rcases h.hf with hf | ⟨rfl, _⟩; exact hf; simp at hn
 have hL : (f + n) % r.length < r.length := Nat.mod_lt _ (by omega)
 refine ⟨by simp [h.hn], by simp; omega, .inl (by simpa using hf), by simpa using h.big, fun i hi => ?_⟩
 simp only [List.length_set]
 have hl := h.hn
 by_cases hin : i < l.length
 ·rw [getD_set_ne (Zs5 hn (by omega)), h.at_ i hin, List.getElem_append_left hin]
 have : i = n := by simp at hi; omega
 subst this
 rw [Zcd hL]
 simp [h.hn]
theorem Zkp {a b c x : Int} {f n : Nat} {r : List D} {l : List Pk} (h : QR f n r l) (hn : n ≤ 400000) :
  ∃ (f' : Nat) (r' : List D), Z24 a b c x (f : Int) (n : Int) r = some ((f' : Int), ((n + 1 : Nat) : Int), r') ∧ QR f' (n + 1) r' (l ++ [(a, b, c)]) := by
 have hle := h.le
 have hbig := h.big
 have hfl : f ≤ r.length := by rcases h.hf with hf | ⟨rfl, rfl⟩ <;> omega
 unfold Z24
 by_cases c1 : n = r.length
 ·rw [if_pos (by rw [pieq]; simp only [ofN, xlen]; omega)]
  obtain ⟨z, hz, hzl⟩ := Zty (x := x) (f := f) (y := (n : Int)) (r := r) hfl (by omega)
  rw [hz]
  dsimp only [bindO]
  generalize hq : r.drop f ++ r.take f ++ z = q
  have hql : q.length = max 4 (2 * r.length) := by rw [← hq]; simp only [List.length_append, List.length_drop, List.length_take]; omega
  have hQ : QR 0 n q l := by
   refine ⟨h.hn, by omega, .inl (by omega), by omega, fun i hi => ?_⟩
   have hi' : i < r.length := by have := h.hn; omega
   have hf : f < r.length := by rcases h.hf with hf | ⟨rfl, _⟩; exact hf; simp at hi'
   rw [Nat.zero_add, Nat.mod_eq_of_lt (by omega), ← hq, Zuy hf hi']
   exact h.at_ i hi
  have ha := Z7h (i := n) (f := 0) (x := x) (y := (n : Int)) (r := q) (by omega) (by omega) (by omega)
  rw [show ((0 : Nat) : Int) = 0 from rfl] at ha
  rw [ha]
  dsimp only [bindO]
  have hlt : (0 + n) % q.length < q.length := Nat.mod_lt _ (by omega)
  rw [if_pos (by simp only [ofN, xlen]; omega), pnext (by omega)]
  exact ⟨0, _, rfl, hQ.put (by omega) (D.l [D.i a, D.i b, D.i c])⟩
 rw [if_neg (by rw [pieq]; simp only [ofN, xlen]; omega), Z7h (by omega) (by omega) (by omega)]
 dsimp only [bindO]
 have hlt : (f + n) % r.length < r.length := Nat.mod_lt _ (by omega)
 rw [if_pos (by simp only [ofN, xlen]; omega), pnext (by omega)]
 exact ⟨f, _, rfl, h.put (by omega) (D.l [D.i a, D.i b, D.i c])⟩
theorem Zub {a b c lim : Int} {f n : Nat} {r : List D} {l : List Pk} (h : QR f n r l) (hn : n ≤ 400000) :
  (lim ≤ (n : Int) ∧ Z1c a b c lim (f : Int) (n : Int) r = some (false, (f : Int), (n : Int), r)) ∨
  ((n : Int) < lim ∧ ∃ (f' : Nat) (r' : List D), Z1c a b c lim (f : Int) (n : Int) r = some (true, (f' : Int), ((n + 1 : Nat) : Int), r') ∧ QR f' (n + 1) r' (l ++ [(a, b, c)])) := by
 unfold Z1c
 by_cases c1 : lim ≤ (n : Int)
 ·exact .inl ⟨c1, by rw [if_pos (by rw [pile]; exact c1)]⟩
 refine .inr ⟨by omega, ?_⟩
 rw [if_neg (by rw [pile]; exact c1)]
 obtain ⟨f', r', h1, h2⟩ := Zkp (a := a) (b := b) (c := c) (x := lim) h hn
 rw [h1]
 exact ⟨f', r', rfl, h2⟩
def headOf : List Pk → Int × Int × Int × Bool
 | [] => (0, 0, 0, false)
 | p :: _ => (p.1, p.2.1, p.2.2, true)
theorem Zkj {lim : Int} {f n : Nat} {r : List D} {l : List Pk} (h : QR f n r l) : Z23 lim (f : Int) (n : Int) r = some (headOf l) := by
 unfold Z23 Z1b
 dsimp only [bindO]
 have hl := h.hn
 cases l with
 | nil =>
  have : n = 0 := by simpa using hl.symm
  subst this
  rw [if_pos (by rw [pieq]; rfl)]
  rfl
 | cons p l =>
  simp only [List.length_cons] at hl
  have hle := h.le
  have hf : f < r.length := by rcases h.hf with hf | ⟨rfl, _⟩; exact hf; simp at hle; omega
  rw [if_neg (by rw [pieq]; omega), if_pos (by simp only [ofN, xlen]; omega)]
  have := h.at_ 0 (by simp)
  rw [Nat.add_zero, Nat.mod_eq_of_lt hf] at this
  have e : pk (getD r (toN (f : Int))) = p := this
  rw [← e]
  rfl
theorem QR.pop {f n : Nat} {r : List D} {p : Pk} {l : List Pk} (h : QR f n r (p :: l)) : QR ((f + 1) % r.length) (n - 1) r l := by
 have hl := h.hn
 have hle := h.le
 simp only [List.length_cons] at hl
 refine ⟨by omega, by omega, .inl (Nat.mod_lt _ (by omega)), h.big, fun i hi => ?_⟩
 have := h.at_ (i + 1) (by simpa using hi)
 rw [Nat.mod_add_mod, show f + 1 + i = f + (i + 1) by omega, this]
 simp
theorem Zua {lim : Int} {f n : Nat} {r : List D} {l : List Pk} (h : QR f n r l) (hn : n ≤ 400000) :
  (l = [] ∧ Z1o lim (f : Int) (n : Int) r = some (0, 0, 0, false, (f : Int), (n : Int))) ∨
  ∃ p l' f', l = p :: l' ∧ Z1o lim (f : Int) (n : Int) r = some (p.1, p.2.1, p.2.2, true, ((f' : Nat) : Int), ((n - 1 : Nat) : Int)) ∧ QR f' (n - 1) r l' := by
 unfold Z1o
 rw [Zkj h]
 cases l with
 | nil => exact .inl ⟨rfl, rfl⟩
 | cons p l =>
  refine .inr ⟨p, l, (f + 1) % r.length, rfl, ?_, h.pop⟩
  have hl := h.hn
  simp only [List.length_cons] at hl
  have hle := h.le
  have hbig := h.big
  have hf : f < r.length := by rcases h.hf with hf | ⟨rfl, _⟩; exact hf; simp at hle; omega
  dsimp only [bindO]
  have ha := Z7h (i := 1) (f := f) (x := lim) (y := (n : Int)) (r := r) (by omega) (by omega) (by omega)
  rw [show ((1 : Nat) : Int) = 1 from rfl] at ha
  rw [show headOf (p :: l) = (p.1, p.2.1, p.2.2, true) from rfl]
  dsimp only [bindO]
  rw [if_pos rfl, ha]
  dsimp only [bindO]
  have : isub .i64 (n : Int) 1 = ((n - 1 : Nat) : Int) := by simp only [isub]; rw [pwi64 (by omega) (by omega)]; omega
  rw [this]
def sadd (a b : Int) : Int := if a + b < 18446744073709551616 then a + b else 18446744073709551615
theorem Zld {a b : Int} (ha : U a) (hb : U b) : U (sadd a b) := by
 have := ha.lo; have := hb.lo
 unfold sadd U
 split <;> omega
theorem Zkc {x y : Int} (hx : U x) (hy : U y) : Z1p x y = some (sadd x y) := by
 have := hx.lo; have := hx.hi; have := hy.lo; have := hy.hi
 unfold Z1p sadd
 simp only [pile, iadd, pwu64]
 split <;> split <;> first | rfl | (congr 1; omega) | (exfalso; omega)
def turnF (t : Int) (n : Nat) : Int := if t + 1 < (n : Int) then t + 1 else 0
structure RingOk (q : List Int) (t : Int) (d : List Int) : Prop where
 t0 : 0 ≤ t
 tn : t < (q.length : Int)
 n : q.length ≤ 1000
 l : d.length = q.length
 q : ∀ x ∈ q, U x
 d : ∀ x ∈ d, U x
theorem Z67 {q : List Int} {t : Int} {d l : List Int} {ad : Bool} (h : RingOk q t d) : Z1a t ad q l = some (turnF t q.length) := by
 have := h.t0; have := h.tn; have := h.n
 unfold Z1a turnF
 rw [if_pos (by simp only [ofN, xlen]; omega)]
 congr 1
 simp only [irem, iadd, ofN, xlen]
 rw [pwi64 (by omega) (by omega), Int.tmod_eq_emod_of_nonneg (by omega)]
 split
 ·exact Int.emod_eq_of_lt (by omega) (by omega)
 have : t + 1 = (q.length : Int) := by omega
 rw [this, Int.emod_self]
def visL (q : List Int) (t : Int) (ad : Bool) (d : List Int) : Int := if ad = false then sadd (d.getD t.toNat 0) (q.getD t.toNat 0) else d.getD t.toNat 0
def visF (q : List Int) (t : Int) (ad : Bool) (d : List Int) (sz : Int) (may : Bool) : Bool × Int × Bool × List Int :=
 if sz = 0 ∨ may = false then (false, turnF t q.length, false, d.set t.toNat 0)
 else if visL q t ad d < sz then (false, turnF t q.length, false, d.set t.toNat (visL q t ad d)) else (true, t, true, d.set t.toNat (visL q t ad d - sz))
theorem Z5w {l : List Int} {n : Nat} (h : ∀ x ∈ l, U x) (hn : n < l.length) : U (l.getD n 0) := by
 have : l.getD n 0 = l[n] := by simp [hn]
 rw [this]
 exact h _ (List.getElem_mem hn)
theorem RingOk.on {q : List Int} {t : Int} {d : List Int} (h : RingOk q t d) {x : Int} (hx : U x) : RingOk q t (d.set t.toNat x) :=
 ⟨h.t0, h.tn, h.n, by simpa using h.l, h.q, fun y hy => by
  rcases List.mem_or_eq_of_mem_set hy with hy | rfl
  ·exact h.d _ hy
  exact hx⟩
theorem Zwq {t : Int} {n : Nat} (h0 : 0 ≤ t) (h : t < (n : Int)) : 0 ≤ turnF t n ∧ turnF t n < (n : Int) := by
 unfold turnF; split <;> omega
theorem Znx {q : List Int} {t : Int} {d : List Int} {ad : Bool} (h : RingOk q t d) : U (visL q t ad d) := by
 have := h.t0; have := h.tn; have := h.l
 unfold visL
 split
 ·exact Zld (Z5w h.d (by omega)) (Z5w h.q (by omega))
 exact Z5w h.d (by omega)
theorem Zun {q : List Int} {t : Int} {d : List Int} {ad may : Bool} {sz : Int} (h : RingOk q t d) (hs : U sz) : Z20 sz may t ad q d = some (visF q t ad d sz may) := by
 have h0 := h.t0; have h1 := h.tn; have h2 := h.n; have h3 := h.l
 have hd : t.toNat < d.length := by omega
 have hq : t.toNat < q.length := by omega
 have hL := Znx (ad := ad) h
 have z : U 0 := by unfold U; omega
 unfold Z20
 rw [if_pos (by simp only [ofN, xlen]; omega)]
 simp only [pieq, pilt, Z67 (h.on z), Z67 h]
 unfold visF
 by_cases e1 : sz = 0
 ·rw [if_pos e1, if_pos (.inl e1)]; simp [setI, toN, Z67 (h.on z), Z8]
 rw [if_neg e1]
 cases may with
 | false => simp [setI, toN, Z67 (h.on z), Z8]
 | true =>
  have e0 : ¬ (sz = 0 ∨ true = false) := by simp [e1]
  rw [if_neg e0]
  simp only [if_true]
  cases ad with
  | true =>
   have e2 : visL q t true d = getI d (toN t) := by unfold visL; rfl
   simp only [if_true]
   rw [e2]
   rw [e2] at hL
   have e5 : d.set t.toNat (getI d (toN t)) = d := by simp [getI, toN, hd]
   split
   ·rw [e5]; rfl
   simp only [setI, isub]
   rw [pu64 (by omega) (by have := hL.hi; have := hs.lo; omega)]
   rfl
  | false =>
   simp only [Bool.false_eq_true, if_false]
   have e2 : visL q t false d = sadd (getI d (toN t)) (getI q (toN t)) := by unfold visL; rfl
   rw [if_pos (by simp only [ofN, xlen]; omega)]
   have e6 : Z1p (getI d (toN t)) (getI q (toN t)) = some (visL q t false d) := by rw [e2]; exact Zkc (Z5w h.d hd) (Z5w h.q hq)
   have e3 : getI (setI d (toN t) (visL q t false d)) (toN t) = visL q t false d := by simp [getI, setI, toN, hd]
   have e4 := Z67 (ad := true) (l := setI d (toN t) (visL q t false d)) (h.on hL)
   rw [e6]
   simp only [Z8, e3, e4]
   split
   ·rfl
   simp only [setI, isub]
   rw [pu64 (by omega) (by have := hL.hi; have := hs.lo; omega)]
   simp [toN]
def vSz (v : D) : Int := (v.fld 0).toI
def vMay (v : D) : Bool := (v.fld 1).toB
def nextGo (q : List Int) (L : List D) : Nat → Int → Bool → List Int → Int × Int × Bool × List Int
 | 0, t, ad, d => (-1, t, ad, d)
 | n + 1, t, ad, d => match visF q t ad d (vSz (L.getD t.toNat (.i 0))) (vMay (L.getD t.toNat (.i 0))) with
  | (true, t', ad', d') => (t', t', ad', d')
  | (false, t', ad', d') => nextGo q L n t' ad' d'
def nextF (q : List Int) (L : List D) (t : Int) (ad : Bool) (d : List Int) : Int × Int × Bool × List Int :=
 if L.length = q.length then if L.length = 0 then (-1, t, ad, d) else nextGo q L (L.length + 1) t ad d else (-1, t, ad, d)
theorem Znw {q : List Int} {t : Int} {d : List Int} {ad : Bool} {sz : Int} {may : Bool} (h : RingOk q t d) (hs : U sz) : RingOk q (visF q t ad d sz may).2.1 (visF q t ad d sz may).2.2.2 := by
 have hL := Znx (ad := ad) h
 have hT := Zwq h.t0 h.tn
 have z : U 0 := by unfold U; omega
 have go : ∀ x, U x → RingOk q (turnF t q.length) (d.set t.toNat x) := fun x hx => ⟨hT.1, hT.2, h.n, (h.on hx).l, h.q, (h.on hx).d⟩
 unfold visF
 split
 ·exact go 0 z
 split
 ·exact go _ hL
 exact h.on (by have := hL.lo; have := hL.hi; have := hs.lo; unfold U; omega)
theorem Zu8 {q : List Int} {L : List D} {t : Int} {d : List Int} {ad : Bool} (h : L.length = q.length → L.length ≠ 0 → RingOk q t d) (hv : ∀ x ∈ L, U (vSz x)) : Z1z L t ad q d = some (nextF q L t ad d) := by
 unfold Z1z nextF
 simp only [pieq, ofN, xlen]
 by_cases e1 : L.length = q.length
 ·rw [if_pos (by omega), if_pos e1]
  by_cases e2 : L.length = 0
  ·rw [if_pos (by omega), if_pos e2]
  rw [if_neg (by omega), if_neg e2]
  have key : ∀ (n i : Nat) (t : Int) (ad : Bool) (d : List Int), RingOk q t d → i + n = L.length + 1 → iter (Z48 L q) ((i : Int), t, ad, d) = some (nextGo q L n t ad d) := by
   intro n
   induction n with
   | zero =>
    intro i t ad d ok hi
    apply Za
    unfold Z48
    have := ok.n
    have e : iadd .i64 (ofN (xlen L)) 1 = ((L.length + 1 : Nat) : Int) := pnext (n := L.length) (by omega)
    dsimp only [bindO]
    rw [if_neg (by rw [pilt, e]; omega)]
    rfl
   | succ n ih =>
    intro i t ad d ok hi
    have h0 := ok.t0; have h1 := ok.tn; have h2 := ok.n
    have e : iadd .i64 (ofN (xlen L)) 1 = ((L.length + 1 : Nat) : Int) := pnext (n := L.length) (by omega)
    have hl : t.toNat < L.length := by omega
    have hU : U (vSz (L.getD t.toNat (.i 0))) := by
     have : L.getD t.toNat (.i 0) = L[t.toNat] := by simp [hl]
     rw [this]; exact hv _ (List.getElem_mem hl)
    have hB : Z48 L q ((i : Int), t, ad, d) = match visF q t ad d (vSz (L.getD t.toNat (.i 0))) (vMay (L.getD t.toNat (.i 0))) with
      | (true, t', ad', d') => some (.inr (t', t', ad', d'))
      | (false, t', ad', d') => some (.inl (((i + 1 : Nat) : Int), t', ad', d')) := by
     unfold Z48
     dsimp only [bindO]
     rw [if_pos (by rw [pilt, e]; omega), if_pos (by simp only [ofN, xlen]; omega)]
     have : Z20 (D.toI (D.fld (getD L (toN t)) 0)) (D.toB (D.fld (getD L (toN t)) 1)) t ad q d = some (visF q t ad d (vSz (L.getD t.toNat (.i 0))) (vMay (L.getD t.toNat (.i 0)))) := Zun ok hU
     rw [this]
     rcases visF q t ad d (vSz (L.getD t.toNat (.i 0))) (vMay (L.getD t.toNat (.i 0))) with ⟨b, t', ad', d'⟩
     cases b with
     | true => rfl
     | false => simp only [Bool.false_eq_true, if_false, pnext (show i < 9223372036854775807 by omega)]
    have hok := Znw (ad := ad) (may := vMay (L.getD t.toNat (.i 0))) ok hU
    unfold nextGo
    revert hB hok
    rcases visF q t ad d (vSz (L.getD t.toNat (.i 0))) (vMay (L.getD t.toNat (.i 0))) with ⟨b, t', ad', d'⟩
    cases b with
    | true => intro hB hok; exact Za hB
    | false => intro hB hok; rw [Ze hB]; exact ih (i + 1) t' ad' d' hok (by omega)
  exact key (L.length + 1) 0 t ad d (h e1 e2) (by omega)
 rw [if_neg (by omega), if_neg e1]
theorem Zki {t : Int} {ad : Bool} {l : List Int} (h : l.length ≤ 1000) : Z21 t ad l = some l := by
 unfold Z21
 rw [if_pos (by simp only [ofN, xlen]; refine ⟨by omega, by omega, by simp; omega, by omega⟩)]
 congr 1
 exact pcopy l 0
theorem Ztr {l : List Int} (h : l.length ≤ 1000) : cloneU64 l = some l := by
 unfold cloneU64
 rw [if_pos (by simp only [xlen]; simp; omega)]
theorem Zu5 {l : List Int} (h : l.length ≤ 1000) : Z1n l = some (l, List.replicate l.length 0) := by
 unfold Z1n
 rw [Ztr h]
 dsimp only [bindO]
 rw [if_pos (by simp only [ofN, xlen]; refine ⟨by omega, by omega, by simp; omega, by omega⟩)]
 rfl
theorem Zul {t : Int} {ad : Bool} {q l : List Int} (h : l.length ≤ 1000) : Z2x t ad q l = some l := by
 unfold Z2x
 rw [Zki h]
 rfl
def smul (a b : Int) : Int := if a * b < 18446744073709551616 then a * b else 18446744073709551615
theorem Zlm {a b : Int} (ha : U a) (hb : U b) : U (smul a b) := by
 have := Int.mul_nonneg ha.lo hb.lo
 unfold smul U
 split <;> omega
theorem Zu4 {x y : Int} (hx : U x) (hy : U y) : Z38 x y = some (smul x y) := by
 have h0 := hx.lo; have h1 := hx.hi; have h2 := hy.lo; have h3 := hy.hi
 have hm := Int.mul_nonneg h0 h2
 unfold Z38 smul
 simp only [pilt, imul, pwu64]
 by_cases c : 0 < x
 ·rw [if_pos c, if_pos (by omega)]
  have e : iquo .u64 (18446744073709551615 : Int) x = 18446744073709551615 / x := by
   simp only [iquo]
   rw [Int.tdiv_eq_ediv_of_nonneg (by omega)]
   have q0 : 0 ≤ (18446744073709551615 : Int) / x := Int.ediv_nonneg (by omega) h0
   have q1 : (18446744073709551615 : Int) / x ≤ 18446744073709551615 := Int.ediv_le_self _ (by omega)
   exact pu64 q0 (by omega)
  rw [e]
  have k : (18446744073709551615 / x < y) ↔ (18446744073709551615 < y * x) := Int.ediv_lt_iff_lt_mul c
  rw [Int.mul_comm y x] at k
  by_cases d : x * y < 18446744073709551616
  ·rw [if_neg (by rw [k]; omega), if_pos d]; congr 1; omega
  rw [if_pos (by rw [k]; omega), if_neg d]
 have : x = 0 := by omega
 subst this
 rw [if_neg c, Int.zero_mul, if_pos (by omega)]; rfl
def fillA (x by_ n most : Int) : Int := max x (min most (sadd x (smul by_ n)))
theorem Ztx {x y n m : Int} (hx : U x) (hy : U y) (hn : U n) : Z37 x y n m = some (fillA x y n m) := by
 unfold Z37
 rw [Zu4 hy hn, Z8]
 dsimp only
 rw [Zkc hx (Zlm hy hn), Z8]
 rw [pimax, pimin]
 rfl
theorem Zrg {x y n m : Int} (hx : U x) (hy : U y) (hn : U n) (hm : U m) : U (fillA x y n m) := by
 have h := Zld hx (Zlm hy hn)
 have := hx.lo; have := hx.hi; have := hm.lo; have := hm.hi; have := h.lo; have := h.hi
 unfold fillA U
 omega
structure A where
 key : List UInt8
 q : Int
 r : Int
 b : Int
 lim : Int
 sh : Bool
 br : Int
 bb : Int
 bt : Int
 ql : Int
 l : List Pk
deriving Inhabited
def encA (a : A) (ring : List D) (f : Nat) : D :=
 .l [.l [.s a.key, .i a.q, .i a.r, .i a.b, .i a.lim, .b a.sh], .l [.i a.br, .i a.bb, .i a.bt], .l [.i a.ql, .l ring, .i (f : Int), .i (a.l.length : Int)]]
def RC (d : D) (a : A) : Prop := ∃ ring f, d = encA a ring f ∧ QR f a.l.length ring a.l
structure AOk (a : A) : Prop where
 q : U a.q
 br : U a.br
 bb : U a.bb
 bt : U a.bt
 n : a.l.length ≤ 100000
 sz : ∀ p ∈ a.l, 1 ≤ p.2.2 ∧ p.2.2 ≤ 1500
structure Rep (r : List D) (n : Nat) (g : Nat → A) : Prop where
 len : r.length = n
 at_ : ∀ i, i < n → RC (r.getD i (.i 0)) (g i)
theorem Z6f {r : List D} {i : Nat} {d : D} (h : getD r i = d) : setD r i d = r := by
 subst h
 unfold setD getD
 apply List.ext_getElem (by simp)
 intro j h1 h2
 rw [List.getElem_set]
 split
 ·rename_i e; subst e; simp [List.getD_eq_getElem?_getD, h2]
 rfl
theorem Rep.set {r : List D} {n : Nat} {g g' : Nat → A} {i : Nat} {d : D} (h : Rep r n g) (hi : i < n) (hd : RC d (g' i)) (ho : ∀ j, j < n → j ≠ i → g' j = g j) : Rep (setD r i d) n g' := by
 refine ⟨by simp [setD, h.len], fun j hj => ?_⟩
 by_cases e : j = i
 ·subst e
  unfold setD
  rw [Zcd (by rw [h.len]; exact hj)]
  exact hd
 unfold setD
 rw [getD_set_ne (Ne.symm e), ho j hj e]
 exact h.at_ j hj
theorem Rep.congr {r : List D} {n : Nat} {g g' : Nat → A} (h : Rep r n g) (ho : ∀ j, j < n → g' j = g j) : Rep r n g' :=
 ⟨h.len, fun j hj => by rw [ho j hj]; exact h.at_ j hj⟩
def clsIn (d : D) (x : Int) : Bool := decide ((d.fld 0).toI ≤ x) && decide (x ≤ (d.fld 1).toI)
def clsA (rules : List D) (df x : Int) : Int := match rules.find? fun d => clsIn d x with
 | some d => (d.fld 2).toI
 | none => df
theorem Zkg {a b c x : Int} : Z32 a b c x = some (decide (a ≤ x) && decide (x ≤ b)) := by
 unfold Z32
 simp only [pile]
 by_cases h : a ≤ x
 ·rw [if_pos h]; simp [h, ile]
 rw [if_neg h]; simp [h]
theorem Zu1 {r : List D} {x : Int} (hr : r.length ≤ 1000000) : Z2g r x = some (match r.findIdx? fun d => clsIn d x with | some i => (i : Int) | none => -1) := by
 unfold Z2g
 have key : ∀ (m i : Nat), i + m = r.length → (∀ j, j < i → (h : j < r.length) → clsIn r[j] x = false) → iter (Z4l r x) (i : Int) = some (match r.findIdx? fun d => clsIn d x with | some i => (i : Int) | none => -1) := by
  intro m
  induction m with
  | zero =>
   intro i hi hp
   apply Za
   unfold Z4l
   dsimp only
   rw [if_neg (by rw [pilt]; simp only [ofN, xlen]; omega)]
   have : r.findIdx? (fun d => clsIn d x) = none := by
    rw [List.findIdx?_eq_none_iff]
    intro d hd
    obtain ⟨j, hj, rfl⟩ := List.getElem_of_mem hd
    exact hp j (by omega) hj
   rw [this]
  | succ m ih =>
   intro i hi hp
   have hl : i < r.length := by omega
   by_cases c : clsIn r[i] x = true
   ·apply Za
    unfold Z4l
    dsimp only
    rw [if_pos (by rw [pilt]; simp only [ofN, xlen]; omega), if_pos (by simp only [ofN, xlen]; omega), Zkg, Z8, ptoN, pgetD hl]
    have c' : (decide ((r[i].fld 0).toI ≤ x) && decide (x ≤ (r[i].fld 1).toI)) = true := c
    rw [if_pos c']
    have : r.findIdx? (fun d => clsIn d x) = some i := by
     rw [List.findIdx?_eq_some_iff_getElem]
     exact ⟨hl, c, fun j hj => by rw [hp j hj (by omega)]; simp⟩
    rw [this]
   rw [Ze (y := ((i + 1 : Nat) : Int))]
   ·exact ih (i + 1) (by omega) fun j hj h => by
     by_cases e : j = i
     ·subst e; simpa using c
     exact hp j (by omega) h
   unfold Z4l
   dsimp only
   rw [if_pos (by rw [pilt]; simp only [ofN, xlen]; omega), if_pos (by simp only [ofN, xlen]; omega), Zkg, Z8, ptoN, pgetD hl]
   have c' : ¬ (decide ((r[i].fld 0).toI ≤ x) && decide (x ≤ (r[i].fld 1).toI)) = true := c
   rw [if_neg c', pnext (by omega)]
 exact key r.length 0 (by omega) fun j hj => by omega
theorem Zkf {r : List D} {df x : Int} (hr : r.length ≤ 1000000) : Z25 df x r = some (clsA r df x) := by
 unfold Z25
 rw [Zu1 hr, Z8]
 unfold clsA
 cases h : r.findIdx? (fun d => clsIn d x) with
 | none =>
  have : r.find? (fun d => clsIn d x) = none := by
   rw [List.findIdx?_eq_none_iff] at h
   rw [List.find?_eq_none]
   intro d hd; rw [h d hd]; simp
  rw [this]
  dsimp only
  rw [if_pos (by rw [pilt]; omega)]
 | some i =>
  obtain ⟨hi, h1, h2⟩ := List.findIdx?_eq_some_iff_getElem.1 h
  have : r.find? (fun d => clsIn d x) = some r[i] := by
   rw [List.find?_eq_some_iff_getElem]
   exact ⟨h1, i, hi, rfl, fun j hj => by have := h2 j hj; simpa using this⟩
  rw [this]
  dsimp only
  rw [if_neg (by rw [pilt]; omega), if_pos (by simp only [ofN, xlen]; omega), ptoN, pgetD hi]
theorem Z8l {r : List D} {df x n : Int} (h0 : 0 ≤ df ∧ df < n) (hr : ∀ d ∈ r, 0 ≤ (d.fld 2).toI ∧ (d.fld 2).toI < n) : 0 ≤ clsA r df x ∧ clsA r df x < n := by
 unfold clsA
 cases h : r.find? (fun d => clsIn d x) with
 | none => exact h0
 | some d => exact hr d (List.mem_of_find?_eq_some h)
def badP (flow size : Int) : Bool := decide (flow < 0) || decide (65535 < flow) || decide (size < 1) || decide (1500 < size)
def putA (a : A) (p : Pk) : A := { a with l := a.l ++ [p] }
def updA (g : Nat → A) (i : Nat) (a : A) : Nat → A := fun j => if j = i then a else g j
def arrS (g : Nat → A) (seq : Int) (c : Nat) (flow size : Int) : Pk × Int × Int × (Nat → A) :=
 if badP flow size = true then ((0, 0, 0), 1, seq, g)
 else if (g c).ql ≤ ((g c).l.length : Int) then ((0, 0, 0), 35, seq, g)
 else ((seq + 1, flow, size), 0, seq + 1, updA g c (putA (g c) (seq + 1, flow, size)))
theorem Z7g {flow size df seq x5 : Int} {s : List UInt8} {b1 b2 : Bool} {r1 r2 r : List D} {n : Nat} {l1 l2 : List Int} {g : Nat → A}
  (hR : Rep r n g) (hr : r2.length ≤ 1000000) (hc : 0 ≤ clsA r2 df flow ∧ clsA r2 df flow < (n : Int)) (hg : ∀ i, i < n → AOk (g i)) (hs : 0 ≤ seq ∧ seq ≤ 1000000) :
  ∃ r', Zy flow size s b1 df seq r1 r2 n x5 b2 r l1 l2 = some ((arrS g seq (clsA r2 df flow).toNat flow size).1.1, (arrS g seq (clsA r2 df flow).toNat flow size).1.2.1, (arrS g seq (clsA r2 df flow).toNat flow size).1.2.2,
   (arrS g seq (clsA r2 df flow).toNat flow size).2.1, (arrS g seq (clsA r2 df flow).toNat flow size).2.2.1, r') ∧ Rep r' n (arrS g seq (clsA r2 df flow).toNat flow size).2.2.2 := by
 unfold Zy arrS badP
 simp only [pilt]
 by_cases c1 : flow < 0
 ·rw [if_pos c1]; simp only [c1, decide_true, Bool.true_or, if_true]; exact ⟨r, rfl, hR⟩
 rw [if_neg c1]
 by_cases c2 : 65535 < flow
 ·rw [if_pos c2]; simp only [c2, decide_true, Bool.or_true, Bool.true_or, if_true]; exact ⟨r, rfl, hR⟩
 rw [if_neg c2]
 by_cases c3 : size < 1
 ·rw [if_pos c3]; simp only [c3, decide_true, Bool.or_true, Bool.true_or, if_true]; exact ⟨r, rfl, hR⟩
 rw [if_neg c3]
 by_cases c4 : 1500 < size
 ·rw [if_pos c4]; simp only [c4, decide_true, Bool.or_true, Bool.true_or, if_true]; exact ⟨r, rfl, hR⟩
 rw [if_neg c4]
 simp only [c1, c2, c3, c4, decide_false, Bool.or_false, Bool.false_eq_true, if_false]
 rw [Zkf hr, Z8]
 obtain ⟨k, hk⟩ : ∃ k : Nat, clsA r2 df flow = (k : Int) := ⟨(clsA r2 df flow).toNat, by omega⟩
 rw [hk] at hc ⊢
 have hkn : k < n := by omega
 rw [if_pos (by simp only [ofN]; omega), ptoN]
 simp only [Int.toNat_natCast]
 obtain ⟨ring, f, he, hq⟩ := hR.at_ k hkn
 have he' : getD r k = encA (g k) ring f := he
 rw [he']
 have e1 : iadd .u64 seq 1 = seq + 1 := by simp only [iadd]; exact pu64 (by omega) (by omega)
 rw [e1]
 have hn := (hg k hkn).n
 rcases Zub (a := seq + 1) (b := flow) (c := size) (lim := (g k).ql) hq (by omega) with ⟨h1, h2⟩ | ⟨h1, f', r', h2, h3⟩
 ·rw [if_pos h1]
  show ∃ r', bindO (Z1c (seq + 1) flow size (g k).ql (f : Int) ((g k).l.length : Int) ring) _ = _ ∧ _
  rw [h2, Z8]
  dsimp only
  rw [if_neg (by simp)]
  refine ⟨_, rfl, ?_⟩
  exact hR.set hkn ⟨ring, f, rfl, hq⟩ fun j _ _ => rfl
 rw [if_neg (by omega)]
 show ∃ r', bindO (Z1c (seq + 1) flow size (g k).ql (f : Int) ((g k).l.length : Int) ring) _ = _ ∧ _
 rw [h2, Z8]
 dsimp only
 rw [if_pos rfl]
 refine ⟨_, rfl, ?_⟩
 refine hR.set hkn (d := D.l [_, _, _]) ⟨r', f', ?_, ?_⟩ fun j _ hj => by simp [updA, hj]
 ·simp only [updA, if_true, encA, putA, List.length_append, List.length_cons, List.length_nil]
  rfl
 simpa [updA, putA] using h3
def tickA (x : Int) (a : A) : A := { a with bt := fillA a.bt a.br x a.bb }
theorem Zwo {x : Int} {a : A} (hx : U x) (h : AOk a) : AOk (tickA x a) := ⟨h.q, h.br, h.bb, Zrg h.bt h.br hx h.bb, h.n, h.sz⟩
theorem Zkv {x df seq x5 : Int} {s : List UInt8} {b1 b2 : Bool} {r1 r2 r : List D} {n : Nat} {l1 l2 : List Int} {g : Nat → A} (hR : Rep r n g) (hx : U x) (hn : n ≤ 1000000) (hg : ∀ i, i < n → AOk (g i)) :
  ∃ r', Z28 x s b1 df seq r1 r2 n x5 b2 r l1 l2 = some r' ∧ Rep r' n fun i => tickA x (g i) := by
 unfold Z28
 have key : ∀ (m i : Nat) (r4 : List D), i + m = n → Rep r4 n (fun j => if j < i then tickA x (g j) else g j) → ∃ r', iter (Z5i n x) ((i : Int), r4) = some r' ∧ Rep r' n fun i => tickA x (g i) := by
  intro m
  induction m with
  | zero =>
   intro i r4 hi h4
   refine ⟨r4, ?_, h4.congr fun j hj => by simp [show j < i by omega]⟩
   apply Za
   unfold Z5i
   dsimp only
   rw [if_neg (by rw [pilt]; simp only [ofN]; omega)]
  | succ m ih =>
   intro i r4 hi h4
   have hin : i < n := by omega
   obtain ⟨ring, f, he, hq⟩ := h4.at_ i hin
   simp only [Nat.lt_irrefl, if_false] at he hq
   have he' : getD r4 i = encA (g i) ring f := he
   have hA := hg i hin
   have ht : Z1w (g i).br (g i).bb (g i).bt x = some (fillA (g i).bt (g i).br x (g i).bb) := by
    unfold Z1w
    rw [Ztx hA.bt hA.br hx, Z8]
   obtain ⟨r', h1, h2⟩ := ih (i + 1) (setD r4 i (encA (tickA x (g i)) ring f)) (by omega) (h4.set hin ⟨ring, f, by simp, by simpa [tickA] using hq⟩ fun j _ hj => by
    by_cases c : j < i
    ·simp [c, show j < i + 1 by omega]
    simp [c, show ¬ j < i + 1 by omega])
   refine ⟨r', ?_, h2⟩
   rw [← h1]
   apply Ze
   unfold Z5i
   dsimp only
   rw [if_pos (by rw [pilt]; simp only [ofN]; omega), if_pos (by simp only [ofN]; omega), ptoN, he']
   show bindO (Z1w (g i).br (g i).bb (g i).bt x) _ = _
   rw [ht, Z8, pnext (by omega)]
   rfl
 exact key n 0 r (by omega) (hR.congr fun j _ => by simp)
def viewA (up : Bool) (a : A) : Int × Bool := match a.l with
 | [] => (0, false)
 | p :: _ => (p.2.2, up && (!a.sh || decide (p.2.2 ≤ a.bt)))
def vD (v : Int × Bool) : D := .l [.i v.1, .b v.2]
theorem Zyi {up : Bool} {a : A} (h : AOk a) : U (viewA up a).1 := by
 unfold viewA U
 cases hl : a.l with
 | nil => simp
 | cons p l => have := h.sz p (by rw [hl]; simp); simp; omega
theorem Zum {s s2 : List UInt8} {up b3 : Bool} {df seq x3 x4 x5 x6 x7 x8 x10 : Int} {r1 r2 r3 ring : List D} {n n2 f : Nat} {l1 l2 : List Int} {a : A} (hA : AOk a) (hq : QR f a.l.length ring a.l) :
  Z3h s up df seq s2 x3 x4 x5 x6 a.sh x7 x8 a.bt r1 r2 n x10 b3 a.ql (f : Int) (a.l.length : Int) r3 n2 l1 l2 ring = some (viewA up a) := by
 unfold Z3h viewA
 rw [Zkj hq, Z8]
 cases hl : a.l with
 | nil => rfl
 | cons p l =>
  have hp := hA.sz p (by rw [hl]; simp)
  simp only [headOf, if_true]
  have e : iconv .u64 p.2.2 = p.2.2 := by simp only [iconv]; exact pu64 (by omega) (by omega)
  rw [e]
  cases up <;> cases a.sh <;> simp [ile]
def viewsS (up : Bool) (n : Nat) (g : Nat → A) : List D := (List.range n).map fun i => vD (viewA up (g i))
def popA (a : A) (p : Pk) (l : List Pk) : A := { a with l := l, bt := if a.sh = true then (if a.bt < p.2.2 then a.bt else a.bt - p.2.2) else a.bt }
def goS (g : Nat → A) (i : Nat) : Pk × (Nat → A) := match (g i).l with
 | [] => ((0, 0, 0), g)
 | p :: l => (p, updA g i (popA (g i) p l))
def nextS (up : Bool) (n : Nat) (g : Nat → A) (q : List Int) (t : Int) (ad : Bool) (d : List Int) : (Pk × List UInt8 × Bool) × (Int × Bool × List Int) × (Nat → A) :=
 let v := nextF q (viewsS up n g) t ad d
 if v.1 < 0 then (((0, 0, 0), [], false), v.2, g)
 else (((goS g v.1.toNat).1, (g v.1.toNat).key, true), v.2, (goS g v.1.toNat).2)
theorem Zyk {q : List Int} {t : Int} {d : List Int} {ad : Bool} {sz : Int} {may : Bool} (h : (visF q t ad d sz may).1 = true) : sz ≠ 0 ∧ may = true ∧ (visF q t ad d sz may).2.1 = t := by
 unfold visF at h ⊢
 by_cases c : sz = 0 ∨ may = false
 ·rw [if_pos c] at h; cases h
 rw [if_neg c] at h ⊢
 by_cases c2 : visL q t ad d < sz
 ·rw [if_pos c2] at h; cases h
 rw [if_neg c2]
 refine ⟨fun e => c (.inl e), ?_, rfl⟩
 cases may with
 | true => rfl
 | false => exact absurd (.inr rfl) c
theorem Zjl {q : List Int} {L : List D} (hv : ∀ x ∈ L, U (vSz x)) (hL : L.length = q.length) : ∀ (n : Nat) (t : Int) (ad : Bool) (d : List Int), RingOk q t d →
  RingOk q (nextGo q L n t ad d).2.1 (nextGo q L n t ad d).2.2.2 ∧ ((nextGo q L n t ad d).1 = -1 ∨ (0 ≤ (nextGo q L n t ad d).1 ∧ (nextGo q L n t ad d).1 < q.length ∧ vSz (L.getD (nextGo q L n t ad d).1.toNat (.i 0)) ≠ 0 ∧ vMay (L.getD (nextGo q L n t ad d).1.toNat (.i 0)) = true))
 | 0, t, ad, d, h => ⟨h, .inl rfl⟩
 | n + 1, t, ad, d, h => by
  have h0 := h.t0; have h1 := h.tn
  have hl : t.toNat < L.length := by omega
  have hU : U (vSz (L.getD t.toNat (.i 0))) := by
   have : L.getD t.toNat (.i 0) = L[t.toNat] := by simp [hl]
   rw [this]; exact hv _ (List.getElem_mem hl)
  have hok := Znw (ad := ad) (may := vMay (L.getD t.toNat (.i 0))) h hU
  have hgo := Zyk (q := q) (t := t) (ad := ad) (d := d) (sz := vSz (L.getD t.toNat (.i 0))) (may := vMay (L.getD t.toNat (.i 0)))
  unfold nextGo
  revert hok hgo
  rcases visF q t ad d (vSz (L.getD t.toNat (.i 0))) (vMay (L.getD t.toNat (.i 0))) with ⟨b, t', ad', d'⟩
  cases b with
  | true =>
   intro hok hgo
   obtain ⟨g1, g2, g3⟩ := hgo rfl
   dsimp only at g3 ⊢
   subst g3
   exact ⟨hok, .inr ⟨h0, h1, g1, g2⟩⟩
  | false =>
   intro hok _
   exact Zjl hv hL n t' ad' d' hok
theorem Z83 {up : Bool} {n : Nat} {g : Nat → A} : (viewsS up n g).length = n := by simp [viewsS]
theorem Zyj {up : Bool} {n i : Nat} {g : Nat → A} (h : i < n) : (viewsS up n g).getD i (.i 0) = vD (viewA up (g i)) := by simp [viewsS, h]
theorem Znv {up : Bool} {n : Nat} {g : Nat → A} (hg : ∀ i, i < n → AOk (g i)) : ∀ x ∈ viewsS up n g, U (vSz x) := by
 intro x hx
 obtain ⟨i, hi, rfl⟩ := List.mem_map.1 hx
 exact Zyi (hg i (by simpa using hi))
theorem Zjm {up : Bool} {n : Nat} {g : Nat → A} {q : List Int} {t : Int} {ad : Bool} {d : List Int} (hg : ∀ i, i < n → AOk (g i)) (hq : q.length = n) (h : RingOk q t d) :
  RingOk q (nextF q (viewsS up n g) t ad d).2.1 (nextF q (viewsS up n g) t ad d).2.2.2 ∧ ((nextF q (viewsS up n g) t ad d).1 = -1 ∨ ∃ (i : Nat) (p : Pk) (l : List Pk), (nextF q (viewsS up n g) t ad d).1 = (i : Int) ∧ i < n ∧ (g i).l = p :: l ∧ up = true ∧ ((g i).sh = true → p.2.2 ≤ (g i).bt)) := by
 have hv := Znv (up := up) hg
 unfold nextF
 rw [if_pos (by rw [Z83, hq])]
 have h0 := h.t0; have h1 := h.tn
 rw [if_neg (by rw [Z83]; omega)]
 obtain ⟨h2, h3⟩ := Zjl hv (by rw [Z83, hq]) ((viewsS up n g).length + 1) t ad d h
 refine ⟨h2, h3.imp id ?_⟩
 rintro ⟨h4, h5, h6, h7⟩
 generalize (nextGo q (viewsS up n g) ((viewsS up n g).length + 1) t ad d).1 = y at *
 obtain ⟨i, rfl⟩ := Int.eq_ofNat_of_zero_le h4
 have hin : i < n := by omega
 rw [Int.toNat_natCast, Zyj hin] at h6 h7
 cases hl : (g i).l with
 | nil => exact absurd (by simp [viewA, hl, vD, vSz, D.fld, D.toL, D.toI]) h6
 | cons p l =>
  have h8 : (up && (!(g i).sh || decide (p.2.2 ≤ (g i).bt))) = true := by
   have : vMay (vD (viewA up (g i))) = (viewA up (g i)).2 := rfl
   rw [this] at h7
   simpa [viewA, hl] using h7
  simp only [Bool.and_eq_true, Bool.or_eq_true, Bool.not_eq_true', decide_eq_true_eq] at h8
  refine ⟨i, p, l, rfl, hin, hl, h8.1, fun hs => ?_⟩
  rcases h8.2 with h9 | h9
  ·rw [hs] at h9; cases h9
  exact h9
theorem Z7i {s : List UInt8} {up ad : Bool} {df seq t : Int} {r1 r2 r : List D} {n : Nat} {q d : List Int} {g : Nat → A} (hR : Rep r n g) (hn : n ≤ 1000) (hg : ∀ i, i < n → AOk (g i)) (hq : q.length = n) (h : RingOk q t d) :
  ∃ r', Zz s up df seq r1 r2 n t ad r q d = some ((nextS up n g q t ad d).1.1.1, (nextS up n g q t ad d).1.1.2.1, (nextS up n g q t ad d).1.1.2.2, (nextS up n g q t ad d).1.2.1, (nextS up n g q t ad d).1.2.2,
   (nextS up n g q t ad d).2.1.1, (nextS up n g q t ad d).2.1.2.1, (nextS up n g q t ad d).2.1.2.2, r') ∧ Rep r' n (nextS up n g q t ad d).2.2 := by
 unfold Zz
 have key : ∀ (m i : Nat), i + m = n → iter (Z1r n s up df seq r1 r2 t ad q d) ((i : Int), viewsS up i g, r) = iter (Z1r n s up df seq r1 r2 t ad q d) ((n : Int), viewsS up n g, r) := by
  intro m
  induction m with
  | zero =>
   intro i hi
   have : i = n := by omega
   subst this
   rfl
  | succ m ih =>
   intro i hi
   have hin : i < n := by omega
   rw [← ih (i + 1) (by omega)]
   apply Ze
   obtain ⟨ring, f, he, hqr⟩ := hR.at_ i hin
   have he' : getD r i = encA (g i) ring f := he
   unfold Z1r
   dsimp only
   rw [if_pos (by rw [pilt]; simp only [ofN]; omega), if_pos (by simp only [ofN]; omega), ptoN, he']
   have hv := Zum (s := s) (s2 := (g i).key) (up := up) (b3 := ad) (df := df) (seq := seq) (x3 := (g i).q) (x4 := (g i).r) (x5 := (g i).b) (x6 := (g i).lim) (x7 := (g i).br) (x8 := (g i).bb) (x10 := t) (r1 := r1) (r2 := r2) (r3 := r) (n := n) (n2 := i) (l1 := q) (l2 := d) (hg i hin) hqr
   refine (congrArg (fun o => bindO o _) hv).trans ?_
   rw [Z8]
   have hb : viewsS up (i + 1) g = viewsS up i g ++ [vD (viewA up (g i))] := by simp [viewsS, List.range_succ]
   have hl : (viewsS up i g).length = i := Z83
   rw [hb]
   generalize viewsS up i g = V at *
   generalize hw : viewA up (g i) = w
   obtain ⟨w1, w2⟩ := w
   dsimp only
   rw [if_pos (by simp only [xlen, List.length_cons, List.length_nil]; omega), pnext (by omega)]
   have hset : setD r i (encA (g i) ring f) = r := Z6f he'
   exact congrArg (fun z => some (Sum.inl (((i + 1 : Nat) : Int), V ++ [vD (w1, w2)], z))) hset
 have k0 := key n 0 (by omega)
 rw [show viewsS up 0 g = [] from rfl] at k0
 have k1 : iter (Z1r n s up df seq r1 r2 t ad q d) ((0 : Int), ([] : List D), r) = iter (Z1r n s up df seq r1 r2 t ad q d) ((n : Int), viewsS up n g, r) := k0
 rw [k1]
 obtain ⟨hok, hgo⟩ := Zjm (up := up) (ad := ad) hg hq h
 have hF : Z1z (viewsS up n g) t ad q d = some (nextF q (viewsS up n g) t ad d) := Zu8 (fun _ _ => h) (Znv hg)
 unfold nextS
 generalize hNF : nextF q (viewsS up n g) t ad d = v at *
 obtain ⟨v1, v2, v3, v4⟩ := v
 dsimp only at hok hgo ⊢
 have main : ∃ r', Z1r n s up df seq r1 r2 t ad q d ((n : Int), viewsS up n g, r) = some (.inr ((if v1 < 0 then (((0, 0, 0), [], false), (v2, v3, v4), g) else (((goS g v1.toNat).1, (g v1.toNat).key, true), (v2, v3, v4), (goS g v1.toNat).2)).1.1.1, (if v1 < 0 then ((((0, 0, 0) : Pk), ([] : List UInt8), false), (v2, v3, v4), g) else (((goS g v1.toNat).1, (g v1.toNat).key, true), (v2, v3, v4), (goS g v1.toNat).2)).1.1.2.1, (if v1 < 0 then ((((0, 0, 0) : Pk), ([] : List UInt8), false), (v2, v3, v4), g) else (((goS g v1.toNat).1, (g v1.toNat).key, true), (v2, v3, v4), (goS g v1.toNat).2)).1.1.2.2, (if v1 < 0 then ((((0, 0, 0) : Pk), ([] : List UInt8), false), (v2, v3, v4), g) else (((goS g v1.toNat).1, (g v1.toNat).key, true), (v2, v3, v4), (goS g v1.toNat).2)).1.2.1, (if v1 < 0 then ((((0, 0, 0) : Pk), ([] : List UInt8), false), (v2, v3, v4), g) else (((goS g v1.toNat).1, (g v1.toNat).key, true), (v2, v3, v4), (goS g v1.toNat).2)).1.2.2, v2, v3, v4, r')) ∧ Rep r' n (if v1 < 0 then g else (goS g v1.toNat).2) := by
  unfold Z1r
  dsimp only
  rw [if_neg (by rw [pilt]; simp only [ofN]; omega), hF, Z8]
  dsimp only
  rcases hgo with rfl | ⟨i, p, l, rfl, hin, hl, hup, hsh⟩
  ·exact ⟨r, by rw [if_pos (by rw [pilt]; omega)]; rfl, hR⟩
  have hneg : ¬ ((i : Int) < 0) := by omega
  simp only [if_neg hneg]
  rw [if_neg (by rw [pilt]; omega), if_pos (by simp only [ofN]; omega), ptoN]
  simp only [Int.toNat_natCast]
  obtain ⟨ring, f, he, hqr⟩ := hR.at_ i hin
  have he' : getD r i = encA (g i) ring f := he
  rw [he']
  have hA := hg i hin
  have hnn := hA.n
  rcases Zua (lim := (g i).ql) hqr (by omega) with ⟨e, _⟩ | ⟨p', l', f', e, hp, hQ⟩
  ·rw [hl] at e; cases e
  rw [hl] at e
  obtain ⟨rfl, rfl⟩ := List.cons.inj e
  have hp2 := hA.sz p (by rw [hl]; simp)
  have ec : iconv .u64 p.2.2 = p.2.2 := by simp only [iconv]; exact pu64 (by omega) (by omega)
  have hgS : goS g i = (p, updA g i (popA (g i) p l)) := by unfold goS; rw [hl]
  rw [hgS]
  have hlen : (g i).l.length - 1 = l.length := by rw [hl]; simp
  rw [hlen] at hp hQ
  show ∃ r', bindO (Z1o (g i).ql (f : Int) ((g i).l.length : Int) ring) _ = _ ∧ _
  rw [hp, Z8]
  dsimp only
  have fin : ∀ bt', bt' = (popA (g i) p l).bt → Rep (setD r i (encA { g i with bt := bt', l := l } ring f')) n (updA g i (popA (g i) p l)) := by
   rintro _ rfl
   refine hR.set hin ⟨ring, f', by simp only [updA, if_true]; rfl, by simpa [updA, popA] using hQ⟩ fun j _ hj => by simp [updA, hj]
  by_cases cs : (g i).sh = true
  ·have ht : Z2v (g i).br (g i).bb (g i).bt p.2.2 = some ((g i).bt - p.2.2, true) := by
    have := hsh cs
    have := hA.bt.hi
    unfold Z2v
    rw [if_neg (by rw [pilt]; omega)]
    have e5 : isub .u64 (g i).bt p.2.2 = (g i).bt - p.2.2 := by simp only [isub]; exact pu64 (by omega) (by omega)
    rw [e5]
   refine ⟨_, ?_, fin ((g i).bt - p.2.2) (by have := hsh cs; simp only [popA]; rw [if_pos cs, if_neg (by omega)])⟩
   refine (if_pos (show (g i).sh = true from cs)).trans ?_
   rw [ec]
   refine (congrArg (fun o => bindO o _) ht).trans ?_
   rfl
  refine ⟨_, ?_, fin (g i).bt (by simp only [popA]; rw [if_neg cs])⟩
  refine (if_neg (show ¬ (g i).sh = true from cs)).trans ?_
  rfl
 obtain ⟨r', h1, h2⟩ := main
 refine ⟨r', Za ?_, ?_⟩
 ·rw [h1]
  by_cases c : v1 < 0
  ·simp only [if_pos c]
  simp only [if_neg c]
 by_cases c : v1 < 0
 ·simp only [if_pos c] at h2 ⊢; exact h2
 simp only [if_neg c] at h2 ⊢; exact h2
def allN (n : Nat) (P : Nat → Bool) : Bool := (List.range n).all P
theorem Z4q {n : Nat} {P : Nat → Bool} : allN n P = true ↔ ∀ i, i < n → P i = true := by
 simp [allN, List.all_eq_true]
theorem Z61 {B : Int → Option (Int ⊕ Bool)} {P : Nat → Bool} {n : Nat} {e : Bool} (hs : ∀ i, i < n → B (i : Int) = if P i = true then some (.inl ((i + 1 : Nat) : Int)) else some (.inr false))
  (he : B (n : Int) = some (.inr e)) : iter B (0 : Int) = some (allN n P && e) := by
 have key : ∀ (m i : Nat), i + m = n → (∀ j, j < i → P j = true) → iter B (i : Int) = some (allN n P && e) := by
  intro m
  induction m with
  | zero =>
   intro i hi hp
   have : i = n := by omega
   subst this
   rw [Za he, Z4q.2 hp, Bool.true_and]
  | succ m ih =>
   intro i hi hp
   by_cases c : P i = true
   ·rw [Ze ((hs i (by omega)).trans (if_pos c))]
    exact ih (i + 1) (by omega) fun j hj => by
     by_cases e : j = i
     ·subst e; exact c
     exact hp j (by omega)
   rw [Za ((hs i (by omega)).trans (if_neg c))]
   have : allN n P = false := by
    cases h : allN n P with
    | false => rfl
    | true => exact absurd (Z4q.1 h i (by omega)) c
   rw [this, Bool.false_and]
 exact key n 0 (by omega) fun j hj => by omega
def cKey (d : D) : List UInt8 := (d.fld 0).toS
def cQ (d : D) : Int := (d.fld 1).toI
def cLim (d : D) : Int := (d.fld 4).toI
def clsOk (r1 : List D) (i : Nat) : Bool :=
 !decide (cQ (getD r1 i) < 1500) && !decide (cLim (getD r1 i) < 1) && !decide (64 < cLim (getD r1 i)) && (decide (i = 0) || slt (cKey (getD r1 (i - 1))) (cKey (getD r1 i)))
def inN (n : Nat) (x : Int) : Bool := decide (0 ≤ x) && decide (x < (n : Int))
def rightB (r1 r2 : List D) (df : Int) : Bool :=
 !decide (r1.length < 1) && !decide (8 < r1.length) && inN r1.length df && (allN r1.length (clsOk r1) && (allN r2.length (fun i => inN r1.length ((getD r2 i).fld 2).toI) && true))
theorem Zkl {x : Int} {n : Nat} : Z12 x (ofN n) = some (inN n x) := by
 unfold Z12 inN
 simp only [pile]
 by_cases h : 0 ≤ x
 ·rw [if_pos h]; show some (decide (x < (n : Int))) = _; simp [h]
 rw [if_neg h]; simp [h]
theorem Zug {r1 r2 : List D} (hn : r1.length ≤ 1000000) (i : Nat) (hi : i < r1.length) : Z3b r1 r2 (i : Int) = if clsOk r1 i = true then some (.inl ((i + 1 : Nat) : Int)) else some (.inr false) := by
 unfold Z3b
 dsimp only
 rw [if_pos (by rw [pilt]; simp only [ofN, xlen]; omega), if_pos (by simp only [ofN, xlen]; omega), ptoN]
 unfold clsOk
 have e1 : D.toI (D.fld (getD r1 i) 1) = cQ (getD r1 i) := rfl
 have e2 : D.toI (D.fld (getD r1 i) 4) = cLim (getD r1 i) := rfl
 rw [e1, e2]
 simp only [pilt]
 by_cases c1 : cQ (getD r1 i) < 1500
 ·rw [if_pos c1]; simp [c1]
 rw [if_neg c1]
 by_cases c2 : cLim (getD r1 i) < 1
 ·rw [if_pos c2]; simp [c2]
 rw [if_neg c2]
 by_cases c3 : 64 < cLim (getD r1 i)
 ·rw [if_pos c3]; simp [c3]
 rw [if_neg c3]
 simp only [c1, c2, c3, decide_false, Bool.not_false, Bool.true_and]
 by_cases c4 : i = 0
 ·subst c4
  rw [if_neg (by omega), pnext (by omega)]
  simp
 rw [if_pos (by omega)]
 have e3 : isub .i64 (i : Int) 1 = ((i - 1 : Nat) : Int) := by simp only [isub]; rw [pwi64 (by omega) (by omega)]; omega
 rw [e3, if_pos (by simp only [ofN, xlen]; omega), ptoN, pnext (by omega)]
 simp only [c4, decide_false, Bool.false_or]
 rfl
theorem Z7j {s : List UInt8} {b : Bool} {r1 r2 : List D} {df : Int} (hn : r1.length ≤ 1000000) (hr : r2.length ≤ 1000000) : Z1f s b r1 r2 df = some (rightB r1 r2 df) := by
 unfold Z1f rightB
 simp only [pilt, ofN, xlen]
 by_cases c1 : r1.length < 1
 ·rw [if_pos (by omega)]; simp [c1]
 rw [if_neg (by omega)]
 by_cases c2 : 8 < r1.length
 ·rw [if_pos (by omega)]; simp [c2]
 rw [if_neg (by omega)]
 have hin : Z12 df (r1.length : Int) = some (inN r1.length df) := Zkl
 rw [hin, Z8]
 by_cases c3 : inN r1.length df = true
 ·rw [if_pos c3]
  simp only [c1, c2, c3, decide_false, Bool.not_false, Bool.true_and]
  refine Z61 (P := clsOk r1) (n := r1.length) (fun i hi => Zug hn i hi) ?_
  unfold Z3b
  dsimp only
  rw [if_neg (by rw [pilt]; simp only [ofN, xlen]; omega)]
  have := Z61 (B := Z3c r2 r1) (P := fun i => inN r1.length ((getD r2 i).fld 2).toI) (n := r2.length) (e := true) (fun i hi => by
   unfold Z3c
   dsimp only
   rw [if_pos (by rw [pilt]; simp only [ofN, xlen]; omega), if_pos (by simp only [ofN, xlen]; omega), ptoN]
   have h2 : Z12 (D.toI (D.fld (getD r2 i) 2)) (ofN (xlen r1)) = some (inN r1.length ((getD r2 i).fld 2).toI) := Zkl
   rw [h2, Z8, pnext (by omega)]) (by
   unfold Z3c
   dsimp only
   rw [if_neg (by rw [pilt]; simp only [ofN, xlen]; omega)])
  rw [this]
  rfl
 rw [if_neg c3]
 simp [c3]
structure RightP (r1 r2 : List D) (df : Int) : Prop where
 n1 : 1 ≤ r1.length
 n8 : r1.length ≤ 8
 df : 0 ≤ df ∧ df < (r1.length : Int)
 q : ∀ i, i < r1.length → 1500 ≤ cQ (getD r1 i)
 lim : ∀ i, i < r1.length → 1 ≤ cLim (getD r1 i) ∧ cLim (getD r1 i) ≤ 64
 keys : ∀ i, i + 1 < r1.length → slt (cKey (getD r1 i)) (cKey (getD r1 (i + 1))) = true
 rules : ∀ d ∈ r2, 0 ≤ (d.fld 2).toI ∧ (d.fld 2).toI < (r1.length : Int)
theorem Z6c {r1 r2 : List D} {df : Int} (h : rightB r1 r2 df = true) : RightP r1 r2 df := by
 unfold rightB at h
 simp only [Bool.and_eq_true, Bool.not_eq_true', decide_eq_false_iff_not, Z4q, and_true, inN, decide_eq_true_eq] at h
 obtain ⟨⟨⟨h1, h2⟩, h3⟩, h4, h5⟩ := h
 have h6 : ∀ i, i < r1.length → (¬ cQ (getD r1 i) < 1500) ∧ (¬ cLim (getD r1 i) < 1) ∧ (¬ 64 < cLim (getD r1 i)) ∧ (i = 0 ∨ slt (cKey (getD r1 (i - 1))) (cKey (getD r1 i)) = true) := fun i hi => by
  have := h4 i hi
  simp only [clsOk, Bool.and_eq_true, Bool.or_eq_true, Bool.not_eq_true', decide_eq_false_iff_not, decide_eq_true_eq] at this
  obtain ⟨⟨⟨a, b⟩, c⟩, d⟩ := this
  exact ⟨a, b, c, d⟩
 refine ⟨by omega, by omega, h3, fun i hi => ?_, fun i hi => ?_, fun i hi => ?_, fun d hd => ?_⟩
 ·obtain ⟨a, b, c, d⟩ := h6 i hi; omega
 ·obtain ⟨a, b, c, d⟩ := h6 i hi; omega
 ·obtain ⟨a, b, c, d⟩ := h6 (i + 1) hi
  rcases d with d | d
  ·omega
  simpa using d
 obtain ⟨j, hj, rfl⟩ := List.getElem_of_mem hd
 have := h5 j hj
 rw [pgetD hj] at this
 exact this
theorem Zl7 {s : List UInt8} {b : Bool} {x : Int} {r1 : List D} : Z1e s b x r1 = Z1f s b r1 [] x := by
 have hL : Z6j r1 = Z3b r1 [] := by
  funext i
  unfold Z6j Z3b
  have e1 : iter Z6k () = some true := Za (by unfold Z6k; rw [if_neg (by rw [pilt]; simp only [ofN]; omega)])
  have e2 : iter (Z3c [] r1) (0 : Int) = some true := Za (by unfold Z3c; dsimp only; rw [if_neg (by rw [pilt]; simp [ofN, xlen])])
  dsimp only
  rw [e1, e2]
 unfold Z1e Z1f
 rw [hL]
def freshA (d : D) : A := { key := cKey d, q := cQ d, r := (d.fld 2).toI, b := (d.fld 3).toI, lim := cLim d, sh := (d.fld 5).toB, br := (d.fld 2).toI, bb := (d.fld 3).toI, bt := (d.fld 3).toI, ql := cLim d, l := [] }
theorem Zcz {l : List D} (h : l.length ≤ 1000000) : cloneC l = some l := by
 unfold cloneC
 rw [if_pos (by simp only [xlen]; simp; omega)]
theorem Zd0 {l : List D} (h : l.length ≤ 1000000) : cloneR l = some l := by
 unfold cloneR
 rw [if_pos (by simp only [xlen]; simp; omega)]
theorem Zko {s : List UInt8} {b : Bool} {r1 r2 : List D} {x : Int} (hn : r1.length ≤ 1000000) (hr : r2.length ≤ 1000000) : Z2c s b r1 r2 x = some (r1, r2) := by
 unfold Z2c
 rw [Zcz hn, Z8]
 dsimp only
 rw [Zd0 hr]
 rfl
theorem Zcy {r1 q1 q2 : List D} (hn : r1.length ≤ 1000) : ∃ r', iter (Z29 r1 q1 q2) ((0 : Int), ([] : List Int), 0, ([] : List D)) = some (q1, q2, r1.length, r', r1.map cQ, List.replicate r1.length 0) ∧ Rep r' r1.length fun i => freshA (getD r1 i) := by
 have key : ∀ (m i : Nat) (r3 : List D), i + m = r1.length → r3.length = i → (∀ j, j < i → RC (r3.getD j (.i 0)) (freshA (getD r1 j))) →
   ∃ r', iter (Z29 r1 q1 q2) ((i : Int), (r1.take i).map cQ, i, r3) = some (q1, q2, r1.length, r', r1.map cQ, List.replicate r1.length 0) ∧ Rep r' r1.length fun i => freshA (getD r1 i) := by
  intro m
  induction m with
  | zero =>
   intro i r3 hi h3 hp
   have hi' : i = r1.length := by omega
   subst hi'
   refine ⟨r3, Za ?_, h3, hp⟩
   unfold Z29
   dsimp only
   rw [if_neg (by rw [pilt]; simp only [ofN, xlen]; omega), List.take_length, Zu5 (by simpa using hn), Z8]
   simp
  | succ m ih =>
   intro i r3 hi h3 hp
   have hl : i < r1.length := by omega
   obtain ⟨r', h1, h2⟩ := ih (i + 1) (r3 ++ [encA (freshA (getD r1 i)) [] 0]) (by omega) (by simp [h3]) (fun j hj => by
    by_cases e : j < i
    ·rw [Zcb (by omega)]; exact hp j e
    have : j = i := by omega
    subst this
    have : (r3 ++ [encA (freshA (getD r1 j)) [] 0]).getD j (.i 0) = encA (freshA (getD r1 j)) [] 0 := by
     rw [List.getD_eq_getElem?_getD, List.getElem?_append_right (by omega)]; simp [h3]
    rw [this]
    exact ⟨[], 0, rfl, QR.nil⟩)
   refine ⟨r', ?_, h2⟩
   rw [← h1]
   apply Ze
   unfold Z29
   dsimp only
   rw [if_pos (by rw [pilt]; simp only [ofN, xlen]; omega), if_pos (by simp only [ofN, xlen]; omega), ptoN]
   unfold Z1y
   rw [Z8]
   unfold Z22
   rw [Z8]
   rw [if_pos (by omega), if_pos (by simp only [xlen, List.length_map, List.length_take, List.length_cons, List.length_nil]; omega), pnext (by omega)]
   have e : (r1.take (i + 1)).map cQ = cat ((r1.take i).map cQ) [D.toI (D.fld (getD r1 i) 1)] := by
    rw [List.take_succ_eq_append_getElem hl, List.map_append, pgetD hl]; rfl
   rw [e]
   rfl
 exact key r1.length 0 [] (by omega) rfl fun j hj => by omega
theorem Ztp {s s2 : List UInt8} {b b2 : Bool} {r1 r2 : List D} {df x2 x3 : Int} (hn : r1.length ≤ 1000) (hr : r2.length ≤ 1000000) : ∃ r', Z3g s b r1 r2 df s2 b2 x2 x3 = some (r1, r2, r1.length, r', r1.map cQ, List.replicate r1.length 0) ∧ Rep r' r1.length fun i => freshA (getD r1 i) := by
 unfold Z3g
 rw [Zko (by omega) hr, Z8]
 exact Zcy hn
theorem Zu7 {s : List UInt8} {b : Bool} {r1 r2 : List D} {df : Int} (hn : r1.length ≤ 1000000) (hr : r2.length ≤ 1000000) :
  (rightB r1 r2 df = false ∧ Z27 s b r1 r2 df = some (.inl ())) ∨
  (rightB r1 r2 df = true ∧ ∃ r', Z27 s b r1 r2 df = some (.inr (r1, r2, r1.length, r', r1.map cQ, List.replicate r1.length 0)) ∧ Rep r' r1.length fun i => freshA (getD r1 i)) := by
 unfold Z27
 rw [Z7j hn hr, Z8]
 cases c : rightB r1 r2 df with
 | false => exact .inl ⟨rfl, rfl⟩
 | true =>
  have := (Z6c c).n8
  obtain ⟨r', h1, h2⟩ := Ztp (s := s) (s2 := []) (b := b) (b2 := false) (r1 := r1) (r2 := r2) (df := df) (x2 := 0) (x3 := 0) (by omega) hr
  refine .inr ⟨rfl, r', ?_, h2⟩
  rw [h1]
  rfl
theorem Zu6 {s : List UInt8} {b : Bool} {r1 : List D} {df : Int} (hn : r1.length ≤ 1000000) (hb : rightB r1 [] df = true) :
  ∃ r', Z39 s b df r1 = some (.inr (r1, [], r1.length, r', r1.map cQ, List.replicate r1.length 0)) ∧ Rep r' r1.length fun i => freshA (getD r1 i) := by
 unfold Z39
 rw [Zl7, Z7j hn (by simp), Z8, hb]
 have := (Z6c hb).n8
 have hL : Z87 r1 = Z29 r1 := rfl
 obtain ⟨r', h1, h2⟩ := Zcy (q1 := r1) (q2 := []) (r1 := r1) (by omega)
 refine ⟨r', ?_, h2⟩
 dsimp only
 rw [if_pos rfl]
 unfold Z4e Z4f
 rw [Zcz hn, Z8]
 dsimp only
 rw [Zd0 (by simp), Z8]
 dsimp only [bindO]
 rw [hL, h1]
def cntS : Nat → (Nat → A) → Nat
 | 0, _ => 0
 | n + 1, g => cntS n g + (g n).l.length
theorem Zu2 {s : List UInt8} {b b2 : Bool} {df seq x : Int} {r1 r2 r : List D} {n : Nat} {l1 l2 : List Int} {g : Nat → A} (hR : Rep r n g) (hn : n ≤ 1000) (hg : ∀ i, i < n → AOk (g i)) :
  Z3e s b df seq r1 r2 n x b2 r l1 l2 = some ((cntS n g : Int), r) := by
 unfold Z3e
 have hle : ∀ i, i ≤ n → cntS i g ≤ 100000 * i := by
  intro i
  induction i with
  | zero => intro _; simp [cntS]
  | succ i ih => intro h; have := ih (by omega); have := (hg i (by omega)).n; simp only [cntS]; omega
 have key : ∀ (m i : Nat), i + m = n → iter (Z5f n) ((cntS i g : Int), (i : Int), r) = some ((cntS n g : Int), r) := by
  intro m
  induction m with
  | zero =>
   intro i hi
   have : i = n := by omega
   subst this
   apply Za
   unfold Z5f
   dsimp only
   rw [if_neg (by rw [pilt]; simp only [ofN]; omega)]
  | succ m ih =>
   intro i hi
   have hin : i < n := by omega
   rw [← ih (i + 1) (by omega)]
   obtain ⟨ring, f, he, hq⟩ := hR.at_ i hin
   have he' : getD r i = encA (g i) ring f := he
   have := hle i (by omega)
   have := (hg i hin).n
   apply Ze
   unfold Z5f Z1b
   dsimp only [bindO]
   rw [if_pos (by rw [pilt]; simp only [ofN]; omega), if_pos (by simp only [ofN]; omega), ptoN, he', pnext (by omega)]
   have e : iadd .i64 (cntS i g : Int) ((g i).l.length : Int) = ((cntS (i + 1) g : Nat) : Int) := by simp only [iadd, cntS]; rw [pwi64 (by omega) (by omega)]; omega
   have hset : setD r i (encA (g i) ring f) = r := Z6f he'
   rw [← e]
   exact congrArg (fun z => some (Sum.inl (_, _, z))) hset
 exact key n 0 (by omega)
theorem Ztl {lim : Int} {f n : Nat} {r : List D} {l : List Pk} (h : QR f n r l) (hn : n ≤ 400000) : Z30 lim (f : Int) (n : Int) r = some (l.map mkP) := by
 unfold Z30 Z1b
 dsimp only [bindO]
 have hle := h.le
 have hbig := h.big
 have hl := h.hn
 have key : ∀ (m i : Nat), i + m = n → iter (Z5c (n : Int) lim (f : Int) r) ((i : Int), (l.take i).map mkP) = some (l.map mkP) := by
  intro m
  induction m with
  | zero =>
   intro i hi
   apply Za
   unfold Z5c
   dsimp only
   rw [if_neg (by rw [pilt]; omega), List.take_of_length_le (by omega)]
  | succ m ih =>
   intro i hi
   have hf : f < r.length := by rcases h.hf with hf | ⟨rfl, _⟩; exact hf; simp at hle; omega
   have hlt : (f + i) % r.length < r.length := Nat.mod_lt _ (by omega)
   rw [← ih (i + 1) (by omega)]
   apply Ze
   unfold Z5c
   dsimp only
   rw [if_pos (by rw [pilt]; omega), Z7h (by omega) (by omega) (by omega), Z8]
   rw [if_pos (by simp only [ofN, xlen]; omega), if_pos (by simp only [xlen, List.length_map, List.length_take, List.length_cons, List.length_nil]; omega), pnext (by omega), ptoN]
   have e : (l.take (i + 1)).map mkP = cat ((l.take i).map mkP) [mkP (pk (getD r ((f + i) % r.length)))] := by
    have h3 : pk (getD r ((f + i) % r.length)) = l[i]'(by omega) := h.at_ i (by omega)
    rw [List.take_succ_eq_append_getElem (by omega), List.map_append, h3]; rfl
   rw [e]
   rfl
 exact key n 0 (by omega)
def queuesS (n : Nat) (g : Nat → A) : List D := (List.range n).map fun i => .l ((g i).l.map mkP)
theorem Zkr {s : List UInt8} {b b2 : Bool} {df seq x : Int} {r1 r2 r : List D} {n : Nat} {l1 l2 : List Int} {g : Nat → A} (hR : Rep r n g) (hn : n ≤ 1000) (hg : ∀ i, i < n → AOk (g i)) :
  Z2b s b df seq r1 r2 n x b2 r l1 l2 = some (queuesS n g, r) := by
 unfold Z2b
 have key : ∀ (m i : Nat), i + m = n → iter (Z5j n) ((i : Int), queuesS i g, r) = some (queuesS n g, r) := by
  intro m
  induction m with
  | zero =>
   intro i hi
   have : i = n := by omega
   subst this
   apply Za
   unfold Z5j
   dsimp only
   rw [if_neg (by rw [pilt]; simp only [ofN]; omega)]
  | succ m ih =>
   intro i hi
   have hin : i < n := by omega
   rw [← ih (i + 1) (by omega)]
   obtain ⟨ring, f, he, hq⟩ := hR.at_ i hin
   have he' : getD r i = encA (g i) ring f := he
   have := (hg i hin).n
   have hb : queuesS (i + 1) g = cat (queuesS i g) [.l ((g i).l.map mkP)] := by simp [queuesS, List.range_succ, cat]
   have hl : (queuesS i g).length = i := by simp [queuesS]
   apply Ze
   unfold Z5j
   dsimp only
   rw [if_pos (by rw [pilt]; simp only [ofN]; omega), if_pos (by simp only [ofN]; omega), ptoN, he']
   refine (congrArg (fun o => bindO o _) (Ztl (lim := (g i).ql) hq (by omega))).trans ?_
   rw [Z8]
   rw [if_pos (by simp only [xlen, List.length_cons, List.length_nil]; omega), pnext (by omega), hb]
   have hset : setD r i (encA (g i) ring f) = r := Z6f he'
   exact congrArg (fun z => some (Sum.inl (_, _, z))) hset
 exact key n 0 (by omega)
def tokensS (n : Nat) (g : Nat → A) : List Int := (List.range n).map fun i => (g i).bt
theorem Zd2 {s : List UInt8} {b b2 : Bool} {df seq x : Int} {r1 r2 r : List D} {n : Nat} {l1 l2 : List Int} {g : Nat → A} (hR : Rep r n g) (hn : n ≤ 1000) (h2 : l2.length ≤ 1000) (hg : ∀ i, i < n → AOk (g i)) :
  Z10 s b df seq r1 r2 n x b2 r l1 l2 = some (tokensS n g, l2, queuesS n g, r) := by
 unfold Z10
 rw [Zul h2, Z8]
 dsimp only
 rw [Zkr hR hn hg, Z8]
 dsimp only
 have key : ∀ (m i : Nat), i + m = n → iter (Z5h n l2 (queuesS n g)) ((i : Int), r, tokensS i g) = some (tokensS n g, l2, queuesS n g, r) := by
  intro m
  induction m with
  | zero =>
   intro i hi
   have : i = n := by omega
   subst this
   apply Za
   unfold Z5h
   dsimp only
   rw [if_neg (by rw [pilt]; simp only [ofN]; omega)]
  | succ m ih =>
   intro i hi
   have hin : i < n := by omega
   rw [← ih (i + 1) (by omega)]
   obtain ⟨ring, f, he, hq⟩ := hR.at_ i hin
   have he' : getD r i = encA (g i) ring f := he
   have hb : tokensS (i + 1) g = cat (tokensS i g) [(g i).bt] := by simp [tokensS, List.range_succ, cat]
   have hl : (tokensS i g).length = i := by simp [tokensS]
   apply Ze
   unfold Z5h
   dsimp only
   rw [if_pos (by rw [pilt]; simp only [ofN]; omega), if_pos (by simp only [ofN]; omega), ptoN, he']
   rw [if_pos (by simp only [xlen, List.length_cons, List.length_nil]; omega), pnext (by omega), hb]
   have hset : setD r i (encA (g i) ring f) = r := Z6f he'
   exact congrArg (fun z => some (Sum.inl (_, z, _))) hset
 exact key n 0 (by omega)
theorem Zkh {x y z : List D} (h : x.length + y.length + z.length ≤ 1000000) : Z2d [(D.l x), (D.l y), (D.l z)] = some (x ++ y ++ z) := by
 have g0 : getD [(D.l x), (D.l y), (D.l z)] (toN 0) = .l x := rfl
 have g1 : getD [(D.l x), (D.l y), (D.l z)] (toN 1) = .l y := rfl
 have g2 : getD [(D.l x), (D.l y), (D.l z)] (toN 2) = .l z := rfl
 have t : ∀ l, D.toL (.l l) = l := fun l => rfl
 have i0 : iadd .i64 (0 : Int) 1 = 1 := by decide
 have i1 : iadd .i64 (1 : Int) 1 = 2 := by decide
 have i2 : iadd .i64 (2 : Int) 1 = 3 := by decide
 have hx : ofN (xlen [(D.l x), (D.l y), (D.l z)]) = 3 := rfl
 have s0 : iadd .i64 (0 : Int) (ofN (xlen x)) = ((x.length : Nat) : Int) := by simp only [iadd, ofN, xlen]; rw [pwi64 (by omega) (by omega)]; omega
 have s1 : iadd .i64 ((x.length : Nat) : Int) (ofN (xlen y)) = ((x.length + y.length : Nat) : Int) := by simp only [iadd, ofN, xlen]; rw [pwi64 (by omega) (by omega)]; omega
 have s2 : iadd .i64 ((x.length + y.length : Nat) : Int) (ofN (xlen z)) = ((x.length + y.length + z.length : Nat) : Int) := by simp only [iadd, ofN, xlen]; rw [pwi64 (by omega) (by omega)]; omega
 have l0 : cat ([] : List D) x = x := by simp [cat]
 have l1 : cat x y = x ++ y := rfl
 have l2 : cat (x ++ y) z = x ++ y ++ z := rfl
 have body2 : iter (Z2e [(D.l x), (D.l y), (D.l z)]) ((0 : Int), ([] : List D)) = some (x ++ y ++ z) := by
  rw [Ze (y := ((1 : Int), x)), Ze (y := ((2 : Int), x ++ y)), Ze (y := ((3 : Int), x ++ y ++ z))]
  ·apply Za
   unfold Z2e
   dsimp only
   rw [hx, if_neg (by rw [pilt]; omega)]
  ·unfold Z2e
   dsimp only
   rw [hx, if_pos (by rw [pilt]; omega), if_pos (by omega), g2, t, if_pos (by simp only [xlen, List.length_append]; omega), i2, l2]
  ·unfold Z2e
   dsimp only
   rw [hx, if_pos (by rw [pilt]; omega), if_pos (by omega), g1, t, if_pos (by simp only [xlen]; omega), i1, l1]
  unfold Z2e
  dsimp only
  rw [hx, if_pos (by rw [pilt]; omega), if_pos (by omega), g0, t, if_pos (by simp only [xlen, List.length_nil]; omega), i0, l0]
 have e3 : Z88 [(D.l x), (D.l y), (D.l z)] = Z2e [(D.l x), (D.l y), (D.l z)] := funext fun v => rfl
 unfold Z2d
 rw [Ze (y := (((x.length : Nat) : Int), (1 : Int))), Ze (y := (((x.length + y.length : Nat) : Int), (2 : Int))), Ze (y := (((x.length + y.length + z.length : Nat) : Int), (3 : Int)))]
 ·apply Za
  unfold Z4h
  dsimp only
  rw [hx, if_neg (by rw [pilt]; omega), e3, body2]
  unfold growP
  rw [if_neg (by omega)]
  by_cases h0 : ((x.length + y.length + z.length : Nat) : Int) = 0
  ·rw [if_pos h0]; rfl
  rw [if_neg h0, if_pos (by omega)]; rfl
 ·unfold Z4h
  dsimp only
  rw [hx, if_pos (by rw [pilt]; omega), if_pos (by omega), g2, t, s2, if_neg (by rw [pilt]; omega), i2]
 ·unfold Z4h
  dsimp only
  rw [hx, if_pos (by rw [pilt]; omega), if_pos (by omega), g1, t, s1, if_neg (by rw [pilt]; omega), i1]
 unfold Z4h
 dsimp only
 rw [hx, if_pos (by rw [pilt]; omega), if_pos (by omega), g0, t, s0, if_neg (by rw [pilt]; omega), i0]
def mrg : List Pk → List Pk → List Pk
 | [], b => b
 | x :: a, [] => x :: a
 | x :: a, y :: b => if y.1 < x.1 then y :: mrg (x :: a) b else x :: mrg a (y :: b)
termination_by a b => a.length + b.length
theorem Z7f : ∀ (n : Nat) (a b : List Pk), a.length + b.length ≤ n → (mrg a b).length = a.length + b.length
 | n, [], b, h => by simp [mrg]
 | n, x :: a, [], h => by simp [mrg]
 | 0, x :: a, y :: b, h => by simp at h
 | n + 1, x :: a, y :: b, h => by
  simp only [List.length_cons] at h
  unfold mrg
  split
  ·simp only [List.length_cons, Z7f n (x :: a) b (by simp only [List.length_cons]; omega)]; omega
  simp only [List.length_cons, Z7f n a (y :: b) (by simp only [List.length_cons]; omega)]; omega
theorem tail1 (d : D) (t : List D) : lsub (d :: t) (toN (1 : Int)) (ndec (xlen (d :: t)) (toN (1 : Int))) = t := by
 show ((d :: t).drop 1).take ((d :: t).length - 1) = t
 simp
theorem getD0 (d : D) (t : List D) : getD (d :: t) (toN (0 : Int)) = d := rfl
theorem lenc (d : D) (t : List D) : ofN (xlen (d :: t)) = (t.length : Int) + 1 := by simp [ofN, xlen]
theorem len0 : ofN (xlen ([] : List D)) = 0 := rfl
theorem Zd1 : ∀ (n : Nat) (a b out : List D), a.length + b.length ≤ n → out.length + a.length + b.length ≤ 1000000 → ∃ q, iter Z2z (a, b, out) = some q ∧ q.map pk = out.map pk ++ mrg (a.map pk) (b.map pk)
 | n, [], b, out, h, hb => by
  refine ⟨out ++ [] ++ b, ?_, by simp [mrg]⟩
  apply Za
  unfold Z2z
  dsimp only
  rw [len0, if_neg (by rw [pilt]; omega), Zkh (by omega), Z8]
 | n, d :: a, [], out, h, hb => by
  refine ⟨out ++ (d :: a) ++ [], ?_, by simp [mrg]⟩
  apply Za
  unfold Z2z
  dsimp only
  rw [lenc, if_pos (by rw [pilt]; omega), len0, if_neg (by rw [pilt]; omega), Zkh (by omega), Z8]
 | 0, d :: a, e :: b, out, h, hb => by simp at h
 | n + 1, d :: a, e :: b, out, h, hb => by
  simp only [List.length_cons] at h hb
  by_cases c : (pk e).1 < (pk d).1
  ·obtain ⟨q, h1, h2⟩ := Zd1 n (d :: a) b (out ++ [D.l [D.i (D.toI (D.fld e 0)), D.i (D.toI (D.fld e 1)), D.i (D.toI (D.fld e 2))]]) (by simp only [List.length_cons]; omega) (by simp only [List.length_cons, List.length_append, List.length_nil]; omega)
   refine ⟨q, ?_, ?_⟩
   ·rw [← h1]
    apply Ze
    unfold Z2z
    dsimp only
    have c' : (D.toI (D.fld e 0)) < (D.toI (D.fld d 0)) := c
    rw [tail1, getD0, getD0, lenc, lenc, if_pos (by rw [pilt]; omega), if_pos (by rw [pilt]; omega), if_pos (by omega), if_pos (by omega), if_pos (by rw [pilt]; exact c'), if_pos (by omega), if_pos (by simp only [xlen, List.length_cons, List.length_nil]; omega), if_pos (by omega)]
    rfl
   rw [h2]
   simp only [List.map_cons, List.map_append, List.map_nil, List.append_assoc]
   congr 1
   rw [mrg, if_pos c]
   rfl
  obtain ⟨q, h1, h2⟩ := Zd1 n a (e :: b) (out ++ [D.l [D.i (D.toI (D.fld d 0)), D.i (D.toI (D.fld d 1)), D.i (D.toI (D.fld d 2))]]) (by simp only [List.length_cons]; omega) (by simp only [List.length_cons, List.length_append, List.length_nil]; omega)
  refine ⟨q, ?_, ?_⟩
  ·rw [← h1]
   apply Ze
   unfold Z2z
   dsimp only
   have c' : ¬ (D.toI (D.fld e 0)) < (D.toI (D.fld d 0)) := c
   rw [tail1, getD0, getD0, lenc, lenc, if_pos (by rw [pilt]; omega), if_pos (by rw [pilt]; omega), if_pos (by omega), if_pos (by omega), if_neg (by rw [pilt]; exact c'), if_pos (by omega), if_pos (by simp only [xlen, List.length_cons, List.length_nil]; omega), if_pos (by omega), tail1]
   rfl
  rw [h2]
  simp only [List.map_cons, List.map_append, List.map_nil, List.append_assoc]
  congr 1
  rw [mrg, if_neg c]
  rfl
theorem Zu3 {a b : List D} (h : a.length + b.length ≤ 1000000) : ∃ q, Z49 a b = some q ∧ q.map pk = mrg (a.map pk) (b.map pk) := by
 obtain ⟨q, h1, h2⟩ := Zd1 _ a b [] (Nat.le_refl _) (by simpa using h)
 exact ⟨q, h1, by simpa using h2⟩
theorem Zkn {x : Int} {s : List D} (hs : s.length ≤ 400000) : ∀ (m i f : Nat) (r : List D), i + m = s.length → QR f i r ((s.map pk).take i) →
  ∃ (f' : Nat) (r' : List D), iter (Z5d s x) ((i : Int), (f : Int), (i : Int), r) = some ((f' : Int), (s.length : Int), r') ∧ QR f' s.length r' (s.map pk)
 | 0, i, f, r, hi, hq => by
  have : i = s.length := by omega
  subst this
  rw [List.take_of_length_le (by simp)] at hq
  refine ⟨f, r, ?_, hq⟩
  apply Za
  unfold Z5d
  dsimp only
  rw [if_neg (by rw [pilt]; simp only [ofN, xlen]; omega)]
 | m + 1, i, f, r, hi, hq => by
  obtain ⟨f', r', h1, h2⟩ := Zkp (a := D.toI (D.fld (getD s (toN (i : Int))) 0)) (b := D.toI (D.fld (getD s (toN (i : Int))) 1)) (c := D.toI (D.fld (getD s (toN (i : Int))) 2)) (x := x) hq (by omega)
  have e : (s.map pk).take (i + 1) = (s.map pk).take i ++ [(D.toI (D.fld (getD s (toN (i : Int))) 0), D.toI (D.fld (getD s (toN (i : Int))) 1), D.toI (D.fld (getD s (toN (i : Int))) 2))] := by
   rw [List.take_succ_eq_append_getElem (by simp; omega)]
   congr 1
   rw [ptoN, pgetD (by omega)]
   simp [pk]
  rw [← e] at h2
  obtain ⟨f2, r2, h3, h4⟩ := Zkn hs m (i + 1) f' r' (by omega) h2
  refine ⟨f2, r2, ?_, h4⟩
  rw [← h3]
  apply Ze
  unfold Z5d
  dsimp only
  rw [if_pos (by rw [pilt]; simp only [ofN, xlen]; omega), if_pos (by simp only [ofN, xlen]; omega), h1, Z8]
  dsimp only
  rw [pnext (by omega)]
theorem Zkm {x y z : Int} {s r : List D} (hs : s.length ≤ 400000) (hr : r.length ≤ 1000000) : ∃ (f' : Nat) (r' : List D), Z16 s x y z r = some ((f' : Int), (s.length : Int), r') ∧ QR f' s.length r' (s.map pk) := by
 unfold Z16
 have := Zkn (x := x) hs s.length 0 0 (@lrep D (xlen r) (D.l [(D.i (0 : Int)), (D.i (0 : Int)), (D.i (0 : Int))])) (by omega) (by
  rw [List.take_zero]
  by_cases h0 : r.length = 0
  ·have : @lrep D (xlen r) (D.l [(D.i (0 : Int)), (D.i (0 : Int)), (D.i (0 : Int))]) = [] := by simp [lrep, xlen, h0]
   rw [this]
   exact QR.nil
  exact QR.zero (by simp [lrep, xlen]; omega) (by simpa [lrep, xlen] using hr))
 exact this
theorem Zj {α β : Type} {o : Option α} {k : α → Option β} {r : β} {a : α} (e : o = some a) (h : k a = some r) : bindO o k = some r := by
 rw [e]; exact h
theorem Zh5 {r : List D} {i j : Nat} {d : D} (h : i < r.length) : getD (setD r i d) j = if i = j then d else getD r j := by
 by_cases e : i = j
 ·subst e; rw [if_pos rfl]; exact Zcd h
 rw [if_neg e]; exact getD_set_ne e
theorem Z7d {r : List D} {i : Nat} {d : D} : (setD r i d).length = r.length := by simp [setD]
def pks (r : List D) (c : Nat) : List Pk := (D.toL (getD r c)).map pk
theorem Z40 {r : List D} {c : Nat} : (D.toL (getD r c)).length = (pks r c).length := by simp [pks]
theorem Zd4 {r : List D} {i j : Nat} {l : List D} (h : i < r.length) : pks (setD r i (.l l)) j = if i = j then l.map pk else pks r j := by
 unfold pks
 rw [Zh5 h]
 split
 ·rfl
 rfl
theorem Zl0 {n c : Nat} : pks (@lrep D n (.l [])) c = [] := by
 unfold pks
 by_cases h : c < n
 ·rw [pgetD (by simpa [lrep] using h)]; simp [lrep, D.toL]
 have : getD (@lrep D n (.l [])) c = .i 0 := by simp [getD, lrep, h]
 rw [this]; rfl
def selQ (cls : Int → Int) (c : Nat) (l : List Pk) : List Pk := l.filter fun p => cls p.2.1 == (c : Int)
theorem Zdh {cls : Int → Int} {c : Nat} {l : List Pk} : (selQ cls c l).length ≤ l.length := List.length_filter_le _ _
theorem Zts {r : List D} {df x : Int} (hr : r.length ≤ 1000000) : Z26 r df x = some (clsA r df x) := by
 have : Z26 r df x = Z25 df x r := rfl
 rw [this, Zkf hr]
theorem Zkt {C' R' C r5 r10 r11 : List D} {df' : Int} {i : Nat} {l : List Pk} (hi : i < r5.length) (hq : D.toL (getD r5 i) = l.map mkP) (hl : l.length ≤ 100000) (hR : R'.length ≤ 1000000)
  (hc : ∀ x, 0 ≤ clsA R' df' x ∧ clsA R' df' x < (C'.length : Int)) : ∀ (m k : Nat) (r : List D), k + m = l.length → r.length = C'.length → (∀ c, c < C'.length → pks r c = selQ (clsA R' df') c (l.take k)) →
  ∃ r', iter (Z34 r5 (i : Int) R' df' C' C r10 r11) ((k : Int), r) = iter (Z17 C' (i : Int) C) ((0 : Int), r10, r11, r') ∧ r'.length = C'.length ∧ ∀ c, c < C'.length → pks r' c = selQ (clsA R' df') c l
 | 0, k, r, hk, hr, hp => by
  refine ⟨r, ?_, hr, fun c h => ?_⟩
  ·have hB : Z34 r5 (i : Int) R' df' C' C r10 r11 ((k : Int), r) = Option.map (fun t => (.inr t)) (iter (Z17 C' (i : Int) C) ((0 : Int), r10, r11, r)) := by
    unfold Z34
    dsimp only
    rw [ptoN, hq, if_neg (by rw [pilt]; simp only [ofN, xlen, List.length_map]; omega)]
   rw [Zcj, hB]
   cases iter (Z17 C' (i : Int) C) ((0 : Int), r10, r11, r) with
   | none => rfl
   | some x => rfl
  rw [hp c h, List.take_of_length_le (by omega)]
 | m + 1, k, r, hk, hr, hp => by
  have hkl : k < l.length := by omega
  have hcc := hc l[k].2.1
  obtain ⟨c, hce⟩ : ∃ c : Nat, clsA R' df' l[k].2.1 = (c : Int) := ⟨(clsA R' df' l[k].2.1).toNat, by omega⟩
  rw [hce] at hcc
  have hcl : c < r.length := by omega
  have hlen : (D.toL (getD r c)).length ≤ k := by
   rw [Z40, hp c (by omega)]
   have := Zdh (cls := clsA R' df') (c := c) (l := l.take k)
   simp at this; omega
  obtain ⟨r', h1, h2, h3⟩ := Zkt (C := C) (r10 := r10) (r11 := r11) hi hq hl hR hc m (k + 1) (setD r c (.l (cat (D.toL (getD r c)) [mkP l[k]]))) (by omega) (by rw [Z7d]; exact hr) (fun j hj => by
   have e : selQ (clsA R' df') j (l.take (k + 1)) = selQ (clsA R' df') j (l.take k) ++ (if c = j then [l[k]] else []) := by
    unfold selQ
    rw [List.take_succ_eq_append_getElem hkl, List.filter_append]
    congr 1
    by_cases e : c = j
    ·subst e; simp [hce]
    rw [if_neg e, List.filter_cons_of_neg (by rw [hce]; simp; omega)]; rfl
   rw [Zd4 hcl, e]
   by_cases e : c = j
   ·subst e
    rw [if_pos rfl, if_pos rfl]
    simp only [cat, List.map_append, List.map_cons, List.map_nil]
    rw [show (D.toL (getD r c)).map pk = pks r c from rfl, hp c hj]
    rfl
   rw [if_neg e, if_neg e, hp j hj, List.append_nil])
  refine ⟨r', ?_, h2, h3⟩
  rw [← h1]
  apply Ze
  have hg : getD (D.toL (getD r5 i)) k = mkP l[k] := by rw [hq, pgetD (by simpa using hkl)]; simp
  unfold Z34
  dsimp only
  rw [ptoN, ptoN, hg]
  have hcls : Z26 R' df' (D.toI (D.fld (mkP l[k]) 1)) = some (c : Int) := by
   have := Zts (r := R') (df := df') (x := l[k].2.1) hR
   rw [hce] at this; exact this
  rw [if_pos (by rw [pilt, hq]; simp only [ofN, xlen, List.length_map]; omega), if_pos (by rw [hq]; simp only [ofN, xlen, List.length_map]; omega), hcls, Z8]
  rw [ptoN, if_pos (by rw [pile]; omega), if_pos (by rw [pilt]; simp only [ofN, xlen, toN]; omega), if_pos (by simp only [ofN, xlen, toN]; omega), if_pos (by simp only [xlen, List.length_cons, List.length_nil]; omega), if_pos (by simp only [ofN, xlen, toN]; omega), pnext (by omega)]
  rfl
def mv1 (C C' : List D) (i : Nat) (row : List Pk) (c : Nat) : Bool := decide (0 < row.length) && bnot (seq (cKey (getD C i)) (cKey (getD C' c)))
theorem Zku {C' C : List D} {i : Nat} {old row : Nat → List Pk} {mv : Nat → Bool} (hi : i < C.length) (hC : C.length ≤ 1000) (hn : C'.length ≤ 1000) (hb : ∀ j, j < C'.length → (old j).length + (row j).length ≤ 1000000) : ∀ (m c : Nat) (r17 r18 r19 : List D), c + m = C'.length → r17.length = C'.length → r18.length = C'.length → r19.length = C'.length →
  (∀ j, j < C'.length → pks r17 j = if j < c then mrg (old j) (row j) else old j) → (∀ j, j < C'.length → D.toB (getD r18 j) = if j < c then (mv j || mv1 C C' i (row j) j) else mv j) → (∀ j, j < C'.length → pks r19 j = row j) →
  ∃ r17' r18', iter (Z17 C' (i : Int) C) ((c : Int), r17, r18, r19) = some (.inl (((i + 1 : Nat) : Int), r17', r18')) ∧ r17'.length = C'.length ∧ r18'.length = C'.length ∧ (∀ j, j < C'.length → pks r17' j = mrg (old j) (row j)) ∧ ∀ j, j < C'.length → D.toB (getD r18' j) = (mv j || mv1 C C' i (row j) j)
 | 0, c, r17, r18, r19, hc, h17, h18, h19, hp, hv, hq => by
  refine ⟨r17, r18, ?_, h17, h18, fun j hj => by rw [hp j hj, if_pos (by omega)], fun j hj => by rw [hv j hj, if_pos (by omega)]⟩
  apply Za
  unfold Z17
  dsimp only
  rw [if_neg (by rw [pilt]; simp only [ofN, xlen, toN]; omega), pnext (by omega)]
 | m + 1, c, r17, r18, r19, hc, h17, h18, h19, hp, hv, hq => by
  have hcl : c < C'.length := by omega
  obtain ⟨q, h1, h2⟩ := Zu3 (a := D.toL (getD r17 c)) (b := D.toL (getD r19 c)) (by
   rw [Z40, Z40, hp c hcl, hq c hcl, if_neg (by omega)]; exact hb c hcl)
  have h2' : q.map pk = mrg (old c) (row c) := by
   rw [h2]
   have e1 : (D.toL (getD r17 c)).map pk = old c := by have := hp c hcl; rw [if_neg (by omega)] at this; exact this
   have e2 : (D.toL (getD r19 c)).map pk = row c := hq c hcl
   rw [e1, e2]
  have next : ∃ r17' r18', iter (Z17 C' (i : Int) C) (((c + 1 : Nat) : Int), setD r17 c (.l q), setD r18 c (.b (mv c || mv1 C C' i (row c) c)), setD r19 c (.l (D.toL (getD r19 c)))) = some (.inl (((i + 1 : Nat) : Int), r17', r18')) ∧ r17'.length = C'.length ∧ r18'.length = C'.length ∧ (∀ j, j < C'.length → pks r17' j = mrg (old j) (row j)) ∧ ∀ j, j < C'.length → D.toB (getD r18' j) = (mv j || mv1 C C' i (row j) j) :=
   Zku hi hC hn hb m (c + 1) _ _ _ (by omega) (by rw [Z7d]; exact h17) (by rw [Z7d]; exact h18) (by rw [Z7d]; exact h19) (fun j hj => by
    rw [Zd4 (by omega)]
    by_cases e : c = j
    ·subst e; rw [if_pos rfl, if_pos (by omega), h2']
    ·rw [if_neg e, hp j hj]
     by_cases e2 : j < c
     ·rw [if_pos e2, if_pos (by omega)]
     rw [if_neg e2, if_neg (by omega)]) (fun j hj => by
    rw [Zh5 (by omega)]
    by_cases e : c = j
    ·subst e; rw [if_pos rfl, if_pos (by omega)]; rfl
    ·rw [if_neg e, hv j hj]
     by_cases e2 : j < c
     ·rw [if_pos e2, if_pos (by omega)]
     rw [if_neg e2, if_neg (by omega)]) (fun j hj => by
    rw [Zd4 (by omega)]
    by_cases e : c = j
    ·subst e; rw [if_pos rfl]; exact hq c hcl
    rw [if_neg e, hq j hj])
  have hvc := hv c hcl
  rw [if_neg (Nat.lt_irrefl _)] at hvc
  have hlen : (D.toL (getD r19 c)).length = (row c).length := by rw [Z40, hq c hcl]
  have hB : Z17 C' (i : Int) C ((c : Int), r17, r18, r19) = some (.inl (((c + 1 : Nat) : Int), setD r17 c (.l q), setD r18 c (.b (mv c || mv1 C C' i (row c) c)), setD r19 c (.l (D.toL (getD r19 c))))) := by
   unfold Z17
   dsimp only
   rw [ptoN, ptoN, pnext (by omega), if_pos (by rw [pilt]; simp only [ofN, xlen, toN]; omega), if_pos (by simp only [ofN, xlen, toN]; omega), if_pos (by simp only [ofN, xlen]; omega), h1, Z8]
   rw [if_pos (by simp only [ofN, xlen]; omega), if_pos (by simp only [ofN, xlen]; omega), hvc]
   cases hm : mv c with
   | true => rw [if_pos rfl, if_pos (by simp only [ofN, xlen]; omega), Bool.true_or]
   | false =>
    rw [if_neg (by simp), Bool.false_or]
    unfold mv1
    by_cases c2 : 0 < (row c).length
    ·rw [if_pos (by rw [pilt]; simp only [ofN, xlen]; omega), if_pos (by simp only [ofN, xlen]; omega), if_pos (by simp only [ofN, xlen]; omega), if_pos (by simp only [ofN, xlen]; omega), decide_eq_true c2, Bool.true_and]
     rfl
    rw [if_neg (by rw [pilt]; simp only [ofN, xlen]; omega), if_pos (by simp only [ofN, xlen]; omega), decide_eq_false c2, Bool.false_and]
  obtain ⟨r17', r18', k1, k2⟩ := next
  exact ⟨r17', r18', by rw [← k1]; exact Ze hB, k2⟩
def accQ (cls : Int → Int) (qs : Nat → List Pk) (c : Nat) : Nat → List Pk
 | 0 => []
 | i + 1 => mrg (accQ cls qs c i) (selQ cls c (qs i))
def mvB (cls : Int → Int) (qs : Nat → List Pk) (C C' : List D) (c : Nat) : Nat → Bool
 | 0 => false
 | i + 1 => mvB cls qs C C' c i || mv1 C C' i (selQ cls c (qs i)) c
def fitsB (cls : Int → Int) (qs : Nat → List Pk) (C C' : List D) : Bool := allN C'.length fun c => !(mvB cls qs C C' c C.length && decide (cLim (getD C' c) < ((accQ cls qs c C.length).length : Int)))
theorem Zrt {T : Type} {B : Int → Option (Int ⊕ T)} {P : Nat → Bool} {n : Nat} {a b : T} (hs : ∀ i, i < n → B (i : Int) = if P i = true then some (.inl ((i + 1 : Nat) : Int)) else some (.inr a))
  (he : B (n : Int) = some (.inr b)) : iter B (0 : Int) = some (if allN n P = true then b else a) := by
 have key : ∀ (m i : Nat), i + m = n → (∀ j, j < i → P j = true) → iter B (i : Int) = some (if allN n P = true then b else a) := by
  intro m
  induction m with
  | zero =>
   intro i hi hp
   have : i = n := by omega
   subst this
   rw [Za he, if_pos (Z4q.2 hp)]
  | succ m ih =>
   intro i hi hp
   by_cases c : P i = true
   ·rw [Ze ((hs i (by omega)).trans (if_pos c))]
    exact ih (i + 1) (by omega) fun j hj => by
     by_cases e : j = i
     ·subst e; exact c
     exact hp j (by omega)
   rw [Za ((hs i (by omega)).trans (if_neg c)), if_neg (fun h => c (Z4q.1 h i (by omega)))]
 exact key n 0 (by omega) fun j hj => by omega
def sumL (qs : Nat → List Pk) : Nat → Nat
 | 0 => 0
 | i + 1 => sumL qs i + (qs i).length
theorem Z6n {cls : Int → Int} {qs : Nat → List Pk} {c : Nat} : ∀ i, (accQ cls qs c i).length ≤ sumL qs i
 | 0 => by simp [accQ, sumL]
 | i + 1 => by
  simp only [accQ, sumL]
  rw [Z7f _ _ _ (Nat.le_refl _)]
  have := Z6n (cls := cls) (qs := qs) (c := c) i
  have := Zdh (cls := cls) (c := c) (l := qs i)
  omega
theorem Z6h {qs : Nat → List Pk} : ∀ {i j : Nat}, i ≤ j → sumL qs i ≤ sumL qs j
 | i, 0, h => by
  have : i = 0 := by omega
  subst this
  exact Nat.le_refl _
 | i, j + 1, h => by
  by_cases e : i = j + 1
  ·subst e; exact Nat.le_refl _
  have := Z6h (qs := qs) (i := i) (j := j) (by omega)
  simp only [sumL]; omega
theorem Zud {C' r10 r11 : List D} {mv : Nat → Bool} {ac : Nat → List Pk} (hn : C'.length ≤ 1000) (h10 : r10.length = C'.length) (h11 : r11.length = C'.length) (hv : ∀ j, j < C'.length → D.toB (getD r11 j) = mv j) (hp : ∀ j, j < C'.length → pks r10 j = ac j) :
  iter (Z4a r11 r10 C') (0 : Int) = some (allN C'.length (fun c => !(mv c && decide (cLim (getD C' c) < ((ac c).length : Int)))), r10) := by
 have := Zrt (B := Z4a r11 r10 C') (P := fun c => !(mv c && decide (cLim (getD C' c) < ((ac c).length : Int)))) (n := C'.length) (a := (false, r10)) (b := (true, r10)) (fun i hi => by
  have hl : (D.toL (getD r10 i)).length = (ac i).length := by rw [Z40, hp i hi]
  unfold Z4a
  dsimp only
  rw [ptoN, pnext (by omega), if_pos (by rw [pilt]; simp only [ofN, xlen]; omega), if_pos (by simp only [ofN, xlen]; omega), hv i hi]
  cases mv i with
  | false => rw [if_neg (by simp)]; simp
  | true =>
   rw [if_pos rfl, if_pos (by simp only [ofN, xlen]; omega), if_pos (by simp only [ofN, xlen]; omega)]
   by_cases c2 : cLim (getD C' i) < ((ac i).length : Int)
   ·rw [if_pos (by rw [pilt]; simp only [ofN, xlen, hl]; exact c2)]; simp [c2]
   rw [if_neg (by rw [pilt]; simp only [ofN, xlen, hl]; exact c2)]; simp [c2]) (by
  unfold Z4a
  dsimp only
  rw [if_neg (by rw [pilt]; simp only [ofN, xlen]; omega)])
 rw [this]
 cases allN C'.length (fun c => !(mv c && decide (cLim (getD C' c) < ((ac c).length : Int)))) <;> rfl
theorem Zks {C' R' C r5 : List D} {df' : Int} {qs : Nat → List Pk} (hn : C'.length ≤ 1000) (hC : C.length ≤ 1000) (h5 : r5.length = C.length) (hq : ∀ i, i < C.length → D.toL (getD r5 i) = (qs i).map mkP) (hl : sumL qs C.length ≤ 100000) (hR : R'.length ≤ 1000000)
  (hc : ∀ x, 0 ≤ clsA R' df' x ∧ clsA R' df' x < (C'.length : Int)) : ∀ (m i : Nat) (r10 r11 : List D), i + m = C.length → r10.length = C'.length → r11.length = C'.length → (∀ c, c < C'.length → pks r10 c = accQ (clsA R' df') qs c i) → (∀ c, c < C'.length → D.toB (getD r11 c) = mvB (clsA R' df') qs C C' c i) →
  ∃ out, iter (Z5e r5 C' R' df' C) ((i : Int), r10, r11) = some (fitsB (clsA R' df') qs C C', out) ∧ out.length = C'.length ∧ ∀ c, c < C'.length → pks out c = accQ (clsA R' df') qs c C.length
 | 0, i, r10, r11, hi, h10, h11, hp, hv => by
  have hi' : i = C.length := by omega
  subst hi'
  have h' := Zud hn h10 h11 hv hp
  refine ⟨r10, ?_, h10, hp⟩
  apply Za
  unfold Z5e
  dsimp only
  rw [if_neg (by rw [pilt]; simp only [ofN, xlen]; omega)]
  rw [h']; rfl
 | m + 1, i, r10, r11, hi, h10, h11, hp, hv => by
  have hiC : i < C.length := by omega
  have hql : (qs i).length ≤ 100000 := by
   have := Z6h (qs := qs) (i := i + 1) (j := C.length) (by omega)
   simp only [sumL] at this; omega
  obtain ⟨rows, h1, h2, h3⟩ := Zkt (C := C) (r10 := r10) (r11 := r11) (by omega) (hq i hiC) hql hR hc (qs i).length 0 (@lrep D C'.length (.l [])) (by omega) (by simp [lrep]) (fun c _ => by rw [Zl0]; rfl)
  obtain ⟨r17, r18, k1, k2, k3, k4, k5⟩ := Zku (C' := C') (C := C) (i := i) (mv := fun c => mvB (clsA R' df') qs C C' c i) (old := fun c => accQ (clsA R' df') qs c i) (row := fun c => selQ (clsA R' df') c (qs i)) hiC hC hn (fun j hj => by
   have a := Z6n (cls := clsA R' df') (qs := qs) (c := j) i
   have b := Zdh (cls := clsA R' df') (c := j) (l := qs i)
   have := Z6h (qs := qs) (i := i + 1) (j := C.length) (by omega)
   simp only [sumL] at this; omega) C'.length 0 r10 r11 rows (by omega) h10 h11 h2 (fun j hj => by rw [if_neg (by omega), hp j hj]) (fun j hj => by rw [if_neg (by omega), hv j hj]) h3
  obtain ⟨out, g1, g2, g3⟩ := Zks hn hC h5 hq hl hR hc m (i + 1) r17 r18 (by omega) k2 k3 (fun c hc' => by rw [k4 c hc']; rfl) (fun c hc' => by rw [k5 c hc']; rfl)
  refine ⟨out, ?_, g2, g3⟩
  rw [← g1]
  apply Ze
  unfold Z5e
  dsimp only
  rw [if_pos (by rw [pilt]; simp only [ofN, xlen]; omega), if_pos (by simp only [ofN, xlen]; omega), if_pos (by simp only [ofN, xlen]; omega)]
  have h1' : iter (Z34 r5 (i : Int) R' df' C' C r10 r11) ((0 : Int), (@lrep D (toN (ofN (xlen C'))) (D.l ([] : List D)))) = _ := h1
  rw [h1']
  have k1' : iter (Z17 C' (i : Int) C) ((0 : Int), r10, r11, rows) = _ := k1
  rw [k1']
theorem Zuc {s1 s2 : List UInt8} {b1 b2 : Bool} {x1 : Int} {C' R' C R r5 : List D} {df' : Int} {qs : Nat → List Pk} (hn : C'.length ≤ 1000) (hC : C.length ≤ 1000) (h5 : r5.length = C.length) (hq : ∀ i, i < C.length → D.toL (getD r5 i) = (qs i).map mkP) (hl : sumL qs C.length ≤ 100000) (hR : R'.length ≤ 1000000)
  (hc : ∀ x, 0 ≤ clsA R' df' x ∧ clsA R' df' x < (C'.length : Int)) :
  ∃ out, Z33 s1 b1 x1 s2 b2 C' R' df' C R r5 = some (fitsB (clsA R' df') qs C C', out) ∧ out.length = C'.length ∧ ∀ c, c < C'.length → pks out c = accQ (clsA R' df') qs c C.length := by
 unfold Z33
 rw [if_pos (by rw [pieq]; simp only [ofN, xlen]; omega), if_pos (by simp only [ofN, xlen]; omega), if_pos (by simp only [ofN, xlen]; omega)]
 exact Zks hn hC h5 hq hl hR hc C.length 0 _ _ (by omega) (by simp [lrep, toN, ofN, xlen]) (by simp [lrep, toN, ofN, xlen]) (fun c _ => by
  have : pks (@lrep D C'.length (.l [])) c = [] := Zl0
  exact this) (fun c hc' => by
  have : getD (@lrep D C'.length (.b false)) c = .b false := by rw [pgetD (by simpa [lrep] using hc')]; simp [lrep]
  show D.toB (getD (@lrep D C'.length (.b false)) c) = false
  rw [this]; rfl)
def eqCls (a b : D) : Bool := decide ((a.fld 0).toS = (b.fld 0).toS ∧ (a.fld 1).toI = (b.fld 1).toI ∧ (a.fld 2).toI = (b.fld 2).toI ∧ (a.fld 3).toI = (b.fld 3).toI ∧ (a.fld 4).toI = (b.fld 4).toI ∧ (a.fld 5).toB = (b.fld 5).toB)
def eqRule (a b : D) : Bool := decide ((a.fld 0).toI = (b.fld 0).toI ∧ (a.fld 1).toI = (b.fld 1).toI ∧ (a.fld 2).toI = (b.fld 2).toI)
def eqRows (e : D → D → Bool) (r1 r2 : List D) : Bool := decide (r1.length = r2.length) && allN r1.length fun i => e (getD r1 i) (getD r2 i)
theorem Ztu {r1 r2 : List D} (h1 : r1.length ≤ 1000000) : Z1g r1 r2 = some (eqRows eqCls r1 r2) := by
 unfold Z1g eqRows
 by_cases c : r1.length = r2.length
 ·rw [if_pos (by rw [pieq]; simp only [ofN, xlen]; omega)]
  simp only [c, decide_true, Bool.true_and]
  rw [← c]
  have := Z61 (B := Z3j r1 r2) (P := fun i => eqCls (getD r1 i) (getD r2 i)) (n := r1.length) (e := true) (fun i hi => by
   unfold Z3j
   dsimp only
   rw [if_pos (by rw [pilt]; simp only [ofN, xlen]; omega), if_pos (by simp only [ofN, xlen]; omega), if_pos (by simp only [ofN, xlen]; omega), ptoN, pnext (by omega)]
   simp only [pband, pseq, pieq, pbeq2, and_true, eqCls, decide_eq_true_eq]) (by
   unfold Z3j
   dsimp only
   rw [if_neg (by rw [pilt]; simp only [ofN, xlen]; omega)])
  rw [this, Bool.and_true]
 rw [if_neg (by rw [pieq]; simp only [ofN, xlen]; omega)]
 simp [c]
theorem Ztv {r1 r2 : List D} (h1 : r1.length ≤ 1000000) : Z1h r1 r2 = some (eqRows eqRule r1 r2) := by
 unfold Z1h eqRows
 by_cases c : r1.length = r2.length
 ·rw [if_pos (by rw [pieq]; simp only [ofN, xlen]; omega)]
  simp only [c, decide_true, Bool.true_and]
  rw [← c]
  have := Z61 (B := Z4j r1 r2) (P := fun i => eqRule (getD r1 i) (getD r2 i)) (n := r1.length) (e := true) (fun i hi => by
   unfold Z4j
   dsimp only
   rw [if_pos (by rw [pilt]; simp only [ofN, xlen]; omega), if_pos (by simp only [ofN, xlen]; omega), if_pos (by simp only [ofN, xlen]; omega), ptoN, pnext (by omega)]
   simp only [pband, pieq, and_true, eqRule, decide_eq_true_eq]) (by
   unfold Z4j
   dsimp only
   rw [if_neg (by rw [pilt]; simp only [ofN, xlen]; omega)])
  rw [this, Bool.and_true]
 rw [if_neg (by rw [pieq]; simp only [ofN, xlen]; omega)]
 simp [c]
def sameP (s1 : List UInt8) (b1 : Bool) (r1 r2 : List D) (x1 : Int) (s2 : List UInt8) (b2 : Bool) (x2 : Int) (r3 r4 : List D) : Bool := decide (s1 = s2) && (decide (b1 = b2) && (eqRows eqCls r1 r3 && (eqRows eqRule r2 r4 && decide (x1 = x2))))
theorem Zu9 {s1 s2 : List UInt8} {b1 b2 : Bool} {r1 r2 r3 r4 : List D} {x1 x2 : Int} (h1 : r1.length ≤ 1000000) (h2 : r2.length ≤ 1000000) : Z36 s1 b1 r1 r2 x1 s2 b2 x2 r3 r4 = some (sameP s1 b1 r1 r2 x1 s2 b2 x2 r3 r4) := by
 unfold Z36 sameP
 rw [Ztu h1, Ztv h2]
 simp only [Z8, pseq, pbeq2]
 by_cases c1 : s1 = s2
 ·rw [if_pos c1]
  by_cases c2 : b1 = b2
  ·rw [if_pos c2]
   cases eqRows eqCls r1 r3 <;> cases eqRows eqRule r2 r4 <;> simp [c1, c2, ieq, Bool.beq_eq_decide_eq]
  rw [if_neg c2]; simp [c2]
 rw [if_neg c1]; simp [c1]
def bD (a : A) : D := .l [.i a.br, .i a.bb, .i a.bt]
def lastB (g : Nat → A) (k : List UInt8) : Nat → Option A
 | 0 => none
 | i + 1 => if (g i).key = k then some (g i) else lastB g k i
theorem Z7e {k : List UInt8} {d : D} {l : List D} : mfind k (d :: l) = if (d.fld 0).toS = k then some (d.fld 1) else mfind k l := by
 by_cases h : (d.fld 0).toS = k
 ·have e : ((d.fld 0).toS == k) = true := by simpa using h
  simp only [mfind, e, if_pos h]
 have e : ((d.fld 0).toS == k) = false := by simpa using h
 simp only [mfind, e, if_neg h]
theorem Zs7 {k : List UInt8} {d x : D} {l : List D} : mput (d :: l) k x = if (d.fld 0).toS = k then .l [.s k, x] :: l else d :: mput l k x := by
 by_cases h : (d.fld 0).toS = k
 ·have e : ((d.fld 0).toS == k) = true := by simpa using h
  rw [if_pos h]
  simp only [mput, e]
 have e : ((d.fld 0).toS == k) = false := by simpa using h
 rw [if_neg h]
 simp only [mput, e]
theorem Zjd {k k' : List UInt8} {x : D} : ∀ l : List D, mfind k (mput l k' x) = if k' = k then some x else mfind k l
 | [] => by
  have : mput [] k' x = [.l [.s k', x]] := rfl
  rw [this, Z7e]
  rfl
 | d :: l => by
  have ih := Zjd (k := k) (k' := k') (x := x) l
  rw [Zs7, Z7e]
  by_cases h1 : (d.fld 0).toS = k'
  ·rw [if_pos h1, Z7e]
   have e : D.toS (D.fld (D.l [D.s k', x]) 0) = k' := rfl
   rw [e]
   by_cases h : k' = k
   ·rw [if_pos h, if_pos h]; rfl
   rw [if_neg h, if_neg h, if_neg (by rw [h1]; exact h)]
  rw [if_neg h1, Z7e, ih]
  by_cases h2 : (d.fld 0).toS = k
  ·rw [if_pos h2, if_neg (fun h3 => h1 (h2.trans h3.symm)), if_pos h2]
  rw [if_neg h2, if_neg h2]
def tuneB (o : Option A) (x : Int) : Int := match o with
 | some a => min a.bt x
 | none => x
def newA (d : D) (o : Option A) (l : List Pk) : A := { freshA d with bt := tuneB o (d.fld 3).toI, l := l }
theorem Zj5 {g : Nat → A} {k : List UInt8} {a : A} : ∀ {n}, lastB g k n = some a → ∃ i, i < n ∧ g i = a
 | 0, h => by cases h
 | n + 1, h => by
  unfold lastB at h
  split at h
  ·exact ⟨n, by omega, Option.some.inj h⟩
  obtain ⟨i, h1, h2⟩ := Zj5 h
  exact ⟨i, by omega, h2⟩
theorem Zs8 {d : D} {g : Nat → A} {n : Nat} {l : List Pk} (hg : ∀ i, i < n → AOk (g i)) (hd : U (cQ d) ∧ U (D.toI (D.fld d 2)) ∧ U (D.toI (D.fld d 3))) (hl : l.length ≤ 100000) (hs : ∀ p ∈ l, 1 ≤ p.2.2 ∧ p.2.2 ≤ 1500) : AOk (newA d (lastB g (cKey d) n) l) := by
 refine ⟨hd.1, hd.2.1, hd.2.2, ?_, hl, hs⟩
 show U (tuneB (lastB g (cKey d) n) (D.toI (D.fld d 3)))
 cases h : lastB g (cKey d) n with
 | none => exact hd.2.2
 | some a =>
  obtain ⟨i, hi, rfl⟩ := Zj5 h
  have h1 := (hg i hi).bt
  have h2 := hd.2.2
  have := h1.lo; have := h1.hi; have := h2.lo; have := h2.hi
  show U (min (g i).bt _)
  unfold U
  omega
theorem Ztq {r1 q1 q2 : List D} (hn : r1.length ≤ 1000) : ∃ r', iter (Z6l r1 q1 q2) ((0 : Int), ([] : List Int), 0, ([] : List D)) = some (q1, q2, r1.length, r', r1.map cQ, List.replicate r1.length 0) ∧ Rep r' r1.length fun i => freshA (getD r1 i) := by
 have : Z6l r1 q1 q2 = Z29 r1 q1 q2 := rfl
 rw [this]
 exact Zcy hn
theorem Zke {C' R' q3 r6 : List D} {n : Nat} {s1 : List UInt8} {b1 : Bool} {x1 : Int} {g : Nat → A} (hC : C'.length ≤ 1000) (hq : q3.length = C'.length) (hl : ∀ c, c < C'.length → (pks q3 c).length ≤ 100000) (h6 : ∀ k, mfind k r6 = (lastB g k n).map bD) : ∀ (m i : Nat) (r : List D), i + m = C'.length →
  Rep r C'.length (fun c => if c < i then newA (getD C' c) (lastB g (cKey (getD C' c)) n) (pks q3 c) else freshA (getD C' c)) →
  ∃ r', iter (Z1q C'.length r6 q3 s1 b1 x1 C' R' (C'.map cQ) (List.replicate C'.length 0)) ((i : Int), r) = some ((0 : Int), s1, b1, x1, C', R', C'.length, (0 : Int), false, r', C'.map cQ, List.replicate C'.length 0) ∧
   Rep r' C'.length fun c => newA (getD C' c) (lastB g (cKey (getD C' c)) n) (pks q3 c)
 | 0, i, r, hi, hR => by
  refine ⟨r, Za ?_, hR.congr fun j hj => by rw [if_pos (by omega)]⟩
  unfold Z1q
  dsimp only
  rw [if_neg (by rw [pilt]; simp only [ofN]; omega)]
 | m + 1, i, r, hi, hR => by
  have hin : i < C'.length := by omega
  obtain ⟨ring, f, he, hqr⟩ := hR.at_ i hin
  rw [if_neg (Nat.lt_irrefl _)] at he hqr
  have he' : getD r i = encA (freshA (getD C' i)) ring f := he
  obtain ⟨f', r', hld, hqr'⟩ := Zkm (x := cLim (getD C' i)) (y := (f : Int)) (z := 0) (s := D.toL (getD q3 i)) (r := ring) (by rw [Z40]; have := hl i hin; omega) hqr.big
  have hlen : (D.toL (getD q3 i)).length = (pks q3 i).length := Z40
  have step : ∀ y, y = tuneB (lastB g (cKey (getD C' i)) n) (D.toI (D.fld (getD C' i) 3)) →
    ∃ r2, iter (Z1q C'.length r6 q3 s1 b1 x1 C' R' (C'.map cQ) (List.replicate C'.length 0)) (((i + 1 : Nat) : Int), setD r i (encA { freshA (getD C' i) with bt := y, l := pks q3 i } r' f')) = some ((0 : Int), s1, b1, x1, C', R', C'.length, (0 : Int), false, r2, C'.map cQ, List.replicate C'.length 0) ∧
     Rep r2 C'.length fun c => newA (getD C' c) (lastB g (cKey (getD C' c)) n) (pks q3 c) := fun y hy =>
   Zke hC hq hl h6 m (i + 1) _ (by omega) (hR.set hin ⟨r', f', by rw [if_pos (by omega), hy]; rfl, by
    rw [if_pos (by omega)]
    show QR f' (pks q3 i).length r' (pks q3 i)
    rw [← hlen]; exact hqr'⟩ fun j _ hj => by
     by_cases c : j < i
     ·rw [if_pos c, if_pos (by omega)]
     rw [if_neg c, if_neg (by omega)])
  have hkey : D.toS (D.fld (D.fld (encA (freshA (getD C' i)) ring f) 0) 0) = cKey (getD C' i) := rfl
  have hf := h6 (cKey (getD C' i))
  unfold tuneB at step
  cases ho : lastB g (cKey (getD C' i)) n with
  | none =>
   rw [ho] at step hf
   obtain ⟨r2, k1, k2⟩ := step _ rfl
   refine ⟨r2, ?_, k2⟩
   rw [← k1]
   apply Ze
   unfold Z1q
   dsimp only
   rw [if_pos (by rw [pilt]; simp only [ofN]; omega), if_pos (by simp only [ofN]; omega), ptoN, he', hkey]
   rw [if_neg (by unfold mhas; rw [hf]; simp), if_pos (by simp only [ofN, xlen]; omega)]
   refine Zj hld ?_
   rw [pnext (by omega), hlen]
   rfl
  | some a =>
   rw [ho] at step hf
   obtain ⟨r2, k1, k2⟩ := step _ rfl
   refine ⟨r2, ?_, k2⟩
   rw [← k1]
   apply Ze
   unfold Z1q
   dsimp only
   rw [if_pos (by rw [pilt]; simp only [ofN]; omega), if_pos (by simp only [ofN]; omega), ptoN, he', hkey]
   have hv : mval (D.l [(D.i (0 : Int)), (D.i (0 : Int)), (D.i (0 : Int))]) r6 (cKey (getD C' i)) = bD a := by unfold mval; rw [hf]; rfl
   rw [if_pos (by unfold mhas; rw [hf]; rfl), hv]
   have ht : Z1x (D.toI (D.fld (bD a) 0)) (D.toI (D.fld (bD a) 1)) (D.toI (D.fld (bD a) 2)) (D.toI (D.fld (D.fld (encA (freshA (getD C' i)) ring f) 0) 2)) (D.toI (D.fld (D.fld (encA (freshA (getD C' i)) ring f) 0) 3)) = some (min a.bt (D.toI (D.fld (getD C' i) 3))) := by
    unfold Z1x
    rw [pimin]; rfl
   refine Zj ht ?_
   rw [if_pos (by simp only [ofN, xlen]; omega)]
   refine Zj hld ?_
   rw [pnext (by omega), hlen]
   rfl
theorem Zkd {C' R' C R q3 : List D} {n : Nat} {s1 s2 : List UInt8} {b1 b3 b4 : Bool} {x1 x2 x3 x4 : Int} {l1 l2 : List Int} {g : Nat → A} (hn : n ≤ 1000) (hC : C'.length ≤ 1000) (hR2 : R'.length ≤ 1000000) (hq : q3.length = C'.length) (hl : ∀ c, c < C'.length → (pks q3 c).length ≤ 100000) : ∀ (m i : Nat) (r6 r : List D), i + m = n →
  Rep r n g → (∀ k, mfind k r6 = (lastB g k i).map bD) →
  ∃ r', iter (Z3d n s1 b1 C' R' x1 s2 b3 x2 x3 C R x4 b4 l1 l2 q3) ((i : Int), r6, r) = some ((0 : Int), s1, b1, x1, C', R', C'.length, (0 : Int), false, r', C'.map cQ, List.replicate C'.length 0) ∧
   Rep r' C'.length fun c => newA (getD C' c) (lastB g (cKey (getD C' c)) n) (pks q3 c)
 | 0, i, r6, r, hi, hR, h6 => by
  have : i = n := by omega
  subst this
  obtain ⟨r0, k1, k2⟩ := Ztq (r1 := C') (q1 := C') (q2 := R') hC
  obtain ⟨r', k3, k4⟩ := Zke (R' := R') (s1 := s1) (b1 := b1) (x1 := x1) hC hq hl h6 C'.length 0 r0 (by omega) (k2.congr fun j _ => by rw [if_neg (by omega)])
  refine ⟨r', Za ?_, k4⟩
  unfold Z3d
  dsimp only
  rw [if_neg (by rw [pilt]; simp only [ofN]; omega)]
  have hb : Z2a s1 b1 C' R' x1 s2 b3 x2 x3 C R i x4 b4 r l1 l2 = some (C', R', C'.length, r0, C'.map cQ, List.replicate C'.length 0) := by
   unfold Z2a
   refine Zj (Zko (by omega) hR2) ?_
   exact k1
  refine Zj hb ?_
  have k3' : iter (Z1q C'.length r6 q3 s1 b1 x1 C' R' (C'.map cQ) (List.replicate C'.length 0)) ((0 : Int), r0) = _ := k3
  show Option.map _ (iter (Z1q C'.length r6 q3 s1 b1 x1 C' R' (C'.map cQ) (List.replicate C'.length 0)) ((0 : Int), r0)) = _
  rw [k3']
  rfl
 | m + 1, i, r6, r, hi, hR, h6 => by
  have hin : i < n := by omega
  obtain ⟨ring, f, he, hqr⟩ := hR.at_ i hin
  have he' : getD r i = encA (g i) ring f := he
  obtain ⟨r', k1, k2⟩ := Zkd (C := C) (R := R) (s1 := s1) (s2 := s2) (b1 := b1) (b3 := b3) (b4 := b4) (x1 := x1) (x2 := x2) (x3 := x3) (x4 := x4) (l1 := l1) (l2 := l2) hn hC hR2 hq hl m (i + 1) (mput r6 (g i).key (bD (g i))) r (by omega) hR (fun k => by
   rw [Zjd, h6 k]
   unfold lastB
   by_cases c : (g i).key = k
   ·rw [if_pos c, if_pos c]; rfl
   rw [if_neg c, if_neg c]; cases i <;> rfl)
  refine ⟨r', ?_, k2⟩
  rw [← k1]
  apply Ze
  unfold Z3d
  dsimp only
  rw [if_pos (by rw [pilt]; simp only [ofN]; omega), if_pos (by simp only [ofN]; omega), ptoN, he', pnext (by omega)]
  have hset : setD r i (encA (g i) ring f) = r := Z6f he'
  exact congrArg (fun z => some (Sum.inl (((i + 1 : Nat) : Int), mput r6 (g i).key (bD (g i)), z))) hset
def qsOf (g : Nat → A) : Nat → List Pk := fun i => (g i).l
theorem Ztn {s1 s2 : List UInt8} {b1 b2 b3 b4 : Bool} {C' R' C R r : List D} {df' df sq t : Int} {q d : List Int} {g : Nat → A} (hR : Rep r C.length g) (hC : C.length ≤ 1000) (hg : ∀ i, i < C.length → AOk (g i)) (hC' : C'.length ≤ 1000000) (hR' : R'.length ≤ 1000000) (ht : sumL (qsOf g) C.length ≤ 100000) :
  (rightB C' R' df' = false ∧ Zt s1 b1 C' R' df' b2 s2 b3 df sq C R C.length t b4 r q d = some (1, s2, b3, df, C, R, C.length, t, b4, r, q, d)) ∨
  (rightB C' R' df' = true ∧ sameP s1 b1 C' R' df' s2 b3 df C R = true ∧ Zt s1 b1 C' R' df' b2 s2 b3 df sq C R C.length t b4 r q d = some (0, s2, b3, df, C, R, C.length, t, b4, r, q, d)) ∨
  (rightB C' R' df' = true ∧ sameP s1 b1 C' R' df' s2 b3 df C R = false ∧ fitsB (clsA R' df') (qsOf g) C C' = false ∧ b2 = false ∧ Zt s1 b1 C' R' df' b2 s2 b3 df sq C R C.length t b4 r q d = some (35, s2, b3, df, C, R, C.length, t, b4, r, q, d)) ∨
  (rightB C' R' df' = true ∧ sameP s1 b1 C' R' df' s2 b3 df C R = false ∧ (fitsB (clsA R' df') (qsOf g) C C' = true ∨ b2 = true) ∧ ∃ r', Zt s1 b1 C' R' df' b2 s2 b3 df sq C R C.length t b4 r q d = some (0, s1, b1, df', C', R', C'.length, 0, false, r', C'.map cQ, List.replicate C'.length 0) ∧
   Rep r' C'.length fun c => newA (getD C' c) (lastB g (cKey (getD C' c)) C.length) (accQ (clsA R' df') (qsOf g) c C.length)) := by
 unfold Zt
 rw [Z7j hC' hR', Z8, Zu9 hC' hR', Z8]
 cases c1 : rightB C' R' df' with
 | false => exact .inl ⟨rfl, rfl⟩
 | true =>
  have hP := Z6c c1
  have hn8 := hP.n8
  dsimp only
  rw [if_pos rfl]
  refine .inr ?_
  cases c2 : sameP s1 b1 C' R' df' s2 b3 df C R with
  | true => exact .inl ⟨rfl, rfl, rfl⟩
  | false =>
   refine .inr ?_
   rw [if_neg (by simp), Zkr hR hC hg, Z8]
   dsimp only
   have hcls : ∀ x, 0 ≤ clsA R' df' x ∧ clsA R' df' x < (C'.length : Int) := fun x => Z8l hP.df hP.rules
   obtain ⟨out, k1, k2, k3⟩ := Zuc (s1 := s2) (s2 := s1) (b1 := b3) (b2 := b1) (x1 := df) (R := R) (C := C) (C' := C') (R' := R') (df' := df') (qs := qsOf g) (r5 := queuesS C.length g) (by omega) hC (by simp [queuesS]) (fun i hi => by
    rw [pgetD (by simpa [queuesS] using hi)]; simp [queuesS, D.toL, qsOf]) ht hR' hcls
   rw [k1, Z8]
   dsimp only
   have hlen : ∀ c, c < C'.length → (pks out c).length ≤ 100000 := fun c hc => by
    rw [k3 c hc]
    have := Z6n (cls := clsA R' df') (qs := qsOf g) (c := c) C.length
    omega
   obtain ⟨r', h1, h2⟩ := Zkd (C := C) (R := R) (s1 := s1) (s2 := s2) (b1 := b1) (b3 := b3) (b4 := b4) (x1 := df') (x2 := df) (x3 := sq) (x4 := t) (l1 := q) (l2 := d) hC (by omega) hR' k2 hlen C.length 0 [] r (by omega) hR (fun k => rfl)
   have h2' : Rep r' C'.length fun c => newA (getD C' c) (lastB g (cKey (getD C' c)) C.length) (accQ (clsA R' df') (qsOf g) c C.length) := h2.congr fun j hj => by rw [k3 j hj]
   have hL : Z86 C.length s1 b1 C' R' df' s2 b3 df sq C R t b4 q d out = Z3d C.length s1 b1 C' R' df' s2 b3 df sq C R t b4 q d out := rfl
   rw [hL]
   have h1' : iter (Z3d C.length s1 b1 C' R' df' s2 b3 df sq C R t b4 q d out) ((0 : Int), ([] : List D), r) = _ := h1
   rw [h1']
   generalize fitsB (clsA R' df') (qsOf g) C C' = b
   cases b with
   | true => exact .inr ⟨rfl, rfl, .inl rfl, r', by rw [if_pos rfl], h2'⟩
   | false =>
    cases b2 with
    | true => exact .inr ⟨rfl, rfl, .inr rfl, r', by rw [if_neg (by simp), if_pos rfl], h2'⟩
    | false => exact .inl ⟨rfl, rfl, rfl, rfl, by rw [if_neg (by simp), if_neg (by simp)]⟩
theorem Ztm {s1 s2 : List UInt8} {b1 b2 b3 b4 : Bool} {C' R' C R r : List D} {df' df sq t : Int} {q d : List Int} {g : Nat → A} (hR : Rep r C.length g) (hC : C.length ≤ 1000) (hg : ∀ i, i < C.length → AOk (g i)) (hC' : C'.length ≤ 1000000) (hR' : R'.length ≤ 1000000) (ht : sumL (qsOf g) C.length ≤ 100000) :
  (∃ e, (e = 0 → sameP s1 b1 C' R' df' s2 b3 df C R = true) ∧ (rightB C' R' df' = false ↔ e = 1) ∧ Zt s1 b1 C' R' df' b2 s2 b3 df sq C R C.length t b4 r q d = some (e, s2, b3, df, C, R, C.length, t, b4, r, q, d) ∧ (b2 = true → rightB C' R' df' = true → e = 0)) ∨
  (rightB C' R' df' = true ∧ ∃ r', Zt s1 b1 C' R' df' b2 s2 b3 df sq C R C.length t b4 r q d = some (0, s1, b1, df', C', R', C'.length, 0, false, r', C'.map cQ, List.replicate C'.length 0) ∧
   Rep r' C'.length fun c => newA (getD C' c) (lastB g (cKey (getD C' c)) C.length) (accQ (clsA R' df') (qsOf g) c C.length)) := by
 rcases Ztn (s1 := s1) (s2 := s2) (b1 := b1) (b2 := b2) (b3 := b3) (b4 := b4) (df' := df') (df := df) (sq := sq) (t := t) (q := q) (d := d) (R := R) hR hC hg hC' hR' ht with ⟨h1, h2⟩ | ⟨h1, h2, h3⟩ | ⟨h1, h2, h3, h4, h5⟩ | ⟨h1, h2, h3, h4⟩
 ·exact .inl ⟨1, fun h => by omega, by simp [h1], h2, fun _ h => by rw [h1] at h; cases h⟩
 ·exact .inl ⟨0, fun _ => h2, by simp [h1], h3, fun _ _ => rfl⟩
 ·exact .inl ⟨35, fun h => by omega, by simp [h1], h5, fun h => by rw [h4] at h; cases h⟩
 exact .inr ⟨h1, h4⟩
theorem Zkq {r2 : List D} {x1 : Int} (h : r2.length ≤ 1000000) : ∀ (m i : Nat) (last : Int), i + m = r2.length → ∃ b, iter (Z2h r2 x1) (last, (i : Int)) = some b
 | 0, i, last, hi => ⟨true, Za (by
   unfold Z2h
   dsimp only
   rw [if_neg (by rw [pilt]; simp only [ofN, xlen]; omega)])⟩
 | m + 1, i, last, hi => by
  have hB : Z2h r2 x1 (last, (i : Int)) = some (.inr false) ∨ ∃ y, Z2h r2 x1 (last, (i : Int)) = some (.inl (y, ((i + 1 : Nat) : Int))) := by
   unfold Z2h
   dsimp only
   rw [if_pos (by rw [pilt]; simp only [ofN, xlen]; omega), if_pos (by simp only [ofN, xlen]; omega), pnext (by omega)]
   repeat' split
   all_goals first | exact .inl rfl | exact .inr ⟨_, rfl⟩
  rcases hB with h1 | ⟨y, h1⟩
  ·exact ⟨false, Za h1⟩
  obtain ⟨b, h2⟩ := Zkq h m (i + 1) y (by omega)
  exact ⟨b, by rw [← h2]; exact Ze h1⟩
theorem Zkk {r1 r2 : List D} {x1 x2 : Int} {l1 l2 : List Int} {b1 : Bool} (h : r1.length ≤ 1000000) (hq : ∀ i, i < r1.length → (D.toL (getD r1 i)).length ≤ 1000000) : ∀ (m i : Nat), i + m = r1.length → ∃ y, iter (Z2f r1 x1 l1 x2 b1 l2 r2) (i : Int) = some y
 | 0, i, hi => ⟨-1, Za (by
   unfold Z2f
   dsimp only
   rw [if_neg (by rw [pilt]; simp only [ofN, xlen]; omega)])⟩
 | m + 1, i, hi => by
  obtain ⟨b, hb⟩ := Zkq (x1 := x1) (hq i (by omega)) (D.toL (getD r1 i)).length 0 0 (by omega)
  have hin : Z3m (D.toL (getD r1 i)) x1 l1 x2 b1 l2 r2 = some (bnot b) := by
   unfold Z3m Z4m
   have hb' : iter (Z2h (D.toL (getD r1 i)) x1) ((0 : Int), (0 : Int)) = some b := hb
   exact Zj hb' rfl
  have hB : Z2f r1 x1 l1 x2 b1 l2 r2 (i : Int) = some (.inr (i : Int)) ∨ Z2f r1 x1 l1 x2 b1 l2 r2 (i : Int) = some (.inl ((i + 1 : Nat) : Int)) := by
   unfold Z2f
   dsimp only
   rw [if_pos (by rw [pilt]; simp only [ofN, xlen]; omega), if_pos (by simp only [ofN, xlen]; omega), pnext (by omega), ptoN, hin, Z8]
   split
   ·exact .inl rfl
   exact .inr rfl
  rcases hB with h1 | h1
  ·exact ⟨_, Za h1⟩
  obtain ⟨y, h2⟩ := Zkk (x1 := x1) (x2 := x2) (l1 := l1) (l2 := l2) (b1 := b1) (r2 := r2) h hq m (i + 1) (by omega)
  exact ⟨y, by rw [← h2]; exact Ze h1⟩
theorem Zuk {r1 : List D} {x1 x2 : Int} {l1 l2 : List Int} {b1 : Bool} (h : r1.length ≤ 1000000) (hq : ∀ i, i < r1.length → (D.toL (getD r1 i)).length ≤ 1000000) : ∃ b, Z3n x1 l1 x2 b1 l2 r1 = some b ∧ (b = true → r1.length = l1.length) := by
 obtain ⟨y, hy⟩ := Zkk (r2 := r1) (x1 := x1) (x2 := x2) (l1 := l1) (l2 := l2) (b1 := b1) h hq r1.length 0 (by omega)
 have hc : Z3i r1 x1 l1 x2 b1 l2 r1 = some (ile 0 y) := by
  unfold Z3i Z4k
  have hy' : iter (Z2f r1 x1 l1 x2 b1 l2 r1) (0 : Int) = some y := hy
  exact Zj hy' rfl
 unfold Z3n
 rw [hc, Z8]
 by_cases c1 : ilt (8 : Int) (ofN (xlen l1)) = true
 ·rw [if_pos c1]; exact ⟨_, rfl, fun e => by cases e⟩
 rw [if_neg c1]
 by_cases c2 : ieq (ofN (xlen r1)) (ofN (xlen l1)) = true
 ·rw [if_pos c2]
  rw [pieq] at c2
  have c3 : r1.length = l1.length := by simp only [ofN, xlen] at c2; omega
  repeat' split
  all_goals exact ⟨_, rfl, fun _ => c3⟩
 rw [if_neg c2]; exact ⟨_, rfl, fun e => by cases e⟩
theorem Zfg {n : Nat} {g : Nat → A} : (tokensS n g).length = n := by simp [tokensS]
theorem Z1k {n : Nat} {g : Nat → A} : (queuesS n g).length = n := by simp [queuesS]
theorem Z7m {n i : Nat} {g : Nat → A} (h : i < n) : D.toL (getD (queuesS n g) i) = (g i).l.map mkP := by
 rw [pgetD (by rw [Z1k]; exact h)]; simp [queuesS, D.toL]
theorem Zwp {n i : Nat} {g : Nat → A} (h : i < n) : getI (tokensS n g) i = (g i).bt := by
 rw [pgetI (by rw [Zfg]; exact h)]; simp [tokensS]
theorem Zs4 (l : List Pk) : (l.map mkP).map pk = l := by
 rw [List.map_map]
 have : pk ∘ mkP = id := by funext p; rfl
 rw [this, List.map_id]
theorem Zue {s : List UInt8} {b2 b1 : Bool} {df sq t : Int} {C R r : List D} {n : Nat} {q d : List Int} {g : Nat → A} (hR : Rep r n g) (hn : n ≤ 1000) (hd : d.length ≤ 1000) (hg : ∀ i, i < n → AOk (g i)) :
  ∃ e r', Z3f sq (tokensS n g) t b1 d (queuesS n g) s b2 df sq C R n t b1 r q d = some (e, sq, t, b1, r', d) ∧ Rep r' n g := by
 unfold Z3f
 obtain ⟨b, h1, h2⟩ := Zuk (r1 := queuesS n g) (x1 := sq) (x2 := t) (l1 := tokensS n g) (l2 := d) (b1 := b1) (by rw [Z1k]; omega) (fun i hi => by
  rw [Z1k] at hi
  rw [Z7m hi, List.length_map]; have := (hg i hi).n; omega)
 rw [h1, Z8]
 cases b with
 | false => exact ⟨1, r, rfl, hR⟩
 | true =>
  dsimp only
  rw [if_pos rfl, if_pos (by rw [pieq]; simp only [ofN, xlen, Zfg])]
  have hring : ∃ b, Z2w t b1 d t b1 q d = some (b, t, b1, d) := by
   unfold Z2w
   have hc : Z2y t b1 d = some d := by
    have : Z2y t b1 d = Z21 t b1 d := rfl
    rw [this]; exact Zki hd
   rw [hc, Z8]
   repeat' split
   all_goals exact ⟨_, rfl⟩
  obtain ⟨b, hb⟩ := hring
  rw [hb, Z8]
  dsimp only
  have key : ∀ (m i : Nat) (r4 : List D), i + m = n → Rep r4 n g → ∃ r', iter (Z5g n (tokensS n g) (queuesS n g) sq t b1 d) ((i : Int), r4) = some ((0 : Int), sq, t, b1, r', d) ∧ Rep r' n g := by
   intro m
   induction m with
   | zero =>
    intro i r4 hi h4
    refine ⟨r4, Za ?_, h4⟩
    unfold Z5g
    dsimp only
    rw [if_neg (by rw [pilt]; simp only [ofN]; omega)]
   | succ m ih =>
    intro i r4 hi h4
    have hin : i < n := by omega
    obtain ⟨ring, f, he, hqr⟩ := h4.at_ i hin
    have he' : getD r4 i = encA (g i) ring f := he
    have hA := hg i hin
    have hAn := hA.n
    obtain ⟨f', r', hld, hqr'⟩ := Zkm (x := (g i).ql) (y := (f : Int)) (z := ((g i).l.length : Int)) (s := (g i).l.map mkP) (r := ring) (by rw [List.length_map]; omega) hqr.big
    rw [Zs4, List.length_map] at hqr'
    rw [List.length_map] at hld
    obtain ⟨r2, k1, k2⟩ := ih (i + 1) (setD r4 i (encA (g i) r' f')) (by omega) (h4.set hin ⟨r', f', rfl, hqr'⟩ fun j _ _ => rfl)
    refine ⟨r2, ?_, k2⟩
    rw [← k1]
    apply Ze
    unfold Z5g
    dsimp only
    rw [if_pos (by rw [pilt]; simp only [ofN]; omega), if_pos (by simp only [ofN]; omega), if_pos (by simp only [ofN, xlen, Zfg]; omega), if_pos (by simp only [ofN, xlen, Z1k]; omega), ptoN, he', Z7m hin, Zwp hin]
    refine Zj hld ?_
    rw [pnext (by omega)]
    rfl
  obtain ⟨r', k⟩ := key n 0 r (by omega) hR
  exact ⟨0, r', k⟩
theorem Z7y {q q' : Nat → List Pk} : ∀ {n : Nat}, (∀ i, i < n → (q i).length = (q' i).length) → sumL q n = sumL q' n
 | 0, _ => rfl
 | n + 1, h => by
  simp only [sumL]
  rw [Z7y (fun i hi => h i (by omega)), h n (by omega)]
theorem Z56 {q q' : Nat → List Pk} {c : Nat} : ∀ {n : Nat}, c < n → (∀ i, i < n → i ≠ c → (q' i).length = (q i).length) → sumL q' n + (q c).length = sumL q n + (q' c).length
 | 0, h, _ => by omega
 | n + 1, h, hq => by
  simp only [sumL]
  by_cases e : c = n
  ·subst e
   have := Z7y (q := q') (q' := q) (n := c) fun i hi => hq i (by omega) (by omega)
   omega
  have := Z56 (n := n) (c := c) (by omega) fun i hi hne => hq i (by omega) hne
  have := hq n (by omega) (by omega)
  omega
theorem Zlz {q q1 q2 : Nat → List Pk} : ∀ {n : Nat}, (∀ i, i < n → (q i).length = (q1 i).length + (q2 i).length) → sumL q n = sumL q1 n + sumL q2 n
 | 0, _ => rfl
 | n + 1, h => by
  simp only [sumL]
  rw [Zlz (fun i hi => h i (by omega)), h n (by omega)]
  omega
theorem Z7z {n : Nat} : sumL (fun _ => []) n = 0 := by
 induction n with
 | zero => rfl
 | succ n ih => simp only [sumL, ih]; rfl
theorem Zm0 {cls : Int → Int} {n : Nat} (hc : ∀ x, 0 ≤ cls x ∧ cls x < (n : Int)) : ∀ l : List Pk, sumL (fun c => selQ cls c l) n = l.length
 | [] => by
  have : (fun c => selQ cls c []) = fun _ => [] := by funext c; rfl
  rw [this, Z7z]; rfl
 | p :: l => by
  have ih := Zm0 hc l
  have hp := hc p.2.1
  have e := Z56 (q := fun c => selQ cls c l) (q' := fun c => selQ cls c (p :: l)) (c := (cls p.2.1).toNat) (n := n) (by omega) (fun i hi hne => by
   simp only [selQ]
   rw [List.filter_cons_of_neg (by simp; omega)])
  have h1 : selQ cls (cls p.2.1).toNat (p :: l) = p :: selQ cls (cls p.2.1).toNat l := by
   simp only [selQ]
   rw [List.filter_cons_of_pos (by simp; omega)]
  rw [h1] at e
  simp only [List.length_cons] at e ⊢
  omega
theorem Zdr {cls : Int → Int} {qs : Nat → List Pk} {n : Nat} (hc : ∀ x, 0 ≤ cls x ∧ cls x < (n : Int)) : ∀ i, sumL (fun c => accQ cls qs c i) n = sumL qs i
 | 0 => by
  have : (fun c => accQ cls qs c 0) = fun _ => [] := by funext c; rfl
  rw [this, Z7z]; rfl
 | i + 1 => by
  rw [Zlz (q1 := fun c => accQ cls qs c i) (q2 := fun c => selQ cls c (qs i)) (fun c _ => by simp only [accQ]; exact Z7f _ _ _ (Nat.le_refl _)), Zdr hc i, Zm0 hc]
  rfl
theorem Z65 {x : Pk} : ∀ (n : Nat) (a b : List Pk), a.length + b.length ≤ n → (x ∈ mrg a b ↔ x ∈ a ∨ x ∈ b)
 | n, [], b, h => by simp [mrg]
 | n, p :: a, [], h => by simp [mrg]
 | 0, p :: a, q :: b, h => by simp at h
 | n + 1, p :: a, q :: b, h => by
  simp only [List.length_cons] at h
  rw [mrg]
  split
  ·rw [List.mem_cons, Z65 n (p :: a) b (by simp only [List.length_cons]; omega), List.mem_cons, List.mem_cons]
   constructor
   ·rintro (h1 | h1 | h1)
    ·exact .inr (.inl h1)
    ·exact .inl h1
    exact .inr (.inr h1)
   rintro (h1 | h1 | h1)
   ·exact .inr (.inl h1)
   ·exact .inl h1
   exact .inr (.inr h1)
  rw [List.mem_cons, Z65 n a (q :: b) (by simp only [List.length_cons]; omega), List.mem_cons, List.mem_cons]
  constructor
  ·rintro (h1 | h1 | h1)
   ·exact .inl (.inl h1)
   ·exact .inl (.inr h1)
   exact .inr h1
  rintro ((h1 | h1) | h1)
  ·exact .inl h1
  ·exact .inr (.inl h1)
  exact .inr (.inr h1)
theorem Z64 {cls : Int → Int} {qs : Nat → List Pk} {c : Nat} {x : Pk} : ∀ n, x ∈ accQ cls qs c n ↔ ∃ i, i < n ∧ x ∈ qs i ∧ cls x.2.1 = (c : Int)
 | 0 => by simp [accQ]
 | n + 1 => by
  simp only [accQ]
  rw [Z65 _ _ _ (Nat.le_refl _), Z64 n]
  simp only [selQ, List.mem_filter, beq_iff_eq]
  constructor
  ·rintro (⟨i, h1, h2⟩ | h)
   ·exact ⟨i, by omega, h2⟩
   exact ⟨n, by omega, h⟩
  rintro ⟨i, h1, h2⟩
  by_cases e : i = n
  ·subst e; exact .inr h2
  exact .inl ⟨i, by omega, h2⟩
structure W where
 key : List UInt8
 up : Bool
 df : Int
 sq : Int
 C : List D
 R : List D
 t : Int
 ad : Bool
 d : List Int
 g : Nat → A
def W.cls (w : W) : Int → Int := clsA w.R w.df
def clsU (C : List D) : Prop := ∀ c ∈ C, U (cQ c) ∧ U (D.toI (D.fld c 2)) ∧ U (D.toI (D.fld c 3))
structure SW (w : W) (r : List D) (m : Nat) : Prop where
 right : RightP w.C w.R w.df
 rl : w.R.length ≤ 1000000
 ud : clsU w.C
 rep : Rep r w.C.length w.g
 ok : ∀ j, j < w.C.length → AOk (w.g j)
 of : ∀ j, j < w.C.length → ∃ bt l, w.g j = { freshA (getD w.C j) with bt := bt, l := l }
 ring : RingOk (w.C.map cQ) w.t w.d
 sq : 0 ≤ w.sq ∧ w.sq ≤ (m : Int)
 tot : sumL (qsOf w.g) w.C.length ≤ m
theorem SW.cls {w : W} {r : List D} {m : Nat} (h : SW w r m) (x : Int) : 0 ≤ w.cls x ∧ w.cls x < (w.C.length : Int) := Z8l h.right.df h.right.rules
def z3 : Pk := (0, 0, 0)
inductive Ev (w w' : W) (a b : Pk) : Prop
 | same (ha : a = z3) (hb : b = z3) (hs : w'.sq = w.sq) (hn : w'.C.length = w.C.length) (hc : w'.cls = w.cls) (hq : ∀ j, j < w.C.length → (w'.g j).l = (w.g j).l)
 | came (flow size : Int) (c : Nat) (hp : badP flow size = false) (hcl : w.cls flow = (c : Int)) (hl : ((w.g c).l.length : Int) < (w.g c).ql) (ha : a = (w.sq + 1, flow, size)) (hb : b = z3) (hs : w'.sq = w.sq + 1) (hn : w'.C.length = w.C.length) (hc : w'.cls = w.cls) (hq : ∀ j, j < w.C.length → (w'.g j).l = if j = c then (w.g c).l ++ [a] else (w.g j).l)
 | went (c : Nat) (l : List Pk) (hcn : c < w.C.length) (hl : (w.g c).l = b :: l) (ha : a = z3) (hs : w'.sq = w.sq) (hn : w'.C.length = w.C.length) (hc : w'.cls = w.cls) (hq : ∀ j, j < w.C.length → (w'.g j).l = if j = c then l else (w.g j).l)
 | moved (ha : a = z3) (hb : b = z3) (hs : w'.sq = w.sq) (hq : ∀ c, c < w'.C.length → (w'.g c).l = accQ w'.cls (qsOf w.g) c w.C.length)
theorem SW.more {w : W} {r r' : List D} {m : Nat} (h : SW w r m) (hr : Rep r' w.C.length w.g) : SW w r' (m + 1) :=
 { h with rep := hr, sq := by have := h.sq; omega, tot := by have := h.tot; omega }
theorem SW.arr {w : W} {r r' : List D} {m : Nat} (h : SW w r m) (hm : m ≤ 1000) {flow size : Int} (hR : Rep r' w.C.length (arrS w.g w.sq (w.cls flow).toNat flow size).2.2.2) :
  ∃ w' : W, w' = { w with sq := (arrS w.g w.sq (w.cls flow).toNat flow size).2.2.1, g := (arrS w.g w.sq (w.cls flow).toNat flow size).2.2.2 } ∧ SW w' r' (m + 1) ∧ Ev w w' (arrS w.g w.sq (w.cls flow).toNat flow size).1 z3 := by
 refine ⟨_, rfl, ?_⟩
 have hcl := h.cls flow
 have hce : w.cls flow = ((w.cls flow).toNat : Int) := by omega
 have hcn : (w.cls flow).toNat < w.C.length := by omega
 generalize (w.cls flow).toNat = c at *
 revert hR
 unfold arrS
 by_cases c1 : badP flow size = true
 ·rw [if_pos c1]; exact fun hR => ⟨h.more hR, .same rfl rfl rfl rfl rfl fun _ _ => rfl⟩
 rw [if_neg c1]
 by_cases c2 : (w.g c).ql ≤ ((w.g c).l.length : Int)
 ·rw [if_pos c2]; exact fun hR => ⟨h.more hR, .same rfl rfl rfl rfl rfl fun _ _ => rfl⟩
 rw [if_neg c2]
 intro hR
 have hsz : 1 ≤ size ∧ size ≤ 1500 := by
  simp only [badP, Bool.or_eq_true, decide_eq_true_eq] at c1; omega
 have hA := h.ok c hcn
 have htot := h.tot
 have hl1 : (w.g c).l.length ≤ 1000 := by
  have := Z6h (qs := qsOf w.g) (i := c + 1) (j := w.C.length) (by omega)
  have e : (qsOf w.g c).length = (w.g c).l.length := rfl
  simp only [sumL] at this; omega
 have hp : AOk (putA (w.g c) (w.sq + 1, flow, size)) := ⟨hA.q, hA.br, hA.bb, hA.bt, by simp [putA]; omega, fun p hp => by
  rcases List.mem_append.1 hp with hp | hp
  ·exact hA.sz p hp
  simp at hp; subst hp; exact hsz⟩
 have hS := h.sq
 refine ⟨⟨h.right, h.rl, h.ud, hR, fun j hj => ?_, fun j hj => ?_, h.ring, by dsimp only; omega, ?_⟩, .came flow size c (by simpa using c1) hce (by omega) rfl rfl rfl rfl rfl fun j hj => ?_⟩
 ·by_cases e : j = c
  ·subst e; simpa [updA] using hp
  simpa [updA, e] using h.ok j hj
 ·obtain ⟨bt, l, e1⟩ := h.of j hj
  by_cases e : j = c
  ·subst e
   refine ⟨bt, l ++ [(w.sq + 1, flow, size)], ?_⟩
   dsimp only at hj ⊢
   simp only [updA, if_true, putA, e1]
  exact ⟨bt, l, by simpa [updA, e] using e1⟩
 ·have := Z56 (q := qsOf w.g) (q' := qsOf (updA w.g c (putA (w.g c) (w.sq + 1, flow, size)))) (c := c) (n := w.C.length) hcn (fun i hi hne => by simp [qsOf, updA, hne])
  have e : (qsOf (updA w.g c (putA (w.g c) (w.sq + 1, flow, size))) c).length = (qsOf w.g c).length + 1 := by simp [qsOf, updA, putA]
  dsimp only
  omega
 by_cases e : j = c
 ·subst e; simp [updA, putA]
 simp [updA, e]
theorem SW.tick {w : W} {r r' : List D} {m : Nat} {x : Int} (h : SW w r m) (hx : U x) (hR : Rep r' w.C.length fun i => tickA x (w.g i)) : SW { w with g := fun i => tickA x (w.g i) } r' (m + 1) ∧ Ev w { w with g := fun i => tickA x (w.g i) } z3 z3 :=
 ⟨⟨h.right, h.rl, h.ud, hR, fun j hj => Zwo hx (h.ok j hj), fun j hj => by obtain ⟨bt, l, e⟩ := h.of j hj; exact ⟨_, l, by dsimp only; rw [e]; rfl⟩, h.ring, by have := h.sq; dsimp only; omega, by have := h.tot; show sumL (qsOf w.g) w.C.length ≤ _; omega⟩, .same rfl rfl rfl rfl rfl fun _ _ => rfl⟩
theorem SW.go {w : W} {r r' : List D} {m : Nat} (h : SW w r m) (hR : Rep r' w.C.length (nextS w.up w.C.length w.g (w.C.map cQ) w.t w.ad w.d).2.2) :
  ∃ w' : W, w' = { w with t := (nextS w.up w.C.length w.g (w.C.map cQ) w.t w.ad w.d).2.1.1, ad := (nextS w.up w.C.length w.g (w.C.map cQ) w.t w.ad w.d).2.1.2.1, d := (nextS w.up w.C.length w.g (w.C.map cQ) w.t w.ad w.d).2.1.2.2, g := (nextS w.up w.C.length w.g (w.C.map cQ) w.t w.ad w.d).2.2 } ∧
   SW w' r' (m + 1) ∧ Ev w w' z3 (nextS w.up w.C.length w.g (w.C.map cQ) w.t w.ad w.d).1.1 := by
 refine ⟨_, rfl, ?_⟩
 obtain ⟨hok, hgo⟩ := Zjm (up := w.up) (ad := w.ad) h.ok (by simp) h.ring
 revert hR
 unfold nextS
 generalize nextF (w.C.map cQ) (viewsS w.up w.C.length w.g) w.t w.ad w.d = v at *
 obtain ⟨v1, v2, v3, v4⟩ := v
 dsimp only at hok hgo ⊢
 have hsq := h.sq
 have htot := h.tot
 rcases hgo with rfl | ⟨c, p, l, rfl, hc, hl, hup, hsh⟩
 ·rw [if_pos (by omega)]
  intro hR
  exact ⟨⟨h.right, h.rl, h.ud, hR, h.ok, h.of, hok, by dsimp only; omega, by dsimp only; omega⟩, .same rfl rfl rfl rfl rfl fun _ _ => rfl⟩
 rw [if_neg (by omega)]
 simp only [Int.toNat_natCast]
 have hgS : goS w.g c = (p, updA w.g c (popA (w.g c) p l)) := by unfold goS; rw [hl]
 rw [hgS]
 intro hR
 have hA := h.ok c hc
 have hb := hA.bt.lo
 have hb1 := hA.bt.hi
 have hp2 := hA.sz p (by rw [hl]; simp)
 have hn5 := hA.n
 have hp : AOk (popA (w.g c) p l) := ⟨hA.q, hA.br, hA.bb, by
  have := hA.bt
  unfold popA
  dsimp only
  split
  ·split
   ·exact this
   unfold U; omega
  exact this, by rw [hl] at hn5; simp at hn5; simp [popA]; omega, fun y hy => hA.sz y (by rw [hl]; exact List.mem_cons_of_mem _ hy)⟩
 refine ⟨⟨h.right, h.rl, h.ud, hR, fun j hj => ?_, fun j hj => ?_, hok, by dsimp only; omega, ?_⟩, .went c l hc hl rfl rfl rfl rfl fun j hj => ?_⟩
 ·by_cases e : j = c
  ·subst e; simpa [updA] using hp
  simpa [updA, e] using h.ok j hj
 ·obtain ⟨bt, l2, e1⟩ := h.of j hj
  by_cases e : j = c
  ·subst e
   refine ⟨(popA (w.g j) p l).bt, l, ?_⟩
   dsimp only at hj ⊢
   simp only [updA, if_true]
   have : popA (w.g j) p l = { w.g j with bt := (popA (w.g j) p l).bt, l := l } := rfl
   rw [this, e1]
  exact ⟨bt, l2, by simpa [updA, e] using e1⟩
 ·have := Z56 (q := qsOf w.g) (q' := qsOf (updA w.g c (popA (w.g c) p l))) (c := c) (n := w.C.length) hc (fun i hi hne => by simp [qsOf, updA, hne])
  have e : (qsOf (updA w.g c (popA (w.g c) p l)) c).length + 1 = (qsOf w.g c).length := by simp [qsOf, updA, popA, hl]
  dsimp only
  omega
 by_cases e : j = c
 ·subst e; simp [updA, popA]
 simp [updA, e]
theorem SW.apply {w : W} {r r' : List D} {m : Nat} {s1 : List UInt8} {b1 : Bool} {C' R' : List D} {df' : Int} (h : SW w r m) (hm : m ≤ 1000) (hr : R'.length ≤ 1000000) (hu : clsU C') (hP : RightP C' R' df')
  (hR : Rep r' C'.length fun c => newA (getD C' c) (lastB w.g (cKey (getD C' c)) w.C.length) (accQ (clsA R' df') (qsOf w.g) c w.C.length)) :
  SW ⟨s1, b1, df', w.sq, C', R', 0, false, List.replicate C'.length 0, fun c => newA (getD C' c) (lastB w.g (cKey (getD C' c)) w.C.length) (accQ (clsA R' df') (qsOf w.g) c w.C.length)⟩ r' (m + 1) ∧
  Ev w ⟨s1, b1, df', w.sq, C', R', 0, false, List.replicate C'.length 0, fun c => newA (getD C' c) (lastB w.g (cKey (getD C' c)) w.C.length) (accQ (clsA R' df') (qsOf w.g) c w.C.length)⟩ z3 z3 := by
 have h1 := hP.n1; have h8 := hP.n8
 have hcls : ∀ x, 0 ≤ clsA R' df' x ∧ clsA R' df' x < (C'.length : Int) := fun x => Z8l hP.df hP.rules
 have htot := h.tot
 refine ⟨⟨hP, hr, hu, hR, fun j hj => ?_, fun j hj => ⟨_, _, rfl⟩, ⟨by dsimp only; omega, by dsimp only; simp; omega, by dsimp only; simp; omega, by dsimp only; simp, fun x hx => ?_, fun x hx => ?_⟩, by have := h.sq; dsimp only; omega, ?_⟩, .moved rfl rfl rfl fun c hc => rfl⟩
 ·have hd : getD C' j ∈ C' := by rw [pgetD hj]; exact List.getElem_mem hj
  refine Zs8 h.ok (hu _ hd) ?_ fun p hp => ?_
  ·have := Z6n (cls := clsA R' df') (qs := qsOf w.g) (c := j) w.C.length
   omega
  obtain ⟨i, hi, hp1, _⟩ := (Z64 _).1 hp
  exact (h.ok i hi).sz p hp1
 ·obtain ⟨d, hd, rfl⟩ := List.mem_map.1 hx
  exact (hu d hd).1
 ·have := List.eq_of_mem_replicate hx
  subst this; unfold U; omega
 have : sumL (qsOf fun c => newA (getD C' c) (lastB w.g (cKey (getD C' c)) w.C.length) (accQ (clsA R' df') (qsOf w.g) c w.C.length)) C'.length = sumL (qsOf w.g) w.C.length := Zdr hcls _
 dsimp only
 rw [this]; omega
theorem Z85 {x : Int} (h : (Lit.int .u64 x).wf = true) : U x := by
 have : 0 ≤ x ∧ x ≤ 18446744073709551615 := by simpa [Lit.wf, IntKind.min, IntKind.max, IntKind.signed, IntKind.bits, Int.lt_add_one_iff, Int.le_sub_one_iff] using h
 unfold U; omega
theorem Zyl {x : Int} (h : (Lit.int .u8 x).wf = true) : 0 ≤ x ∧ x < 256 := by
 have : 0 ≤ x ∧ x ≤ 255 := by simpa [Lit.wf, IntKind.min, IntKind.max, IntKind.signed, IntKind.bits, Int.lt_add_one_iff, Int.le_sub_one_iff] using h
 omega
def pCls (d : D) : List D := D.toL (D.fld d 2)
def pRules (d : D) : List D := D.toL (D.fld (D.fld d 3) 0)
def pDf (d : D) : Int := D.toI (D.fld (D.fld d 3) 1)
def fewP (r1 : List D) (i : Nat) : Bool := !decide (20 < (pCls (getD r1 i)).length) && !decide (40 < (pRules (getD r1 i)).length)
def fewB (r1 r2 : List D) : Bool := allN r1.length (fewP r1) && (decide (0 < r1.length) && (decide (r1.length ≤ 10) && decide (r2.length ≤ 300)))
theorem Ztw {r1 r2 : List D} (h : r1.length ≤ maxLen) : Z3s r1 r2 = some (fewB r1 r2) := by
 unfold Z3s fewB
 unfold maxLen at h
 refine Z61 (P := fewP r1) (fun i hi => ?_) ?_
 ·unfold Z6m fewP pCls pRules
  dsimp only
  rw [if_pos (by rw [pilt]; simp only [ofN, xlen]; omega), if_pos (by simp only [ofN, xlen]; omega), ptoN]
  simp only [pilt, ofN, xlen]
  by_cases c1 : 20 < (D.toL (D.fld (getD r1 i) 2)).length
  ·rw [if_pos (by omega)]; simp [c1]
  rw [if_neg (by omega), if_pos (by omega)]
  by_cases c2 : 40 < (D.toL (D.fld (D.fld (getD r1 i) 3) 0)).length
  ·rw [if_pos (by omega)]; simp [c2]
  rw [if_neg (by omega), pnext (by omega)]
  simp [c1, c2]
 unfold Z6m
 dsimp only
 rw [if_neg (by rw [pilt]; simp only [ofN, xlen]; omega)]
 simp only [pilt, pile, ofN, xlen]
 by_cases c1 : 0 < r1.length
 ·rw [if_pos (by omega)]
  by_cases c2 : r1.length ≤ 10
  ·rw [if_pos (by omega)]
   simp only [c1, c2, decide_true, Bool.true_and, ile]
   congr 2
   rw [decide_eq_decide]; omega
  rw [if_neg (by omega)]; simp [c2]
 rw [if_neg (by omega)]; simp [c1]
theorem Zre {r1 r2 : List D} (h : fewB r1 r2 = true) : 1 ≤ r1.length ∧ r1.length ≤ 10 ∧ r2.length ≤ 300 ∧ ∀ i, i < r1.length → (pCls (getD r1 i)).length ≤ 20 ∧ (pRules (getD r1 i)).length ≤ 40 := by
 unfold fewB fewP at h
 simp only [Bool.and_eq_true, Bool.not_eq_true', decide_eq_false_iff_not, Z4q, decide_eq_true_eq] at h
 obtain ⟨h1, h2, h3, h4⟩ := h
 exact ⟨by omega, h3, h4, fun i hi => by have := h1 i hi; omega⟩
def portT : Ty := .st [.str, .bool, .row 83 (.st [.str, .int .u64, .int .u64, .int .u64, .int .i64, .bool]), .st [.row 96 (.st [.int .i64, .int .i64, .int .i64]), .int .i64]]
theorem Zup {d : D} (h : portT.rng d) : ∀ c ∈ pCls d, U (cQ c) ∧ U (D.toI (D.fld c 2)) ∧ U (D.toI (D.fld c 3)) := fun c hc => by
 simp only [portT, Ty.rng, Ty.rngL] at h
 have h1 := h.2.2.1.2 c hc
 exact ⟨Z85 h1.2.1, Z85 h1.2.2.1, Z85 h1.2.2.2.1⟩
structure PortsOk (r1 : List D) : Prop where
 n : 1 ≤ r1.length ∧ r1.length ≤ 10
 cls : ∀ i, i < r1.length → (pCls (getD r1 i)).length ≤ 20
 rules : ∀ i, i < r1.length → (pRules (getD r1 i)).length ≤ 40
 ud : ∀ i, i < r1.length → clsU (pCls (getD r1 i))
theorem Ztz {r1 : List D} {x : Int} (h : 1 ≤ r1.length) (hx : 0 ≤ x ∧ x < 256) : ∃ k : Nat, k < r1.length ∧ irem (iconv .i64 x) (ofN (xlen r1)) = (k : Int) := by
 refine ⟨x.toNat % r1.length, Nat.mod_lt _ (by omega), ?_⟩
 simp only [irem, iconv, ofN, xlen]
 rw [pwi64 (by omega) (by omega), Int.tmod_eq_emod_of_nonneg hx.1]
 rw [Int.natCast_emod, Int.toNat_of_nonneg hx.1]
theorem Ztt {r1 : List D} {x1 x2 x3 x4 x5 : Int} {w : W} {r : List D} {m : Nat} (hp : PortsOk r1) (S : SW w r m) (hm : m ≤ 1000) (h4 : U x4) (h5 : 0 ≤ x5 ∧ x5 < 256) :
  ∃ (a b : Pk) (w' : W) (r' : List D), Z3r r1 x1 x2 x3 x4 x5 w.key w.up w.df w.sq w.C w.R w.C.length w.t w.ad r (w.C.map cQ) w.d =
   some (a.1, a.2.1, a.2.2, b.1, b.2.1, b.2.2, w'.key, w'.up, w'.df, w'.sq, w'.C, w'.R, w'.C.length, w'.t, w'.ad, r', w'.C.map cQ, w'.d) ∧ SW w' r' (m + 1) ∧ Ev w w' a b ∧ (x1 ≠ 3 → x1 ≠ 4 → w'.C = w.C ∧ w'.R = w.R ∧ w'.df = w.df ∧ w'.key = w.key ∧ w'.up = w.up) := by
 have h8 := S.right.n8
 have hsq := S.sq
 unfold Z3r
 by_cases c0 : x1 = 0
 ·rw [if_pos (by rw [pieq]; exact c0)]
  obtain ⟨r', e1, e2⟩ := Z7g (flow := x2) (size := x3) (df := w.df) (seq := w.sq) (x5 := w.t) (s := w.key) (b1 := w.up) (b2 := w.ad) (r1 := w.C) (r2 := w.R) (l1 := w.C.map cQ) (l2 := w.d) S.rep S.rl (S.cls x2) S.ok (by omega)
  obtain ⟨w', rfl, k1, k2⟩ := S.arr hm (flow := x2) (size := x3) e2
  exact ⟨_, _, _, r', Zj e1 rfl, k1, k2, fun _ _ => ⟨rfl, rfl, rfl, rfl, rfl⟩⟩
 rw [if_neg (by rw [pieq]; exact c0)]
 by_cases c1 : x1 = 1
 ·rw [if_pos (by rw [pieq]; exact c1)]
  obtain ⟨r', e1, e2⟩ := Zkv (x := x4) (df := w.df) (seq := w.sq) (x5 := w.t) (s := w.key) (b1 := w.up) (b2 := w.ad) (r1 := w.C) (r2 := w.R) (l1 := w.C.map cQ) (l2 := w.d) S.rep h4 (by omega) S.ok
  obtain ⟨k1, k2⟩ := S.tick h4 e2
  exact ⟨z3, z3, { w with g := fun i => tickA x4 (w.g i) }, r', Zj e1 rfl, k1, k2, fun _ _ => ⟨rfl, rfl, rfl, rfl, rfl⟩⟩
 rw [if_neg (by rw [pieq]; exact c1)]
 by_cases c2 : x1 = 2
 ·rw [if_pos (by rw [pieq]; exact c2)]
  obtain ⟨r', e1, e2⟩ := Z7i (up := w.up) (ad := w.ad) (df := w.df) (seq := w.sq) (t := w.t) (s := w.key) (r1 := w.C) (r2 := w.R) (q := w.C.map cQ) (d := w.d) S.rep (by omega) S.ok (by simp) S.ring
  obtain ⟨w', rfl, k1, k2⟩ := S.go e2
  exact ⟨z3, _, _, r', Zj e1 rfl, k1, k2, fun _ _ => ⟨rfl, rfl, rfl, rfl, rfl⟩⟩
 rw [if_neg (by rw [pieq]; exact c2)]
 obtain ⟨k, hk, hi⟩ := Ztz hp.n.1 h5
 have hn := hp.n
 have hcl := hp.cls k hk
 have hru := hp.rules k hk
 have app : ∀ b2 : Bool, ∃ (e : Int) (w' : W) (r' : List D), Zt (D.toS (D.fld (getD r1 k) 0)) (D.toB (D.fld (getD r1 k) 1)) (D.toL (D.fld (getD r1 k) 2)) (D.toL (D.fld (D.fld (getD r1 k) 3) 0)) (D.toI (D.fld (D.fld (getD r1 k) 3) 1)) b2 w.key w.up w.df w.sq w.C w.R w.C.length w.t w.ad r (w.C.map cQ) w.d =
   some (e, w'.key, w'.up, w'.df, w'.C, w'.R, w'.C.length, w'.t, w'.ad, r', w'.C.map cQ, w'.d) ∧ w'.sq = w.sq ∧ SW w' r' (m + 1) ∧ Ev w w' z3 z3 := fun b2 => by
  have htot := S.tot
  rcases Ztm (s1 := D.toS (D.fld (getD r1 k) 0)) (s2 := w.key) (b1 := D.toB (D.fld (getD r1 k) 1)) (b2 := b2) (b3 := w.up) (b4 := w.ad) (C' := pCls (getD r1 k)) (R' := pRules (getD r1 k)) (df' := pDf (getD r1 k)) (df := w.df) (sq := w.sq) (t := w.t) (R := w.R) (q := w.C.map cQ) (d := w.d) S.rep (by omega) S.ok (by omega) (by omega) (by omega) with ⟨e, _, _, e1, _⟩ | ⟨hb, r', e1, e2⟩
  ·exact ⟨e, w, r, e1, rfl, S.more S.rep, .same rfl rfl rfl rfl rfl fun _ _ => rfl⟩
  obtain ⟨k1, k2⟩ := S.apply (s1 := D.toS (D.fld (getD r1 k) 0)) (b1 := D.toB (D.fld (getD r1 k) 1)) hm (by omega) (hp.ud k hk) (Z6c hb) e2
  exact ⟨0, ⟨D.toS (D.fld (getD r1 k) 0), D.toB (D.fld (getD r1 k) 1), pDf (getD r1 k), w.sq, pCls (getD r1 k), pRules (getD r1 k), 0, false, List.replicate (pCls (getD r1 k)).length 0, _⟩, r', e1, rfl, k1, k2⟩
 by_cases c3 : x1 = 3
 ·rw [if_pos (by rw [pieq]; exact c3), if_pos (by rw [pieq]; exact c3), if_pos (by simp only [ofN, xlen]; omega), hi, if_pos (by simp only [ofN, xlen]; omega), ptoN]
  obtain ⟨e, w', r', e1, e2, e3, e4⟩ := app (ieq x1 4)
  refine ⟨z3, z3, w', r', Zj e1 ?_, e3, e4, fun h _ => absurd c3 h⟩
  dsimp only
  rw [e2]; rfl
 rw [if_neg (by rw [pieq]; exact c3)]
 by_cases c4 : x1 = 4
 ·rw [if_pos (by rw [pieq]; exact c4), if_pos (by simp only [ofN, xlen]; omega), hi, if_pos (by simp only [ofN, xlen]; omega), ptoN]
  obtain ⟨e, w', r', e1, e2, e3, e4⟩ := app (ieq x1 4)
  refine ⟨z3, z3, w', r', Zj e1 ?_, e3, e4, fun _ h => absurd c4 h⟩
  dsimp only
  rw [e2]; rfl
 rw [if_neg (by rw [pieq]; exact c4)]
 by_cases c5 : x1 = 5
 ·rw [if_pos (by rw [pieq]; exact c5)]
  have hd : w.d.length ≤ 1000 := by have := S.ring.l; simp at this; omega
  have e1 := Zd2 (s := w.key) (b := w.up) (b2 := w.ad) (df := w.df) (seq := w.sq) (x := w.t) (r1 := w.C) (r2 := w.R) (l1 := w.C.map cQ) (l2 := w.d) S.rep (by omega) hd S.ok
  obtain ⟨e, r', e2, e3⟩ := Zue (s := w.key) (b2 := w.up) (b1 := w.ad) (df := w.df) (sq := w.sq) (t := w.t) (C := w.C) (R := w.R) (q := w.C.map cQ) (d := w.d) S.rep (by omega) hd S.ok
  exact ⟨z3, z3, w, r', Zj e1 (Zj e2 rfl), S.more e3, .same rfl rfl rfl rfl rfl fun _ _ => rfl, fun _ _ => ⟨rfl, rfl, rfl, rfl, rfl⟩⟩
 rw [if_neg (by rw [pieq]; exact c5)]
 exact ⟨z3, z3, w, r, rfl, S.more S.rep, .same rfl rfl rfl rfl rfl fun _ _ => rfl, fun _ _ => ⟨rfl, rfl, rfl, rfl, rfl⟩⟩
def Rise (l : List Pk) : Prop := l.Pairwise fun p q => p.1 < q.1
theorem Zd8 : ∀ (n : Nat) (a b : List Pk), a.length + b.length ≤ n → Rise a → Rise b → (∀ x ∈ a, ∀ y ∈ b, x.1 ≠ y.1) → Rise (mrg a b)
 | n, [], b, h, ha, hb, _ => by simpa [mrg] using hb
 | n, p :: a, [], h, ha, hb, _ => by simpa [mrg] using ha
 | 0, p :: a, q :: b, h, _, _, _ => by simp at h
 | n + 1, p :: a, q :: b, h, ha, hb, hd => by
  simp only [List.length_cons] at h
  have hpq := hd p (by simp) q (by simp)
  have ha1 := List.pairwise_cons.1 ha
  have hb1 := List.pairwise_cons.1 hb
  rw [mrg]
  split
  ·rename_i c
   refine List.pairwise_cons.2 ⟨fun x hx => ?_, Zd8 n (p :: a) b (by simp only [List.length_cons]; omega) ha hb1.2 fun x hx y hy => hd x hx y (List.mem_cons_of_mem _ hy)⟩
   rcases (Z65 _ _ _ (Nat.le_refl _)).1 hx with hx | hx
   ·rcases List.mem_cons.1 hx with rfl | hx
    ·exact c
    have := ha1.1 x hx; omega
   exact hb1.1 x hx
  rename_i c
  refine List.pairwise_cons.2 ⟨fun x hx => ?_, Zd8 n a (q :: b) (by simp only [List.length_cons]; omega) ha1.2 hb fun x hx y hy => hd x (List.mem_cons_of_mem _ hx) y hy⟩
  rcases (Z65 _ _ _ (Nat.le_refl _)).1 hx with hx | hx
  ·exact ha1.1 x hx
  rcases List.mem_cons.1 hx with rfl | hx
  ·omega
  have := hb1.1 x hx; omega
theorem Zl8 {cls : Int → Int} {qs : Nat → List Pk} {c n : Nat} (hr : ∀ i, i < n → Rise (qs i)) (hd : ∀ i j x y, i < n → j < n → x ∈ qs i → y ∈ qs j → x.1 = y.1 → i = j) : ∀ i, i ≤ n → Rise (accQ cls qs c i)
 | 0, _ => List.Pairwise.nil
 | i + 1, hi => by
  refine Zd8 _ _ _ (Nat.le_refl _) (Zl8 hr hd i (by omega)) ((hr i (by omega)).filter _) fun x hx y hy e => ?_
  obtain ⟨j, hj, hx1, _⟩ := (Z64 _).1 hx
  have := hd j i x y (by omega) (by omega) hx1 (List.mem_filter.1 hy).1 e
  omega
def wents (l : List Int) : Nat → Int
 | 0 => 0
 | k + 1 => wents l k + getI l (k + 1)
theorem Zny {l l' : List Int} : ∀ {k : Nat}, (∀ j, j < k → getI l (j + 1) = getI l' (j + 1)) → wents l k = wents l' k
 | 0, _ => rfl
 | k + 1, h => by
  simp only [wents]
  rw [Zny (fun j hj => h j (by omega)), h k (by omega)]
theorem Znz {l l' : List Int} {j : Nat} : ∀ {k : Nat}, j < k → getI l' (j + 1) = getI l (j + 1) + 1 → (∀ i, i < k → i ≠ j → getI l' (i + 1) = getI l (i + 1)) → wents l' k = wents l k + 1
 | 0, h, _, _ => by omega
 | k + 1, h, h1, h2 => by
  simp only [wents]
  by_cases e : j = k
  ·subst e
   rw [Zny (l := l') (l' := l) (k := j) fun i hi => h2 i (by omega) (by omega)]
   omega
  rw [Znz (j := j) (k := k) (by omega) h1 fun i hi hne => h2 i (by omega) hne, h2 k (by omega) (by omega)]
  omega
theorem Zh6 {l : List Int} {i j : Nat} {x : Int} (h : i < l.length) : getI (setI l i x) j = if i = j then x else getI l j := by
 unfold getI setI
 by_cases e : i = j
 ·subst e; simp [h]
 simp [e]
structure Kp (w : W) (came : List Pk) (went : List Int) (i L : Nat) : Prop where
 sq : w.sq = (came.length : Int)
 wl : went.length = L + 2
 le : came.length ≤ i
 seqs : ∀ k, (h : k < came.length) → came[k].1 = (k : Int) + 1
 inq : ∀ c, c < w.C.length → ∀ p ∈ (w.g c).l, w.cls p.2.1 = (c : Int) ∧ ∃ k, ∃ h : k < came.length, came[k] = p ∧ getI went (k + 1) = 0
 rise : ∀ c, c < w.C.length → Rise (w.g c).l
 each : ∀ k, (h : k < came.length) → getI went (k + 1) = 1 ∨ (getI went (k + 1) = 0 ∧ ∃ c, c < w.C.length ∧ came[k] ∈ (w.g c).l)
 zero : ∀ k, came.length < k → getI went k = 0
 count : (sumL (qsOf w.g) w.C.length : Int) + wents went came.length = (came.length : Int)
theorem Kp.one {w : W} {came : List Pk} {went : List Int} {i L c c' : Nat} {x y : Pk} (K : Kp w came went i L) (hc : c < w.C.length) (hc' : c' < w.C.length) (hx : x ∈ (w.g c).l) (hy : y ∈ (w.g c').l) (e : x.1 = y.1) : c = c' := by
 obtain ⟨h1, k, hk, h2, _⟩ := K.inq c hc x hx
 obtain ⟨h3, k', hk', h4, _⟩ := K.inq c' hc' y hy
 have s1 := K.seqs k hk
 have s2 := K.seqs k' hk'
 rw [h2] at s1
 rw [h4] at s2
 have : k = k' := by omega
 subst this
 have : x = y := h2.symm.trans h4
 subst this
 omega
theorem Kp.ev {w w' : W} {a b : Pk} {r r' : List D} {m : Nat} {came : List Pk} {went : List Int} {i L : Nat} (K : Kp w came went i L) (S : SW w r m) (S' : SW w' r' (m + 1)) (hi : i < L) (h : Ev w w' a b) :
  (a = z3 ∧ b = z3 ∧ Kp w' came went (i + 1) L) ∨ (b = z3 ∧ a.1 = (came.length : Int) + 1 ∧ Kp w' (came ++ [a]) went (i + 1) L) ∨
  (a = z3 ∧ ∃ k, ∃ h : k < came.length, came[k] = b ∧ b.1 = (k : Int) + 1 ∧ getI went (k + 1) = 0 ∧ (∀ j, (hj : j < k) → came[j].2.1 = b.2.1 → getI went (j + 1) ≠ 0) ∧ Kp w' came (setI went (k + 1) 1) (i + 1) L) := by
 have hle := K.le
 cases h with
 | same ha hb hs hn hc hq =>
  refine .inl ⟨ha, hb, ⟨by rw [hs, K.sq], K.wl, by omega, K.seqs, fun c hc' p hp => ?_, fun c hc' => ?_, fun k hk => ?_, K.zero, ?_⟩⟩
  ·rw [hn] at hc'; rw [hq c hc'] at hp; rw [hc]; exact K.inq c hc' p hp
  ·rw [hn] at hc'; rw [hq c hc']; exact K.rise c hc'
  ·rcases K.each k hk with h1 | ⟨h1, c, h2, h3⟩
   ·exact .inl h1
   exact .inr ⟨h1, c, by rw [hn]; exact h2, by rw [hq c h2]; exact h3⟩
  rw [hn, Z7y (q := qsOf w'.g) (q' := qsOf w.g) fun j hj => by simp only [qsOf]; rw [hq j hj]]
  exact K.count
 | came flow size c hp hcl hl ha hb hs hn hc hq =>
  have hcn : c < w.C.length := by have := S.cls flow; rw [hcl] at this; omega
  have hsq := K.sq
  refine .inr (.inl ⟨hb, by rw [ha]; dsimp only; omega, ⟨by rw [hs, hsq]; simp, K.wl, by simp; omega, fun k hk => ?_, fun c2 hc2 p hp2 => ?_, fun c2 hc2 => ?_, fun k hk => ?_, fun k hk => K.zero k (by simp at hk; omega), ?_⟩⟩)
  ·by_cases e : k < came.length
   ·rw [List.getElem_append_left e]; exact K.seqs k e
   have e2 : k = came.length := by simp at hk; omega
   subst e2
   rw [List.getElem_append_right (Nat.le_refl _)]
   simp only [Nat.sub_self, List.getElem_cons_zero, ha]
   omega
  ·rw [hn] at hc2
   rw [hq c2 hc2] at hp2
   have old : p ∈ (w.g c2).l → w'.cls p.2.1 = (c2 : Int) ∧ ∃ k, ∃ h : k < (came ++ [a]).length, (came ++ [a])[k] = p ∧ getI went (k + 1) = 0 := fun hp3 => by
    obtain ⟨h1, k, hk, h2, h3⟩ := K.inq c2 hc2 p hp3
    exact ⟨by rw [hc]; exact h1, k, by simp; omega, by rw [List.getElem_append_left hk]; exact h2, h3⟩
   by_cases e : c2 = c
   ·subst e
    rw [if_pos rfl] at hp2
    rcases List.mem_append.1 hp2 with hp3 | hp3
    ·exact old hp3
    have : p = a := by simpa using hp3
    subst this
    refine ⟨by rw [hc, ha]; exact hcl, came.length, by simp, by simp, K.zero _ (by omega)⟩
   rw [if_neg e] at hp2; exact old hp2
  ·rw [hn] at hc2
   rw [hq c2 hc2]
   by_cases e : c2 = c
   ·subst e
    rw [if_pos rfl]
    refine List.pairwise_append.2 ⟨K.rise c2 hc2, List.pairwise_singleton _ _, fun x hx y hy => ?_⟩
    have : y = a := by simpa using hy
    subst this
    obtain ⟨_, k, hk, h2, _⟩ := K.inq c2 hc2 x hx
    have s1 := K.seqs k hk
    rw [h2] at s1
    rw [ha]
    dsimp only
    omega
   rw [if_neg e]; exact K.rise c2 hc2
  ·by_cases e : k < came.length
   ·rw [List.getElem_append_left e]
    rcases K.each k e with h1 | ⟨h1, c2, h2, h3⟩
    ·exact .inl h1
    refine .inr ⟨h1, c2, by rw [hn]; exact h2, ?_⟩
    rw [hq c2 h2]
    by_cases e2 : c2 = c
    ·subst e2; rw [if_pos rfl]; exact List.mem_append_left _ h3
    rw [if_neg e2]; exact h3
   have e2 : k = came.length := by simp at hk; omega
   subst e2
   refine .inr ⟨K.zero _ (by omega), c, by rw [hn]; exact hcn, ?_⟩
   rw [hq c hcn, if_pos rfl, List.getElem_append_right (Nat.le_refl _)]
   simp
  have h1 := Z56 (q := qsOf w.g) (q' := qsOf w'.g) (c := c) (n := w.C.length) hcn (fun j hj hne => by simp only [qsOf]; rw [hq j hj, if_neg hne])
  have h2 : (qsOf w'.g c).length = (qsOf w.g c).length + 1 := by simp only [qsOf]; rw [hq c hcn, if_pos rfl]; simp
  have h3 := K.count
  have h4 := K.zero (came.length + 1) (by omega)
  rw [hn]
  simp only [List.length_append, List.length_cons, List.length_nil, Nat.zero_add, wents]
  omega
 | went c l hcn hl ha hs hn hc hq =>
  have hb : b ∈ (w.g c).l := by rw [hl]; simp
  obtain ⟨h1, k, hk, h2, h3⟩ := K.inq c hcn b hb
  have s1 := K.seqs k hk
  rw [h2] at s1
  have hwl := K.wl
  have hset : ∀ j, getI (setI went (k + 1) 1) j = if k + 1 = j then 1 else getI went j := fun j => Zh6 (by omega)
  have hne : ∀ c2, c2 < w.C.length → ∀ p ∈ (w'.g c2).l, p ∈ (w.g c2).l ∧ p.1 ≠ b.1 := fun c2 hc2 p hp => by
   rw [hq c2 hc2] at hp
   by_cases e : c2 = c
   ·subst e
    rw [if_pos rfl] at hp
    have hr := K.rise c2 hc2
    rw [hl] at hr
    have := (List.pairwise_cons.1 hr).1 p hp
    exact ⟨by rw [hl]; exact List.mem_cons_of_mem _ hp, by omega⟩
   rw [if_neg e] at hp
   exact ⟨hp, fun e2 => e (K.one hc2 hcn hp hb e2)⟩
  refine .inr (.inr ⟨ha, k, hk, h2, s1, h3, fun j hj hf hz => ?_, ⟨by rw [hs, K.sq], by simp [setI, hwl], by omega, K.seqs, fun c2 hc2 p hp => ?_, fun c2 hc2 => ?_, fun j hj => ?_, fun j hj => ?_, ?_⟩⟩)
  ·rcases K.each j (by omega) with g1 | ⟨_, c2, g2, g3⟩
   ·omega
   obtain ⟨g4, _⟩ := K.inq c2 g2 _ g3
   rw [hf, h1] at g4
   have : c2 = c := by omega
   subst this
   have hr := K.rise c2 hcn
   rw [hl] at hr g3
   have sj := K.seqs j (by omega)
   rcases List.mem_cons.1 g3 with g5 | g5
   ·rw [g5] at sj; omega
   have := (List.pairwise_cons.1 hr).1 _ g5; omega
  ·rw [hn] at hc2
   obtain ⟨g1, g2⟩ := hne c2 hc2 p hp
   obtain ⟨g3, k2, hk2, g4, g5⟩ := K.inq c2 hc2 p g1
   refine ⟨by rw [hc]; exact g3, k2, hk2, g4, ?_⟩
   have s2 := K.seqs k2 hk2
   rw [g4] at s2
   rw [hset, if_neg (by omega)]
   exact g5
  ·rw [hn] at hc2
   rw [hq c2 hc2]
   by_cases e : c2 = c
   ·subst e
    rw [if_pos rfl]
    have hr := K.rise c2 hc2
    rw [hl] at hr
    exact (List.pairwise_cons.1 hr).2
   rw [if_neg e]; exact K.rise c2 hc2
  ·rw [hset]
   by_cases e : k = j
   ·subst e; rw [if_pos rfl]; exact .inl rfl
   rw [if_neg (by omega)]
   rcases K.each j hj with g1 | ⟨g1, c2, g2, g3⟩
   ·exact .inl g1
   refine .inr ⟨g1, c2, by rw [hn]; exact g2, ?_⟩
   rw [hq c2 g2]
   by_cases e2 : c2 = c
   ·subst e2
    rw [if_pos rfl]
    rw [hl] at g3
    rcases List.mem_cons.1 g3 with g5 | g5
    ·have sj := K.seqs j hj
     rw [g5] at sj; omega
    exact g5
   rw [if_neg e2]; exact g3
  ·rw [hset, if_neg (by omega)]; exact K.zero j hj
  have g1 := Z56 (q := qsOf w.g) (q' := qsOf w'.g) (c := c) (n := w.C.length) hcn (fun j hj hne => by simp only [qsOf]; rw [hq j hj, if_neg hne])
  have g2 : (qsOf w'.g c).length + 1 = (qsOf w.g c).length := by simp only [qsOf]; rw [hq c hcn, if_pos rfl, hl]; simp
  have g3 := K.count
  have g4 := Znz (l := went) (l' := setI went (k + 1) 1) (j := k) (k := came.length) hk (by rw [hset, if_pos rfl, h3]; rfl) (fun j hj hne => by rw [hset, if_neg (by omega)])
  rw [hn, g4]
  omega
 | moved ha hb hs hq =>
  have hcl := S'.cls
  refine .inl ⟨ha, hb, ⟨by rw [hs, K.sq], K.wl, by omega, K.seqs, fun c hc' p hp => ?_, fun c hc' => ?_, fun k hk => ?_, K.zero, ?_⟩⟩
  ·rw [hq c hc'] at hp
   obtain ⟨j, hj, h1, h2⟩ := (Z64 _).1 hp
   exact ⟨h2, (K.inq j hj p h1).2⟩
  ·rw [hq c hc']
   exact Zl8 (fun j hj => K.rise j hj) (fun j1 j2 x y h1 h2 hx hy e => K.one h1 h2 hx hy e) _ (Nat.le_refl _)
  ·rcases K.each k hk with h1 | ⟨h1, c, h2, h3⟩
   ·exact .inl h1
   have hx := hcl came[k].2.1
   obtain ⟨c2, hc2⟩ : ∃ c2 : Nat, w'.cls came[k].2.1 = (c2 : Int) := ⟨(w'.cls came[k].2.1).toNat, by omega⟩
   refine .inr ⟨h1, c2, by omega, ?_⟩
   rw [hq c2 (by omega)]
   exact (Z64 _).2 ⟨c, h2, h3, hc2⟩
  have h1 : sumL (qsOf w'.g) w'.C.length = sumL (qsOf w.g) w.C.length := by
   rw [Z7y (q := qsOf w'.g) (q' := fun c => accQ w'.cls (qsOf w.g) c w.C.length) fun j hj => by simp only [qsOf]; rw [hq j hj]]
   exact Zdr hcl _
  rw [h1]
  exact K.count
theorem Zh {α β : Type} {o : Option α} {k : α → Option β} {r : β} {a : α} (e : o = some a) (h : k a = some r) : bindO o k = some r := by
 rw [e]; exact h
theorem Rep.one {r : List D} {n : Nat} {g : Nat → A} {a : A} (h : Rep r n g) (hn : n = 1) (e : g 0 = a) : Rep r 1 (fun _ => a) := by
 subst hn
 refine h.congr fun j hj => ?_
 have : j = 0 := by omega
 subst this
 exact e.symm
def exC : D := .l [.s [120], .i 1500, .i 10, .i 100, .i 2, .b true]
def exA (bt : Int) (l : List Pk) : A := { key := [120], q := 1500, r := 10, b := 100, lim := 2, sh := true, br := 10, bb := 100, bt := bt, ql := 2, l := l }
theorem Z2k {bt : Int} {l : List Pk} (h : 0 ≤ bt ∧ bt ≤ 100) (hn : l.length ≤ 10) (hs : ∀ p ∈ l, 1 ≤ p.2.2 ∧ p.2.2 ≤ 1500) : ∀ i, i < 1 → AOk ((fun _ => exA bt l) i) := fun i _ =>
 ⟨by unfold U exA; dsimp only; omega, by unfold U exA; dsimp only; omega, by unfold U exA; dsimp only; omega, by unfold U exA; dsimp only; omega, by unfold exA; dsimp only; omega, hs⟩
theorem Zui : Z1g [exC] [exC] = some true := by
 unfold Z1g
 rw [if_pos (by rw [pieq])]
 refine (Ze (y := (1 : Int)) ?_).trans (Za ?_)
 ·unfold Z3j
  dsimp only
  rw [if_pos (by rw [pilt]; decide), if_pos (by decide), if_pos (by decide)]
  rfl
 unfold Z3j
 dsimp only
 rw [if_neg (by rw [pilt]; decide)]
theorem Zuj : Z1h [] [] = some true := by
 unfold Z1h
 rw [if_pos (by rw [pieq])]
 refine Za ?_
 unfold Z4j
 dsimp only
 rw [if_neg (by rw [pilt]; decide)]
theorem Zu0 : Z3k [] 0 0 false = some (-1) := by
 unfold Z3k
 refine Za ?_
 unfold Z89
 dsimp only
 rw [if_neg (by rw [pilt]; decide)]
theorem Zuh : Z3l 0 0 false = some true := by
 unfold Z3l
 rw [if_neg (by rw [pilt]; decide), if_pos (by rw [pieq]), if_pos (by rw [pieq]), if_neg (by rw [pilt]; decide), if_neg (by rw [pile]; decide)]
 refine Zh (a := false) ?_ rfl
 unfold Z4i
 exact Zh Zu0 rfl
theorem Zuf : Z3a [] false 0 = some false := by
 unfold Z3a
 rw [if_pos (by rw [pilt]; decide)]
theorem q1500 : ∀ x ∈ [(1500 : Int)], U x := by intro x hx; simp at hx; subst hx; unfold U; omega
theorem rok {d : Int} (h : 0 ≤ d ∧ d ≤ 2000) : RingOk [1500] 0 [d] := ⟨by decide, by decide, by decide, rfl, q1500, by intro x hx; simp at hx; subst hx; unfold U; omega⟩
def pk1 : Pk := (1, 1, 60)
def pk2 : Pk := (2, 2, 70)
theorem Zto : Z3q = some true := by
 unfold Z3q
 obtain ⟨r0, h0, R0⟩ := Zu6 (s := [112]) (b := true) (r1 := [exC]) (df := 0) (by decide) (by decide)
 replace R0 : Rep r0 1 (fun _ => exA 100 []) := R0.one rfl rfl
 refine Zh h0 ?_
 dsimp only
 obtain ⟨r1, h1, R1⟩ := Z7g (flow := 1) (size := 60) (seq := 0) (x5 := 0) (b2 := false) (l2 := [0]) (df := 0) (s := [112]) (b1 := true) (r1 := [exC]) (r2 := []) (l1 := [1500]) R0 (by decide) (by decide) (Z2k (by decide) (by decide) (by simp [pk1, pk2])) (by decide)
 replace h1 : Zy 1 60 [112] true 0 0 [exC] [] 1 0 false r0 [1500] [0] = some (1, 1, 60, 0, 1, r1) := h1
 replace R1 : Rep r1 1 (fun _ => exA 100 [pk1]) := R1.one rfl rfl
 refine Zh h1 ?_
 dsimp only
 obtain ⟨r2, h2, R2⟩ := Z7g (flow := 2) (size := 70) (seq := 1) (x5 := 0) (b2 := false) (l2 := [0]) (df := 0) (s := [112]) (b1 := true) (r1 := [exC]) (r2 := []) (l1 := [1500]) R1 (by decide) (by decide) (Z2k (by decide) (by decide) (by simp [pk1, pk2])) (by decide)
 replace h2 : Zy 2 70 [112] true 0 1 [exC] [] 1 0 false r1 [1500] [0] = some (2, 2, 70, 0, 2, r2) := h2
 replace R2 : Rep r2 1 (fun _ => exA 100 [pk1, pk2]) := R2.one rfl rfl
 refine Zh h2 ?_
 dsimp only
 obtain ⟨r3, h3, R3⟩ := Z7g (flow := 1) (size := 5) (seq := 2) (x5 := 0) (b2 := false) (l2 := [0]) (df := 0) (s := [112]) (b1 := true) (r1 := [exC]) (r2 := []) (l1 := [1500]) R2 (by decide) (by decide) (Z2k (by decide) (by decide) (by simp [pk1, pk2])) (by decide)
 replace h3 : Zy 1 5 [112] true 0 2 [exC] [] 1 0 false r2 [1500] [0] = some (0, 0, 0, 35, 2, r3) := h3
 replace R3 : Rep r3 1 (fun _ => exA 100 [pk1, pk2]) := R3.one rfl rfl
 refine Zh h3 ?_
 dsimp only
 obtain ⟨r4, h4, R4⟩ := Z7i (s := [112]) (up := true) (ad := false) (df := 0) (seq := 2) (t := 0) (r1 := [exC]) (r2 := []) (q := [1500]) (d := [0]) R3 (by decide) (Z2k (by decide) (by decide) (by simp [pk1, pk2])) rfl (rok (by decide))
 replace h4 : Zz [112] true 0 2 [exC] [] 1 0 false r3 [1500] [0] = some (1, 1, 60, [120], true, 0, true, [1440], r4) := h4
 replace R4 : Rep r4 1 (fun _ => exA 40 [pk2]) := R4.one rfl rfl
 refine Zh h4 ?_
 dsimp only
 obtain ⟨r5, h5, R5⟩ := Z7i (s := [112]) (up := true) (ad := true) (df := 0) (seq := 2) (t := 0) (r1 := [exC]) (r2 := []) (q := [1500]) (d := [1440]) R4 (by decide) (Z2k (by decide) (by decide) (by simp [pk1, pk2])) rfl (rok (by decide))
 replace h5 : Zz [112] true 0 2 [exC] [] 1 0 true r4 [1500] [1440] = some (0, 0, 0, [], false, 0, false, [0], r5) := h5
 replace R5 : Rep r5 1 (fun _ => exA 40 [pk2]) := R5.one rfl rfl
 refine Zh h5 ?_
 dsimp only
 obtain ⟨r6, h6, R6⟩ := Zkv (x := 3) (seq := 2) (x5 := 0) (b2 := false) (l2 := [0]) (df := 0) (s := [112]) (b1 := true) (r1 := [exC]) (r2 := []) (l1 := [1500]) R5 (by unfold U; omega) (by decide) (Z2k (by decide) (by decide) (by simp [pk1, pk2]))
 replace R6 : Rep r6 1 (fun _ => exA 70 [pk2]) := R6.one rfl rfl
 refine Zh h6 ?_
 obtain ⟨r7, h7, R7⟩ := Z7i (s := [112]) (up := true) (ad := false) (df := 0) (seq := 2) (t := 0) (r1 := [exC]) (r2 := []) (q := [1500]) (d := [0]) R6 (by decide) (Z2k (by decide) (by decide) (by simp [pk1, pk2])) rfl (rok (by decide))
 replace h7 : Zz [112] true 0 2 [exC] [] 1 0 false r6 [1500] [0] = some (2, 2, 70, [120], true, 0, true, [1430], r7) := h7
 replace R7 : Rep r7 1 (fun _ => exA 0 []) := R7.one rfl rfl
 refine Zh h7 ?_
 dsimp only
 have ok7 := Z2k (bt := 0) (l := []) (by decide) (by decide) (by simp)
 have h8 := Zu2 (s := [112]) (b := true) (b2 := true) (df := 0) (seq := 2) (x := 0) (r1 := [exC]) (r2 := []) (l1 := [1500]) (l2 := [1430]) R7 (by decide) ok7
 have h9 := Zd2 (s := [112]) (b := true) (b2 := true) (df := 0) (seq := 2) (x := 0) (r1 := [exC]) (r2 := []) (l1 := [1500]) (l2 := [1430]) R7 (by decide) (by decide) ok7
 have hR : Z1e [112] true 0 [exC] = some true := by rw [Zl7]; exact Z7j (by decide) (by decide)
 have hP : Z35 [112] true 0 [112] true 0 [exC] [exC] [] = some true := by
  unfold Z35
  rw [if_pos (by rw [pseq]), if_pos (by rw [pbeq2])]
  refine Zh Zui ?_
  dsimp only
  rw [if_pos rfl]
  refine Zh Zuj ?_
  rfl
 rw [if_pos (by decide), if_pos (by decide), if_pos (by decide), if_pos (by decide), if_pos (by decide), if_pos (by decide), if_pos rfl, if_neg (by decide), if_pos rfl, if_pos (by decide)]
 refine Zh h8 ?_
 dsimp only
 rw [if_pos (by decide)]
 refine Zh h9 ?_
 dsimp only
 rw [if_pos (by decide)]
 refine Zh (a := (0 : Int)) ?_ ?_
 ·unfold Z4b
  refine Zh hR ?_
  dsimp only
  rw [if_pos rfl]
  refine Zh hP ?_
  rfl
 rw [if_pos (by decide)]
 refine Zh (a := ([exC], [])) ?_ ?_
 ·unfold Z4c Z4g
  refine Zh (a := ([exC], [])) ?_ rfl
  refine Zh (Zcz (by decide)) ?_
  exact Zh (Zd0 (by decide)) rfl
 try dsimp only
 rw [if_pos (by decide)]
 refine Zh hR ?_
 rw [if_pos rfl]
 refine Zh Zuf ?_
 try dsimp only
 rw [if_neg (by decide)]
 refine Zh (a := (1, 2, 0, true, [1430])) ?_ rfl
 unfold Z4d
 refine Zh Zuh ?_
 try dsimp only
 rw [if_pos rfl, if_neg (by rw [pieq]; decide)]
theorem Z5x {l : List Pk} {k : Nat} (h : k < l.length) : getD (l.map mkP) k = mkP l[k] := by
 rw [pgetD (by simpa using h)]; simp
theorem Zjg (p q : Pk) (h : p = q) : band (ieq (D.toI (D.fld (mkP p) 0)) (D.toI (D.fld (mkP q) 0))) (band (ieq (D.toI (D.fld (mkP p) 1)) (D.toI (D.fld (mkP q) 1))) (band (ieq (D.toI (D.fld (mkP p) 2)) (D.toI (D.fld (mkP q) 2))) true)) = true := by
 subst h; simp [band, ieq]
theorem Zj3 {w : W} {came : List Pk} {went : List Int} {i L c : Nat} (K : Kp w came went i L) (hL : L ≤ 300) (hi : i ≤ L) (hc : c < w.C.length) (h8 : w.C.length ≤ 8) (hq : (w.g c).l.length ≤ 1000) : ∀ (m k N : Nat), k + m = (w.g c).l.length → N + m ≤ 1000000 →
  iter (Z4n (c : Int) (queuesS w.C.length w.g) (came.map mkP) went) ((N : Int), (k : Int)) = some (.inl (((N + m : Nat) : Int), ((c + 1 : Nat) : Int)))
 | 0, k, N, hk, hN => by
  apply Za
  unfold Z4n
  dsimp only
  rw [if_pos (by simp only [ofN, xlen, Z1k]; omega), ptoN, Z7m hc, if_neg (by rw [pilt]; simp only [ofN, xlen, List.length_map]; omega), pnext (by omega)]
  rfl
 | m + 1, k, N, hk, hN => by
  have ih := Zj3 K hL hi hc h8 hq m (k + 1) (N + 1) (by omega) (by omega)
  have e : N + 1 + m = N + (m + 1) := by omega
  rw [e] at ih
  rw [← ih]
  have hkl : k < (w.g c).l.length := by omega
  obtain ⟨_, j, hj, h2, h3⟩ := K.inq c hc _ (List.getElem_mem hkl)
  have s1 := K.seqs j hj
  have hwl := K.wl
  have hle := K.le
  have hp1 : (w.g c).l[k].1 = (j : Int) + 1 := by rw [← h2]; exact s1
  have f0 : D.toI (D.fld (mkP (w.g c).l[k]) 0) = (j : Int) + 1 := hp1
  have e1 : isub .u64 ((j : Int) + 1) 1 = (j : Int) := by simp only [isub]; rw [pu64 (by omega) (by omega)]; omega
  have e2 : iconv .u64 (ofN (xlen (came.map mkP))) = (came.length : Int) := by simp only [iconv, ofN, xlen, List.length_map]; exact pu64 (by omega) (by omega)
  have e3 : toN ((j : Int) + 1) = j + 1 := by simp only [toN]; omega
  apply Ze
  unfold Z4n
  dsimp only
  rw [if_pos (by simp only [ofN, xlen, Z1k]; omega), ptoN, ptoN, Z7m hc, if_pos (by rw [pilt]; simp only [ofN, xlen, List.length_map]; omega), if_pos (by simp only [ofN, xlen, Z1k]; omega), if_pos (by simp only [ofN, xlen, List.length_map]; omega), Z5x hkl]
  have band1 := Zjg came[j] (w.g c).l[k] h2
  rw [f0] at band1 ⊢
  rw [if_neg (by rw [pilt]; omega), e2, if_neg (by rw [pilt]; omega), e1, if_pos (by simp only [ofN, xlen, List.length_map]; omega), ptoN, Z5x hj, if_pos band1, if_pos (by simp only [ofN, xlen]; omega), e3, h3, if_neg (by rw [pilt]; omega)]
  by_cases c0 : 0 < k
  ·have e4 : isub .i64 (k : Int) 1 = ((k - 1 : Nat) : Int) := by simp only [isub]; rw [pwi64 (by omega) (by omega)]; omega
   have hr := List.pairwise_iff_getElem.1 (K.rise c hc) (k - 1) k (by omega) hkl (by omega)
   have f1 : D.toI (D.fld (mkP ((w.g c).l[k - 1]'(by omega))) 0) = ((w.g c).l[k - 1]'(by omega)).1 := rfl
   rw [if_pos (by rw [pilt]; omega), if_pos (by simp only [ofN, xlen, Z1k]; omega), e4, if_pos (by simp only [ofN, xlen, List.length_map]; omega), ptoN, Z5x (by omega), f1, if_neg (by rw [pile]; omega), pnext (by omega), pnext (by omega)]
  rw [if_neg (by rw [pilt]; omega), pnext (by omega), pnext (by omega)]
theorem Z84 {l : List Int} (h : ∀ j, getI l (j + 1) = 0 ∨ getI l (j + 1) = 1) : ∀ k : Nat, 0 ≤ wents l k ∧ wents l k ≤ (k : Int)
 | 0 => by simp [wents]
 | k + 1 => by
  have := Z84 h k
  have := h k
  simp only [wents]
  omega
theorem Kp.bits {w : W} {came : List Pk} {went : List Int} {i L : Nat} (K : Kp w came went i L) (j : Nat) : getI went (j + 1) = 0 ∨ getI went (j + 1) = 1 := by
 by_cases h : j < came.length
 ·rcases K.each j h with h1 | ⟨h1, _⟩
  ·exact .inr h1
  exact .inl h1
 exact .inl (K.zero _ (by omega))
theorem Zj4 {w : W} {came : List Pk} {went : List Int} {i L : Nat} {i67 : Int} {r : List D} (K : Kp w came went i L) (hL : L ≤ 300) (hi : i ≤ L) : ∀ (m k : Nat) (N : Int), k + m = came.length → N = (sumL (qsOf w.g) w.C.length : Int) + wents went k →
  iter (Z4o (came.map mkP) went i67 w.key w.up w.df w.sq w.C w.R w.C.length w.t w.ad r (w.C.map cQ) w.d) (N, (k : Int)) = some (.inl (iadd .i64 i67 1, w.key, w.up, w.df, w.sq, came.map mkP, went, w.C, w.R, w.C.length, w.t, w.ad, r, w.C.map cQ, w.d))
 | 0, k, N, hk, hN => by
  have hk' : k = came.length := by omega
  subst hk'
  have := K.count
  apply Za
  unfold Z4o
  dsimp only
  rw [if_neg (by rw [pilt]; simp only [ofN, xlen, List.length_map]; omega), if_pos (by rw [pieq]; simp only [ofN, xlen, List.length_map]; omega)]
 | m + 1, k, N, hk, hN => by
  have hwl := K.wl
  have hle := K.le
  have hb := K.bits k
  have hw := Z84 K.bits k
  have hct := K.count
  have hw2 := Z84 K.bits came.length
  have e1 : iadd .i64 (k : Int) 1 = ((k + 1 : Nat) : Int) := pnext (by omega)
  have e2 : iadd .i64 N (getI went (k + 1)) = N + getI went (k + 1) := by simp only [iadd]; exact pwi64 (by omega) (by omega)
  rw [← Zj4 (i67 := i67) (r := r) K hL hi m (k + 1) (N + getI went (k + 1)) (by omega) (by simp only [wents]; omega)]
  apply Ze
  unfold Z4o
  dsimp only
  rw [if_pos (by rw [pilt]; simp only [ofN, xlen, List.length_map]; omega), e1, if_pos (by simp only [ofN, xlen]; omega), ptoN, e2]
theorem Zj2 {w : W} {came : List Pk} {went : List Int} {i L : Nat} {i67 : Int} {r : List D} (K : Kp w came went i L) (hL : L ≤ 300) (hi : i ≤ L) (h8 : w.C.length ≤ 8) : ∀ (m c : Nat), c + m = w.C.length →
  iter (Z2i (queuesS w.C.length w.g) (came.map mkP) went i67 w.key w.up w.df w.sq w.C w.R w.C.length w.t w.ad r (w.C.map cQ) w.d) ((sumL (qsOf w.g) c : Int), (c : Int)) = some (.inl (iadd .i64 i67 1, w.key, w.up, w.df, w.sq, came.map mkP, went, w.C, w.R, w.C.length, w.t, w.ad, r, w.C.map cQ, w.d))
 | 0, c, hc => by
  have hc' : c = w.C.length := by omega
  subst hc'
  apply Za
  unfold Z2i
  dsimp only
  have h15 := Zj4 (i67 := i67) (r := r) K hL hi came.length 0 (sumL (qsOf w.g) w.C.length : Int) (by omega) (by simp [wents])
  have h15' : iter (Z4o (came.map mkP) went i67 w.key w.up w.df w.sq w.C w.R w.C.length w.t w.ad r (w.C.map cQ) w.d) ((sumL (qsOf w.g) w.C.length : Int), (0 : Int)) = _ := h15
  rw [if_neg (by rw [pilt]; simp only [ofN, xlen, Z1k]; omega), h15']
  rfl
 | m + 1, c, hc => by
  have hcn : c < w.C.length := by omega
  have hct := K.count
  have hle := K.le
  have hw2 := Z84 K.bits came.length
  have hm := Z6h (qs := qsOf w.g) (i := c + 1) (j := w.C.length) (by omega)
  have e : (qsOf w.g c).length = (w.g c).l.length := rfl
  simp only [sumL] at hm
  have h14 := Zj3 K hL hi hcn h8 (by omega) (w.g c).l.length 0 (sumL (qsOf w.g) c) (by omega) (by omega)
  have h14' : iter (Z4n (c : Int) (queuesS w.C.length w.g) (came.map mkP) went) ((sumL (qsOf w.g) c : Int), (0 : Int)) = _ := h14
  rw [← Zj2 (i67 := i67) (r := r) K hL hi h8 m (c + 1) (by omega)]
  apply Ze
  unfold Z2i
  dsimp only
  rw [if_pos (by rw [pilt]; simp only [ofN, xlen, Z1k]; omega), h14']
  rfl
theorem Zcm {w : W} {came : List Pk} {went : List Int} {i L m : Nat} {r : List D} (K : Kp w came went i L) (S : SW w r m) (hL : L ≤ 300) (hi : i ≤ L) (i67 : Int) :
  Z10 w.key w.up w.df w.sq w.C w.R w.C.length w.t w.ad r (w.C.map cQ) w.d = some (tokensS w.C.length w.g, w.d, queuesS w.C.length w.g, r) ∧
  iter (Z2i (queuesS w.C.length w.g) (came.map mkP) went i67 w.key w.up w.df w.sq w.C w.R w.C.length w.t w.ad r (w.C.map cQ) w.d) ((0 : Int), (0 : Int)) = some (.inl (iadd .i64 i67 1, w.key, w.up, w.df, w.sq, came.map mkP, went, w.C, w.R, w.C.length, w.t, w.ad, r, w.C.map cQ, w.d)) := by
 have h8 := S.right.n8
 refine ⟨Zd2 S.rep (by omega) (by have := S.ring.l; simp at this; omega) S.ok, ?_⟩
 exact Zj2 K hL hi h8 w.C.length 0 (by omega)
theorem Zru {w : W} {came : List Pk} {went : List Int} {i L m k : Nat} {b : Pk} {r : List D} (K : Kp w came (setI went (k + 1) 1) i L) (S : SW w r m) (hL : L ≤ 300) (hi : i ≤ L) (hk : k < came.length) (hb : came[k] = b) (hb1 : b.1 = (k : Int) + 1) (hz : getI went (k + 1) = 0)
  (hf : ∀ j, (hj : j < k) → came[j].2.1 = b.2.1 → getI went (j + 1) ≠ 0) (i67 : Int) : ∀ (m2 j : Nat), j + m2 = k →
  iter (Z4p b.1 (came.map mkP) b.2.1 went b.2.2 w.key w.up w.df w.sq w.C w.R w.C.length w.t w.ad r (w.C.map cQ) w.d i67) (j : Int) = some (.inl (iadd .i64 i67 1, w.key, w.up, w.df, w.sq, came.map mkP, setI went (k + 1) 1, w.C, w.R, w.C.length, w.t, w.ad, r, w.C.map cQ, w.d)) := by
 have hwl := K.wl
 have hwl' : went.length = L + 2 := by simpa [setI] using hwl
 have hle := K.le
 have e1 : isub .i64 (iconv .i64 ((k : Int) + 1)) 1 = (k : Int) := by simp only [isub, iconv]; rw [pwi64 (x := (k : Int) + 1) (by omega) (by omega), pwi64 (by omega) (by omega)]; omega
 have e2 : toN ((k : Int) + 1) = k + 1 := by simp only [toN]; omega
 have e3 : setI went (k + 1) (iadd .i64 (getI went (k + 1)) 1) = setI went (k + 1) 1 := by rw [hz]; rfl
 have e4 : isub .u64 ((k : Int) + 1) 1 = (k : Int) := by simp only [isub]; rw [pu64 (by omega) (by omega)]; omega
 have hset : ∀ j, getI (setI went (k + 1) 1) j = if k + 1 = j then 1 else getI went j := fun j => Zh6 (by omega)
 have hlen : (setI went (k + 1) 1).length = went.length := by simp [setI]
 intro m2
 induction m2 with
 | zero =>
  intro j hj
  have : j = k := by omega
  subst this
  obtain ⟨s1, s2⟩ := Zcm K S hL hi i67
  have hL10 : ∀ q43, Z8a (queuesS w.C.length w.g) (came.map mkP) went b.1 i67 w.key w.up w.df w.sq w.C w.R w.C.length w.t w.ad q43 (w.C.map cQ) w.d = Z2i (queuesS w.C.length w.g) (came.map mkP) (setI went (toN b.1) (iadd .i64 (getI went (toN b.1)) 1)) i67 w.key w.up w.df w.sq w.C w.R w.C.length w.t w.ad q43 (w.C.map cQ) w.d := fun q43 => rfl
  apply Za
  unfold Z4p
  dsimp only
  rw [s1, Z8]
  dsimp only
  rw [hL10, hb1, e1, e2, e3, if_neg (by rw [pilt]; omega), e4, if_pos (by simp only [ofN, xlen, List.length_map]; omega), ptoN, Z5x hk]
  have hmk := Zjg came[j] b hb
  have hmk' : band (ieq (D.toI (D.fld (mkP came[j]) 0)) ((j : Int) + 1)) (band (ieq (D.toI (D.fld (mkP came[j]) 1)) b.2.1) (band (ieq (D.toI (D.fld (mkP came[j]) 2)) b.2.2) true)) = true := by rw [← hb1]; exact hmk
  rw [if_pos hmk', if_pos (by simp only [ofN, xlen, hlen]; omega), hset, if_pos rfl, if_neg (by rw [pilt]; omega), s2]
  rfl
 | succ m2 ih =>
  intro j hj
  rw [← ih (j + 1) (by omega)]
  apply Ze
  unfold Z4p
  dsimp only
  have e5 : iadd .i64 (j : Int) 1 = ((j + 1 : Nat) : Int) := pnext (by omega)
  rw [hb1, e1, e2, e3, if_pos (by rw [pilt]; omega), if_pos (by simp only [ofN, xlen, List.length_map]; omega), ptoN, Z5x (by omega), e5]
  by_cases c : (came[j]'(by omega)).2.1 = b.2.1
  ·have hc : ieq (D.toI (D.fld (mkP (came[j]'(by omega))) 1)) b.2.1 = true := by rw [pieq]; exact c
   have hne := hf j (by omega) c
   have hs2 : getI (setI went (k + 1) 1) (j + 1) = getI went (j + 1) := by rw [hset, if_neg (by omega)]
   rw [if_pos hc, if_pos (by simp only [ofN, xlen, hlen]; omega), ptoN, hs2, if_neg (by rw [pieq]; exact hne)]
  have hc : ¬ ieq (D.toI (D.fld (mkP (came[j]'(by omega))) 1)) b.2.1 = true := by rw [pieq]; exact c
  rw [if_neg hc]
def stepsOk (r2 : List D) : Prop := ∀ i, i < r2.length → U (D.toI (D.fld (getD r2 i) 3)) ∧ 0 ≤ D.toI (D.fld (getD r2 i) 4) ∧ D.toI (D.fld (getD r2 i) 4) < 256
theorem Z7b {r1 r2 : List D} (hp : PortsOk r1) (hn : r2.length ≤ 300) (hx : stepsOk r2) : ∀ (m i : Nat) (w : W) (r : List D) (came : List Pk) (went : List Int), i + m = r2.length → SW w r i → Kp w came went i r2.length →
  iter (Z3p r2 r1) ((i : Int), w.key, w.up, w.df, w.sq, came.map mkP, went, w.C, w.R, w.C.length, w.t, w.ad, r, w.C.map cQ, w.d) = some true
 | 0, i, w, r, came, went, hm, S, K => by
  apply Za
  unfold Z3p
  dsimp only
  rw [if_neg (by rw [pilt]; simp only [ofN, xlen]; omega)]
 | m + 1, i, w, r, came, went, hm, S, K => by
  have hi : i < r2.length := by omega
  obtain ⟨hx1, hx2⟩ := hx i hi
  obtain ⟨a, b, w', r', hdo, S', E, _⟩ := Ztt (x1 := D.toI (D.fld (getD r2 i) 0)) (x2 := D.toI (D.fld (getD r2 i) 1)) (x3 := D.toI (D.fld (getD r2 i) 2)) (x4 := D.toI (D.fld (getD r2 i) 3)) (x5 := D.toI (D.fld (getD r2 i) 4)) hp S (by omega) hx1 hx2
  have hle := K.le
  have hpn : iadd .i64 (i : Int) 1 = ((i + 1 : Nat) : Int) := pnext (by omega)
  have e2 : iconv .u64 (ofN (xlen (came.map mkP))) = (came.length : Int) := by simp only [iconv, ofN, xlen, List.length_map]; exact pu64 (by omega) (by omega)
  have hwl := K.wl
  rcases K.ev S S' hi E with ⟨ha, hb, K'⟩ | ⟨hb, ha, K'⟩ | ⟨ha, k, hk, hb, hb1, hz, hf, K'⟩
  ·subst ha hb
   have next := Z7b hp hn hx m (i + 1) w' r' came went (by omega) S' K'
   obtain ⟨s1, s2⟩ := Zcm K' S' hn (by omega) (i : Int)
   rw [← next]
   apply Ze
   unfold Z3p
   dsimp only
   rw [if_pos (by rw [pilt]; simp only [ofN, xlen]; omega), if_pos (by simp only [ofN, xlen]; omega), ptoN]
   refine Zj hdo ?_
   dsimp only
   rw [if_neg (by rw [pilt]; decide), e2, if_neg (by rw [pilt]; simp only [z3]; omega), if_neg (by rw [pilt]; decide), s1, Z8]
   dsimp only
   rw [s2, hpn]
  ·subst hb
   have next := Z7b hp hn hx m (i + 1) w' r' (came ++ [a]) went (by omega) S' K'
   obtain ⟨s1, s2⟩ := Zcm K' S' hn (by omega) (i : Int)
   have ecat : cat (came.map mkP) [D.l [D.i a.1, D.i a.2.1, D.i a.2.2]] = (came ++ [a]).map mkP := by simp [cat, mkP]
   have e3 : iconv .u64 (ofN (xlen ((came ++ [a]).map mkP))) = (came.length : Int) + 1 := by simp only [iconv, ofN, xlen, List.length_map, List.length_append, List.length_cons, List.length_nil]; rw [pu64 (by omega) (by omega)]; omega
   have hL6 : ∀ q40 q41, Z8b q40 (came.map mkP) a.1 a.2.1 a.2.2 went (i : Int) w'.key w'.up w'.df w'.sq w'.C w'.R w'.C.length w'.t w'.ad q41 (w'.C.map cQ) w'.d = Z2i q40 (cat (came.map mkP) [D.l [D.i a.1, D.i a.2.1, D.i a.2.2]]) went (i : Int) w'.key w'.up w'.df w'.sq w'.C w'.R w'.C.length w'.t w'.ad q41 (w'.C.map cQ) w'.d := fun _ _ => rfl
   rw [← next]
   apply Ze
   unfold Z3p
   dsimp only
   rw [if_pos (by rw [pilt]; simp only [ofN, xlen]; omega), if_pos (by simp only [ofN, xlen]; omega), ptoN]
   refine Zj hdo ?_
   dsimp only
   rw [s1, Z8]
   dsimp only
   rw [hL6, ecat, e3, if_pos (by rw [pilt]; omega), if_pos (by simp only [xlen, List.length_map, List.length_cons, List.length_nil]; omega), if_pos (by rw [pieq]; exact ha), if_neg (by rw [pilt]; simp only [z3]; omega), if_neg (by rw [pilt]; decide), s2, hpn]
  subst ha
  have next := Z7b hp hn hx m (i + 1) w' r' came (setI went (k + 1) 1) (by omega) S' K'
  have h9 := Zru K' S' hn (by omega) hk hb hb1 hz hf (i : Int) k 0 (by omega)
  have h9' : iter (Z4p b.1 (came.map mkP) b.2.1 went b.2.2 w'.key w'.up w'.df w'.sq w'.C w'.R w'.C.length w'.t w'.ad r' (w'.C.map cQ) w'.d (i : Int)) (0 : Int) = _ := h9
  rw [← next]
  apply Ze
  unfold Z3p
  dsimp only
  rw [if_pos (by rw [pilt]; simp only [ofN, xlen]; omega), if_pos (by simp only [ofN, xlen]; omega), ptoN]
  refine Zj hdo ?_
  dsimp only
  rw [if_neg (by rw [pilt]; decide), e2, if_neg (by rw [pilt]; omega), if_pos (by rw [pilt]; omega), if_pos (by simp only [ofN, xlen]; omega), if_pos (by simp only [ofN, xlen]; omega), h9', hpn]
theorem Zrv {r1 r2 : List D} (h1 : r1.length ≤ maxLen) (hc : ∀ i, i < r1.length → clsU (pCls (getD r1 i))) (hx : stepsOk r2) : Z3o r1 r2 = some true := by
 unfold Z3o
 refine Zj Zto ?_
 rw [if_pos rfl]
 refine Zj (Ztw h1) ?_
 dsimp only
 by_cases cf : fewB r1 r2 = true
 ·obtain ⟨f1, f2, f3, f4⟩ := Zre cf
  rw [if_pos cf, if_pos (by simp only [ofN, xlen]; omega), show (toN (0 : Int)) = 0 from rfl]
  obtain ⟨f5, f6⟩ := f4 0 (by omega)
  rcases Zu7 (s := D.toS (D.fld (getD r1 0) 0)) (b := D.toB (D.fld (getD r1 0) 1)) (r1 := pCls (getD r1 0)) (r2 := pRules (getD r1 0)) (df := pDf (getD r1 0)) (by omega) (by omega) with ⟨_, e1⟩ | ⟨hb, r', e1, e2⟩
  ·exact Zj e1 rfl
  refine Zj e1 ?_
  have hP := Z6c hb
  have hn1 := hP.n1
  have e3 : iadd .i64 (ofN (xlen r2)) 2 = ((r2.length + 2 : Nat) : Int) := by simp only [iadd, ofN, xlen]; rw [pwi64 (by omega) (by omega)]; omega
  dsimp only
  rw [e3, if_pos (by omega), ptoN]
  have hU := hc 0 (by omega)
  refine Z7b ⟨⟨f1, f2⟩, fun i hi => (f4 i hi).1, fun i hi => (f4 i hi).2, hc⟩ f3 hx r2.length 0 ⟨D.toS (D.fld (getD r1 0) 0), D.toB (D.fld (getD r1 0) 1), pDf (getD r1 0), 0, pCls (getD r1 0), pRules (getD r1 0), 0, false, List.replicate (pCls (getD r1 0)).length 0, fun i => freshA (getD (pCls (getD r1 0)) i)⟩ r' [] (List.replicate (r2.length + 2) 0) (by omega) ?_ ?_
  ·refine ⟨hP, by dsimp only; omega, hU, e2, fun j hj => ?_, fun j hj => ⟨_, _, rfl⟩, ⟨by dsimp only; omega, by dsimp only; simp; omega, by dsimp only; simp; omega, by dsimp only; simp, fun x hx => ?_, fun x hx => ?_⟩, by dsimp only; omega, ?_⟩
   ·have := hU _ (show getD (pCls (getD r1 0)) j ∈ pCls (getD r1 0) by rw [pgetD hj]; exact List.getElem_mem hj)
    exact ⟨this.1, this.2.1, this.2.2, this.2.2, by simp [freshA], by simp [freshA]⟩
   ·obtain ⟨d, hd, rfl⟩ := List.mem_map.1 hx
    exact (hU d hd).1
   ·have := List.eq_of_mem_replicate hx
    subst this; unfold U; omega
   have : qsOf (fun i => freshA (getD (pCls (getD r1 0)) i)) = fun _ => [] := rfl
   dsimp only
   rw [this, Z7z]
   exact Nat.le_refl _
  refine ⟨rfl, by simp, by simp, fun k hk => absurd hk (by simp), fun c _ p hp => absurd hp (by simp [freshA]), fun c _ => List.Pairwise.nil, fun k hk => absurd hk (by simp), fun k _ => ?_, ?_⟩
  ·unfold getI
   simp only [List.getD_eq_getElem?_getD, List.getElem?_replicate]
   split <;> rfl
  have : qsOf (fun i => freshA (getD (pCls (getD r1 0)) i)) = fun _ => [] := rfl
  dsimp only
  rw [this, Z7z]
  rfl
 rw [if_neg cf]
theorem Ztk (r1 r2 : List D) (h1 : (Ty.row 33 (.st [.str, .bool, .row 83 (.st [.str, .int .u64, .int .u64, .int .u64, .int .i64, .bool]), .st [.row 96 (.st [.int .i64, .int .i64, .int .i64]), .int .i64]])).rng (.l r1))
  (h2 : (Ty.row 58 (.st [.int .i64, .int .i64, .int .i64, .int .u64, .int .u8])).rng (.l r2)) : Z3o r1 r2 = some true := by
 refine Zrv h1.1 (fun i hi => ?_) (fun i hi => ?_)
 ·exact Zup (h1.2 _ (by rw [pgetD hi]; exact List.getElem_mem hi))
 have := h2.2 (getD r2 i) (by rw [pgetD hi]; exact List.getElem_mem hi)
 simp only [Ty.rng, Ty.rngL] at this
 exact ⟨Z85 this.2.2.2.1, Zyl this.2.2.2.2.1⟩
end Go.Proofs.Ytojbpjcfdjakkaa
end
