/-
  Texts that the row of this claim stands on, one behind the other.
-/
import Derived.Below
import Derived.WalkLawsBesides
import Derived.WalkSpells
import Derived.Outline
import Derived.IntWalk
import Derived.Deep.Slices
import Derived.ChangeArms
import Derived.Test.YtojbpjcfdjakkaaKShaperApplies1
import Derived.Test.YtojbpjcfdjakkaaKShaperApplies2
import Derived.Test.YtojbpjcfdjakkaaKShaperApplies3
import Derived.Test.YtojbpjcfdjakkaaKShaperApplies4
section
set_option linter.unusedVariables false
set_option linter.unusedSimpArgs false
namespace Go.Proofs.Ytojbpjcfdjakkaa
open Go.RowKit
noncomputable def Zdj : Nat → Option Con := look [(83, Z8b), (85, Z5u)]
set_option maxHeartbeats 20000000 in
set_option maxRecDepth 100000 in
theorem Zqi (P : Program) (T : Tab P Zdj) (hm : P.follows .mixedOrders = true) : FnVC P Zdj Zkf [.c 2 3 true, .t 3] 26 Zfo := by
 intro cargs ccks ce hce hob C hk
 apply Hidden.out
 replace hce : Zax cargs ccks = some ce := hce
 unfold Zax at hce
 split at hce; rotate_left; cases hce
 obtain rfl := Option.some.inj hce
 rename_i x1 x2 x3 r1
 refine obh hob fun r hF => ?_
 clear hob hce
 simp only [List.length_cons, List.length_nil, Nat.zero_add, Nat.reduceAdd] at hk
 have hr : Z1v x1 x2 x3 r1 = some r := by rw [lock_eq] at hF; exact hF
 unfold Z1v at hr
 constructor
 (try cbv)
 refine cal hr (by rintro (⟨_, _, _, _⟩) _ <;> cbv) ?_
 rintro ⟨y1, y2, y3, c1⟩ hx1 hr
 (try dsimp only at hr); constructor; (try cbv)
 refine Z2 hr ?_ ?_ <;> intro h1 hr
 ·(try cbv)
  refine cal hr (by rintro (_) _ <;> cbv) ?_
  rintro y4 hx2 hr
  (try dsimp only at hr); constructor; (try cbv)
  apply Hidden.out
  exact clc60e0
 (try cbv)
 apply Hidden.out
 exact clc60e0
noncomputable def Zbh : Nat → Option Con := look []
set_option maxHeartbeats 20000000 in
set_option maxRecDepth 100000 in
theorem Zvk (P : Program) (T : Tab P Zbh) (hm : P.follows .mixedOrders = true) : FnVC P Zbh Zkh [.c 4 3 true, .t 5] 17 Ze1 := by
 intro cargs ccks ce hce hob C hk
 apply Hidden.out
 replace hce : Zbu cargs ccks = some ce := hce
 unfold Zbu at hce
 split at hce; rotate_left; cases hce
 obtain rfl := Option.some.inj hce
 rename_i x1 x2 x3 x4
 refine obh hob fun r hF => ?_
 clear hob hce
 simp only [List.length_cons, List.length_nil, Nat.zero_add, Nat.reduceAdd] at hk
 have hr : Z3x x1 x2 x3 x4 = some r := by rw [lock_eq] at hF; exact hF
 unfold Z3x at hr
 constructor
 (try cbv)
 refine Z2 hr ?_ ?_ <;> intro h1 hr
 ·(try cbv)
  apply Hidden.out
  exact clf1d56
 (try cbv)
 apply Hidden.out
 exact clf1d56
noncomputable def Zfd : Nat → Option Con := look [(54, Zaq), (55, Zet), (56, Zfo), (57, Ze1)]
set_option maxHeartbeats 20000000 in
set_option maxRecDepth 100000 in
theorem Zzf (P : Program) (T : Tab P Zfd) (hm : P.follows .mixedOrders = true) : FnVC P Zfd Zjb [.c 2 3 true, .t 3, .t 4] 80 Z7w := by
 intro cargs ccks ce hce hob C hk
 apply Hidden.out
 replace hce : Zbl cargs ccks = some ce := hce
 unfold Zbl at hce
 split at hce; rotate_left; cases hce
 split at hce; rotate_left; cases hce
 split at hce; rotate_left; cases hce; rename_i s1 b1 x1 x2
 split at hce; rotate_left; cases hce; rename_i r1
 split at hce; rotate_left; cases hce; rename_i r2
 split at hce; rotate_left; cases hce; rename_i w1 n1
 split at hce; rotate_left; cases hce; rename_i x3 b2
 split at hce; rotate_left; cases hce; rename_i w2 r3
 split at hce; rotate_left; cases hce; rename_i l1
 split at hce; rotate_left; cases hce; rename_i l2
 split at hce
 ·cases hce
 obtain rfl := Option.some.inj hce
 rename_i _ htm
 simp only [Bool.and_eq_true] at htm
 obtain ⟨h1, h2⟩ := htm
 obtain rfl := Zd _ _ h1
 obtain rfl := Zd _ _ h2
 clear h1 h2
 refine obh hob fun r hF => ?_
 clear hob hce
 simp only [List.length_cons, List.length_nil, Nat.zero_add, Nat.reduceAdd] at hk
 have hr : Z13 s1 b1 x1 x2 r1 r2 n1 x3 b2 r3 l1 l2 = some r := by rw [lock_eq] at hF; exact hF
 unfold Z13 at hr
 constructor
 (try cbv)
 refine LoopOK.iter T (drawOK T hm) hr (fun | (i1, r4, r5) => ⟨mkFr [(0, (.ptr 0 0)), (2, (.ptr 8 0)), (5, (.wsl 9)), (18, (.wsl 3)), (19, (.v (.int .i64 (lock ofN n1)))), (20, (.v (.int .i64 i1)))] 80 0, [(0, .blk 92 [(.str s1), (.v (.bool b1)), (.wsl 1), (.wsl 2), (.v (.int .i64 x1)), (.v (.int .u64 x2)), (.wsl 3), (.ptr 4 0)]), (1, .row (.row 83 (.st [.str, (.int .u64), (.int .u64), (.int .u64), (.int .i64), .bool]) r1)), (2, .row (.row 96 (.st [(.int .i64), (.int .i64), (.int .i64)]) r2)), (3, .prow 98 tm98 n1 10), (4, .blk 169 [(.wsl 6), (.v (.int .i64 x3)), (.v (.bool b2)), (.wsl 7)]), (6, .row (.ints 46 .u64 l1)), (7, .row (.ints 46 .u64 l2)), (8, .blk 75 [(.v (.int .u64 (0 : Int))), (.v (.int .i64 (0 : Int))), (.v (.int .i64 (0 : Int)))]), (9, .row (.row 133 (.st [(.int .u64), .bool]) r4)), (10, .gho tm98 r5 none)], 11⟩) ?_ ?_
 ·exact cl63eab
 clear hr
 intro x bb1 hr ht1
 obtain ⟨i1, r4, r5⟩ := x
 as_aux_lemma =>
 constructor
 unfold Z22 at hr
 (try dsimp only at hr)
 (try cbv)
 refine Z2 hr ?_ ?_ <;> intro h1 hr
 ·(try cbv)
  refine Z3 hr fun hr => ?_
  refine cal hr (by rintro (⟨_, _⟩) _ <;> cbv) ?_
  rintro ⟨y4, c4⟩ hx4 hr
  (try dsimp only at hr); constructor; (try cbv)
  refine Z3 hr fun hr => ?_
  apply Hidden.out
  exact cl34131
 (try cbv)
 refine cal hr (by rintro (⟨_, _, _, _⟩) _ <;> cbv) ?_
 rintro ⟨y5, y6, c5, m1⟩ hx5 hr
 (try dsimp only at hr); constructor; (try cbv)
 refine Z2 hr ?_ ?_ <;> intro h1 hr
 ·(try cbv)
  apply Hidden.out
  exact cl73344
 (try cbv)
 refine Z3 hr fun hr => ?_
 refine cal hr (by rintro (⟨_, _, _, _, _, _⟩) _ <;> cbv) ?_
 rintro ⟨y7, y8, y9, c6, y10, y11⟩ hx6 hr
 (try dsimp only at hr); constructor; (try cbv)
 refine Z2 hr ?_ ?_ <;> intro h1 hr
 ·(try cbv)
  refine cald hr (by rintro (⟨_, _⟩) _ <;> cbv) ?_
  rintro ⟨y12, c7⟩ hx7 hr
  (try dsimp only at hr); constructor; (try cbv)
  apply Hidden.out
  exact cl73344
 (try cbv)
 apply Hidden.out
 exact cl73344
noncomputable def Zfk : Nat → Option Con := look []
set_option maxHeartbeats 20000000 in
set_option maxRecDepth 100000 in
theorem Zvm (P : Program) (T : Tab P Zfk) (hm : P.follows .mixedOrders = true) : FnVC P Zfk Zni [.t 4] 16 Zbg := by
 intro cargs ccks ce hce hob C hk
 apply Hidden.out
 replace hce : Z9z cargs ccks = some ce := hce
 unfold Z9z at hce
 split at hce; rotate_left; cases hce
 obtain rfl := Option.some.inj hce
 rename_i x1 x2
 refine obh hob fun r hF => ?_
 clear hob hce
 simp only [List.length_cons, List.length_nil, Nat.zero_add, Nat.reduceAdd] at hk
 have hr : Z4i x1 x2 = some r := by rw [lock_eq] at hF; exact hF
 unfold Z4i at hr
 constructor
 (try cbv)
 refine Z2 hr ?_ ?_ <;> intro h1 hr
 ·(try cbv)
  refine Z54 hr fun hr => ?_
  refine Z2 hr ?_ ?_ <;> intro h1 hr
  ·(try cbv)
   apply Hidden.out
   exact clacd82
  (try cbv)
  apply Hidden.out
  exact clacd82
 (try cbv)
 apply Hidden.out
 exact clacd82
noncomputable def Zb4 : Nat → Option Con := look [(98, Zbg), (97, Z73)]
set_option maxHeartbeats 20000000 in
set_option maxRecDepth 100000 in
theorem Zz0 (P : Program) (T : Tab P Zb4) (hm : P.follows .mixedOrders = true) : FnVC P Zb4 Zhn [.t 8] 18 Zc5 := by
 intro cargs ccks ce hce hob C hk
 apply Hidden.out
 replace hce : Z98 cargs ccks = some ce := hce
 unfold Z98 at hce
 split at hce; rotate_left; cases hce
 obtain rfl := Option.some.inj hce
 rename_i x1 x2 x3 x4
 refine obh hob fun r hF => ?_
 clear hob hce
 simp only [List.length_cons, List.length_nil, Nat.zero_add, Nat.reduceAdd] at hk
 have hr : Z3j x1 x2 x3 x4 = some r := by rw [lock_eq] at hF; exact hF
 unfold Z3j at hr
 constructor
 (try cbv)
 refine cal hr (by rintro (_) _ <;> cbv) ?_
 rintro y1 hx1 hr
 (try dsimp only at hr); constructor; (try cbv)
 refine cal hr (by rintro (_) _ <;> cbv) ?_
 rintro y2 hx2 hr
 (try dsimp only at hr); constructor; (try cbv)
 apply Hidden.out
 exact clacd82
noncomputable def Zb0 : Nat → Option Con := look [(82, Zc5)]
set_option maxHeartbeats 20000000 in
set_option maxRecDepth 100000 in
theorem Ztj (P : Program) (T : Tab P Zb0) (hm : P.follows .mixedOrders = true) : FnVC P Zb0 Zjh [.c 4 3 true] 15 Zgb := by
 intro cargs ccks ce hce hob C hk
 apply Hidden.out
 replace hce : Zdv cargs ccks = some ce := hce
 unfold Zdv at hce
 split at hce; rotate_left; cases hce
 obtain rfl := Option.some.inj hce
 rename_i x1 x2 x3 x4
 refine obh hob fun r hF => ?_
 clear hob hce
 simp only [List.length_cons, List.length_nil, Nat.zero_add, Nat.reduceAdd] at hk
 have hr : Z2r x1 x2 x3 x4 = some r := by rw [lock_eq] at hF; exact hF
 unfold Z2r at hr
 constructor
 (try cbv)
 refine cal hr (by rintro (_) _ <;> cbv) ?_
 rintro y1 hx1 hr
 (try dsimp only at hr); constructor; (try cbv)
 apply Hidden.out
 exact clacd82
noncomputable def Zba : Nat → Option Con := look [(53, Zgb)]
set_option maxHeartbeats 20000000 in
set_option maxRecDepth 100000 in
theorem Zte (P : Program) (T : Tab P Zba) (hm : P.follows .mixedOrders = true) : FnVC P Zba Zjf [] 27 Z8d := by
 intro cargs ccks ce hce hob C hk
 apply Hidden.out
 replace hce : Zb6 cargs ccks = some ce := hce
 unfold Zb6 at hce
 split at hce; rotate_left; cases hce; rename_i x1
 split at hce; rotate_left; cases hce
 split at hce; rotate_left; cases hce; rename_i s1 b1 x2 x3
 split at hce; rotate_left; cases hce; rename_i r1
 split at hce; rotate_left; cases hce; rename_i r2
 split at hce; rotate_left; cases hce; rename_i w1 n1
 split at hce; rotate_left; cases hce; rename_i x4 b2
 split at hce; rotate_left; cases hce; rename_i w2 r3
 split at hce; rotate_left; cases hce; rename_i l1
 split at hce; rotate_left; cases hce; rename_i l2
 split at hce
 ·cases hce
 obtain rfl := Option.some.inj hce
 rename_i _ htm
 simp only [Bool.and_eq_true] at htm
 obtain ⟨h1, h2⟩ := htm
 obtain rfl := Zd _ _ h1
 obtain rfl := Zd _ _ h2
 clear h1 h2
 refine obh hob fun r hF => ?_
 clear hob hce
 simp only [List.length_cons, List.length_nil, Nat.zero_add, Nat.reduceAdd] at hk
 have hr : Z2p x1 s1 b1 x2 x3 r1 r2 n1 x4 b2 r3 l1 l2 = some r := by rw [lock_eq] at hF; exact hF
 unfold Z2p at hr
 constructor
 (try cbv)
 refine LoopOK.iter T (drawOK T hm) hr (fun | (i1, r4) => ⟨mkFr [(1, (.v (.int .u64 x1))), (11, (.wsl 3)), (12, (.v (.int .i64 (lock ofN n1)))), (13, (.v (.int .i64 i1)))] 27 0, [(0, .blk 92 [(.str s1), (.v (.bool b1)), (.wsl 1), (.wsl 2), (.v (.int .i64 x2)), (.v (.int .u64 x3)), (.wsl 3), (.ptr 4 0)]), (1, .row (.row 83 (.st [.str, (.int .u64), (.int .u64), (.int .u64), (.int .i64), .bool]) r1)), (2, .row (.row 96 (.st [(.int .i64), (.int .i64), (.int .i64)]) r2)), (3, .prow 98 tm98 n1 8), (4, .blk 169 [(.wsl 6), (.v (.int .i64 x4)), (.v (.bool b2)), (.wsl 7)]), (6, .row (.ints 46 .u64 l1)), (7, .row (.ints 46 .u64 l2)), (8, .gho tm98 r4 none)], 9⟩) ?_ ?_
 ·exact cl1df3b
 clear hr
 intro x bb1 hr ht1
 obtain ⟨i1, r4⟩ := x
 as_aux_lemma =>
 constructor
 unfold Z6r at hr
 (try dsimp only at hr)
 (try cbv)
 refine Z2 hr ?_ ?_ <;> intro h1 hr
 ·(try cbv)
  refine Z3 hr fun hr => ?_
  refine cal hr (by rintro (_) _ <;> cbv) ?_
  rintro y4 hx4 hr
  (try dsimp only at hr); constructor; (try cbv)
  apply Hidden.out
  exact cl81169
 (try cbv)
 apply Hidden.out
 exact clb5cb2
noncomputable def Zbz : Nat → Option Con := look [(33, Z6i)]
set_option maxHeartbeats 20000000 in
set_option maxRecDepth 100000 in
theorem Z10h (P : Program) (T : Tab P Zbz) (hm : P.follows .mixedOrders = true) : FnVC P Zbz Zk1 [.t 2] 26 Z76 := by
 intro cargs ccks ce hce hob C hk
 apply Hidden.out
 replace hce : Zf4 cargs ccks = some ce := hce
 unfold Zf4 at hce
 split at hce; rotate_left; cases hce
 split at hce; rotate_left; cases hce
 split at hce; rotate_left; cases hce; rename_i s1 b1 x1 x2
 split at hce; rotate_left; cases hce; rename_i r1
 split at hce; rotate_left; cases hce; rename_i r2
 split at hce; rotate_left; cases hce; rename_i w1 n1
 split at hce; rotate_left; cases hce; rename_i x3 b2
 split at hce; rotate_left; cases hce; rename_i w2 r3
 split at hce; rotate_left; cases hce; rename_i l1
 split at hce; rotate_left; cases hce; rename_i l2
 split at hce
 ·cases hce
 obtain rfl := Option.some.inj hce
 rename_i _ htm
 simp only [Bool.and_eq_true] at htm
 obtain ⟨h1, h2⟩ := htm
 obtain rfl := Zd _ _ h1
 obtain rfl := Zd _ _ h2
 clear h1 h2
 refine obh hob fun r hF => ?_
 clear hob hce
 simp only [List.length_cons, List.length_nil, Nat.zero_add, Nat.reduceAdd] at hk
 have hr : Z1o s1 b1 x1 x2 r1 r2 n1 x3 b2 r3 l1 l2 = some r := by rw [lock_eq] at hF; exact hF
 unfold Z1o at hr
 constructor
 (try cbv)
 refine LoopOK.iter T (drawOK T hm) hr (fun | (i1, i2, r4) => ⟨mkFr [(3, (.v (.int .i64 i1))), (11, (.wsl 3)), (12, (.v (.int .i64 (lock ofN n1)))), (13, (.v (.int .i64 i2)))] 26 0, [(0, .blk 92 [(.str s1), (.v (.bool b1)), (.wsl 1), (.wsl 2), (.v (.int .i64 x1)), (.v (.int .u64 x2)), (.wsl 3), (.ptr 4 0)]), (1, .row (.row 83 (.st [.str, (.int .u64), (.int .u64), (.int .u64), (.int .i64), .bool]) r1)), (2, .row (.row 96 (.st [(.int .i64), (.int .i64), (.int .i64)]) r2)), (3, .prow 98 tm98 n1 8), (4, .blk 169 [(.wsl 6), (.v (.int .i64 x3)), (.v (.bool b2)), (.wsl 7)]), (6, .row (.ints 46 .u64 l1)), (7, .row (.ints 46 .u64 l2)), (8, .gho tm98 r4 none)], 9⟩) ?_ ?_
 ·exact cl63eab
 clear hr
 intro x bb1 hr ht1
 obtain ⟨i1, i2, r4⟩ := x
 as_aux_lemma =>
 constructor
 unfold Z6y at hr
 (try dsimp only at hr)
 (try cbv)
 refine Z2 hr ?_ ?_ <;> intro h1 hr
 ·(try cbv)
  refine Z3 hr fun hr => ?_
  refine cal hr (by rintro (_) _ <;> cbv) ?_
  rintro _ hx4 hr
  (try dsimp only at hr); constructor; (try cbv)
  apply Hidden.out
  exact cl34131
 (try cbv)
 apply Hidden.out
 exact cl1c5c3
noncomputable def Zeo : Nat → Option Con := look []
set_option maxHeartbeats 20000000 in
set_option maxRecDepth 100000 in
theorem Zr7 (P : Program) (T : Tab P Zeo) (hm : P.follows .mixedOrders = true) : FnVC P Zeo Zo5 [.c 2 3 true] 18 Z7x := by
 intro cargs ccks ce hce hob C hk
 apply Hidden.out
 replace hce : altC (Zg6 cargs ccks) (altC (Zdy cargs ccks) (Zdt cargs ccks)) = some ce := hce
 replace hce := Zn hce
 rcases hce with hce | hce
 ·unfold Zg6 at hce
  split at hce; rotate_left; cases hce
  obtain rfl := Option.some.inj hce
  rename_i x1 b1 l1
  refine obh hob fun r hF => ?_
  clear hob hce
  simp only [List.length_cons, List.length_nil, Nat.zero_add, Nat.reduceAdd] at hk
  have hr : Z2k x1 b1 l1 = some r := by rw [lock_eq] at hF; exact hF
  unfold Z2k at hr
  constructor
  (try cbv)
  refine Z3 hr fun hr => ?_
  apply Hidden.out
  exact clacd82
 replace hce := Zn hce
 rcases hce with hce | hce
 ·unfold Zdy at hce
  split at hce; rotate_left; cases hce
  obtain rfl := Option.some.inj hce
  rename_i x1 b1
  refine obh hob fun r hF => ?_
  clear hob hce
  simp only [List.length_cons, List.length_nil, Nat.zero_add, Nat.reduceAdd] at hk
  have hr : Z6o x1 b1 = some r := by rw [lock_eq] at hF; exact hF
  unfold Z6o at hr
  constructor
  (try cbv)
  refine Z3 hr fun hr => ?_
  apply Hidden.out
  exact clacd82
 unfold Zdt at hce
 split at hce; rotate_left; cases hce
 obtain rfl := Option.some.inj hce
 rename_i x1 b1 l1
 refine obh hob fun r hF => ?_
 clear hob hce
 simp only [List.length_cons, List.length_nil, Nat.zero_add, Nat.reduceAdd] at hk
 have hr : Z47 x1 b1 l1 = some r := by rw [lock_eq] at hF; exact hF
 unfold Z47 at hr
 constructor
 (try cbv)
 refine Z3 hr fun hr => ?_
 apply Hidden.out
 exact clacd82
noncomputable def Zbb : Nat → Option Con := look [(77, Z7x)]
set_option maxHeartbeats 20000000 in
set_option maxRecDepth 100000 in
theorem Zt7 (P : Program) (T : Tab P Zbb) (hm : P.follows .mixedOrders = true) : FnVC P Zbb Zi5 [.c 2 3 true] 11 Zct := by
 intro cargs ccks ce hce hob C hk
 apply Hidden.out
 replace hce : Zce cargs ccks = some ce := hce
 unfold Zce at hce
 split at hce; rotate_left; cases hce
 obtain rfl := Option.some.inj hce
 rename_i x1 b1 l1 l2
 refine obh hob fun r hF => ?_
 clear hob hce
 simp only [List.length_cons, List.length_nil, Nat.zero_add, Nat.reduceAdd] at hk
 have hr : Z3b x1 b1 l1 l2 = some r := by rw [lock_eq] at hF; exact hF
 unfold Z3b at hr
 constructor
 (try cbv)
 refine cal hr (by rintro (_) _ <;> cbv) ?_
 rintro m1 hx1 hr
 (try dsimp only at hr); constructor; (try cbv)
 apply Hidden.out
 exact clacd82
noncomputable def Z8y : Nat → Option Con := look [(33, Z6i), (85, Z5u)]
set_option maxHeartbeats 20000000 in
set_option maxRecDepth 100000 in
theorem Zye (P : Program) (T : Tab P Z8y) (hm : P.follows .mixedOrders = true) : FnVC P Z8y Zle [.t 2] 24 Zeb := by
 intro cargs ccks ce hce hob C hk
 apply Hidden.out
 replace hce : Zfs cargs ccks = some ce := hce
 unfold Zfs at hce
 split at hce; rotate_left; cases hce
 obtain rfl := Option.some.inj hce
 rename_i x1 x2 x3 r1
 refine obh hob fun r hF => ?_
 clear hob hce
 simp only [List.length_cons, List.length_nil, Nat.zero_add, Nat.reduceAdd] at hk
 have hr : Z4d x1 x2 x3 r1 = some r := by rw [lock_eq] at hF; exact hF
 unfold Z4d at hr
 constructor
 (try cbv)
 refine cal hr (by rintro (_) _ <;> cbv) ?_
 rintro _ hx1 hr
 (try dsimp only at hr); constructor; (try cbv)
 refine LoopOK.iter T (drawOK T hm) hr (fun | (i1, r2) => ⟨mkFr [(0, (.ptr 0 0)), (3, (.wsl 2)), (6, (.v (.int .i64 x3))), (7, (.v (.int .i64 i1)))] 24 0, [(0, .blk 144 [(.v (.int .i64 x1)), (.wsl 1), (.v (.int .i64 x2)), (.v (.int .i64 x3))]), (1, .row (.row 75 (.st [(.int .u64), (.int .i64), (.int .i64)]) r1)), (2, .row (.row 75 (.st [(.int .u64), (.int .i64), (.int .i64)]) r2))], 3⟩) ?_ ?_
 ·exact cl1df3b
 clear hr
 intro x bb1 hr ht1
 obtain ⟨i1, r2⟩ := x
 as_aux_lemma =>
 constructor
 unfold Z6m at hr
 (try dsimp only at hr)
 (try cbv)
 refine Z2 hr ?_ ?_ <;> intro h1 hr
 ·(try cbv)
  refine cald hr (by rintro (_) _ <;> cbv) ?_
  rintro y4 hx5 hr
  (try dsimp only at hr); constructor; (try cbv)
  refine Z3 hr fun hr => ?_
  refine Z3 hr fun hr => ?_
  apply Hidden.out
  exact cl81169
 (try cbv)
 apply Hidden.out
 exact clb5cb2
noncomputable def Zdk : Nat → Option Con := look [(66, Zeb)]
set_option maxHeartbeats 20000000 in
set_option maxRecDepth 100000 in
theorem Zq5 (P : Program) (T : Tab P Zdk) (hm : P.follows .mixedOrders = true) : FnVC P Zdk Zmx [.t 2] 25 Z7g := by
 intro cargs ccks ce hce hob C hk
 apply Hidden.out
 replace hce : Zbr cargs ccks = some ce := hce
 unfold Zbr at hce
 split at hce; rotate_left; cases hce
 split at hce; rotate_left; cases hce
 split at hce; rotate_left; cases hce; rename_i s1 b1 x1 x2
 split at hce; rotate_left; cases hce; rename_i r1
 split at hce; rotate_left; cases hce; rename_i r2
 split at hce; rotate_left; cases hce; rename_i w1 n1
 split at hce; rotate_left; cases hce; rename_i x3 b2
 split at hce; rotate_left; cases hce; rename_i w2 r3
 split at hce; rotate_left; cases hce; rename_i l1
 split at hce; rotate_left; cases hce; rename_i l2
 split at hce
 ·cases hce
 obtain rfl := Option.some.inj hce
 rename_i _ htm
 simp only [Bool.and_eq_true] at htm
 obtain ⟨h1, h2⟩ := htm
 obtain rfl := Zd _ _ h1
 obtain rfl := Zd _ _ h2
 clear h1 h2
 refine obh hob fun r hF => ?_
 clear hob hce
 simp only [List.length_cons, List.length_nil, Nat.zero_add, Nat.reduceAdd] at hk
 have hr : Z33 s1 b1 x1 x2 r1 r2 n1 x3 b2 r3 l1 l2 = some r := by rw [lock_eq] at hF; exact hF
 unfold Z33 at hr
 constructor
 (try cbv)
 refine LoopOK.iter T (drawOK T hm) hr (fun | (i1, r4, r5) => ⟨mkFr [(3, (.wsl 8)), (9, (.wsl 3)), (10, (.v (.int .i64 (lock ofN n1)))), (11, (.v (.int .i64 i1)))] 25 0, [(0, .blk 92 [(.str s1), (.v (.bool b1)), (.wsl 1), (.wsl 2), (.v (.int .i64 x1)), (.v (.int .u64 x2)), (.wsl 3), (.ptr 4 0)]), (1, .row (.row 83 (.st [.str, (.int .u64), (.int .u64), (.int .u64), (.int .i64), .bool]) r1)), (2, .row (.row 96 (.st [(.int .i64), (.int .i64), (.int .i64)]) r2)), (3, .prow 98 tm98 n1 9), (4, .blk 169 [(.wsl 6), (.v (.int .i64 x3)), (.v (.bool b2)), (.wsl 7)]), (6, .row (.ints 46 .u64 l1)), (7, .row (.ints 46 .u64 l2)), (8, .row (.row 72 (.row 75 (.st [(.int .u64), (.int .i64), (.int .i64)])) r4)), (9, .gho tm98 r5 none)], 10⟩) ?_ ?_
 ·exact cl63eab
 clear hr
 intro x bb1 hr ht1
 obtain ⟨i1, r4, r5⟩ := x
 as_aux_lemma =>
 constructor
 unfold Z60 at hr
 (try dsimp only at hr)
 (try cbv)
 refine Z2 hr ?_ ?_ <;> intro h1 hr
 ·(try cbv)
  refine Z3 hr fun hr => ?_
  refine cal hr (by rintro (_) _ <;> cbv) ?_
  rintro q4 hx4 hr
  (try dsimp only at hr); constructor; (try cbv)
  refine Z3 hr fun hr => ?_
  apply Hidden.out
  exact cl34131
 (try cbv)
 apply Hidden.out
 exact cl1c5c3
noncomputable def Zcd : Nat → Option Con := look [(48, Zct), (36, Z7g)]
set_option maxHeartbeats 20000000 in
set_option maxRecDepth 100000 in
theorem Zrt (P : Program) (T : Tab P Zcd) (hm : P.follows .mixedOrders = true) : FnVC P Zcd Zmi [.c 2 6 true] 42 Z5s := by
 intro cargs ccks ce hce hob C hk
 apply Hidden.out
 replace hce : Z91 cargs ccks = some ce := hce
 unfold Z91 at hce
 split at hce; rotate_left; cases hce
 split at hce; rotate_left; cases hce
 split at hce; rotate_left; cases hce; rename_i s1 b1 x1 x2
 split at hce; rotate_left; cases hce; rename_i r1
 split at hce; rotate_left; cases hce; rename_i r2
 split at hce; rotate_left; cases hce; rename_i w1 n1
 split at hce; rotate_left; cases hce; rename_i x3 b2
 split at hce; rotate_left; cases hce; rename_i w2 r3
 split at hce; rotate_left; cases hce; rename_i l1
 split at hce; rotate_left; cases hce; rename_i l2
 split at hce
 ·cases hce
 obtain rfl := Option.some.inj hce
 rename_i _ htm
 simp only [Bool.and_eq_true] at htm
 obtain ⟨h1, h2⟩ := htm
 obtain rfl := Zd _ _ h1
 obtain rfl := Zd _ _ h2
 clear h1 h2
 refine obh hob fun r hF => ?_
 clear hob hce
 simp only [List.length_cons, List.length_nil, Nat.zero_add, Nat.reduceAdd] at hk
 have hr : Zr s1 b1 x1 x2 r1 r2 n1 x3 b2 r3 l1 l2 = some r := by rw [lock_eq] at hF; exact hF
 unfold Zr at hr
 constructor
 (try cbv)
 refine cald hr (by rintro (_) _ <;> cbv) ?_
 rintro m1 hx1 hr
 (try dsimp only at hr); constructor; (try cbv)
 refine cald hr (by rintro (⟨_, _⟩) _ <;> cbv) ?_
 rintro ⟨q1, q2⟩ hx2 hr
 (try dsimp only at hr); constructor; (try cbv)
 refine LoopOK.iter T (drawOK T hm) hr (fun | (i1, r4, l3) => ⟨mkFr [(2, (.ptr 8 0)), (3, (.ptr 9 0)), (24, (.wsl 3)), (25, (.v (.int .i64 (lock ofN n1)))), (26, (.v (.int .i64 i1)))] 42 0, [(0, .blk 92 [(.str s1), (.v (.bool b1)), (.wsl 1), (.wsl 2), (.v (.int .i64 x1)), (.v (.int .u64 x2)), (.wsl 3), (.ptr 4 0)]), (1, .row (.row 83 (.st [.str, (.int .u64), (.int .u64), (.int .u64), (.int .i64), .bool]) r1)), (2, .row (.row 96 (.st [(.int .i64), (.int .i64), (.int .i64)]) r2)), (3, .prow 98 tm98 n1 10), (4, .blk 169 [(.wsl 6), (.v (.int .i64 x3)), (.v (.bool b2)), (.wsl 7)]), (6, .row (.ints 46 .u64 l1)), (7, .row (.ints 46 .u64 l2)), (8, .blk 67 [(.v (.int .u64 (0 : Int))), .nsl, (.v (.int .i64 (0 : Int))), (.v (.bool false)), .nsl, .nsl]), (9, .blk 67 [(.v (.int .u64 x2)), (.wsl 11), (.v (.int .i64 x3)), (.v (.bool b2)), (.wsl 12), (.wsl 13)]), (10, .gho tm98 r4 none), (11, .row (.ints 46 .u64 l3)), (12, .row (.ints 46 .u64 m1)), (13, .row (.row 72 (.row 75 (.st [(.int .u64), (.int .i64), (.int .i64)])) q1))], 14⟩) ?_ ?_
 ·exact cl63eab
 clear hr
 intro x bb1 hr ht1
 obtain ⟨i1, r4, l3⟩ := x
 as_aux_lemma =>
 constructor
 unfold Z5t at hr
 (try dsimp only at hr)
 (try cbv)
 refine Z2 hr ?_ ?_ <;> intro h1 hr
 ·(try cbv)
  refine Z3 hr fun hr => ?_
  refine Z3 hr fun hr => ?_
  apply Hidden.out
  exact cl34131
 (try cbv)
 apply Hidden.out
 exact clfb273
noncomputable def Z8v : Nat → Option Con := look []
set_option maxHeartbeats 20000000 in
set_option maxRecDepth 100000 in
theorem Zs8 (P : Program) (T : Tab P Z8v) (hm : P.follows .mixedOrders = true) : FnVC P Z8v Zmc [.t 4] 26 Zcl := by
 intro cargs ccks ce hce hob C hk
 apply Hidden.out
 replace hce : Zca cargs ccks = some ce := hce
 unfold Zca at hce
 split at hce; rotate_left; cases hce
 obtain rfl := Option.some.inj hce
 rename_i r1 r2
 refine obh hob fun r hF => ?_
 clear hob hce
 simp only [List.length_cons, List.length_nil, Nat.zero_add, Nat.reduceAdd] at hk
 have hr : Z1t r1 r2 = some r := by rw [lock_eq] at hF; exact hF
 unfold Z1t at hr
 constructor
 (try cbv)
 refine Z9 hr ?_ ?_ <;> intro h1 hr
 ·(try cbv)
  apply Hidden.out
  exact clacd82
 (try cbv)
 refine LoopOK.iter T (drawOK T hm) hr (fun | i1 => ⟨mkFr [(0, (.rsl (.row 83 (.st [.str, (.int .u64), (.int .u64), (.int .u64), (.int .i64), .bool]) r1))), (1, (.rsl (.row 83 (.st [.str, (.int .u64), (.int .u64), (.int .u64), (.int .i64), .bool]) r2))), (12, (.v (.int .i64 (lock ofN (lock (@xlen D) r1))))), (13, (.v (.int .i64 i1)))] 26 0, [], 0⟩) ?_ ?_
 ·exact cl2ec4c
 clear hr
 intro x bb1 hr ht1
 obtain ⟨i1, hz⟩ : ∃ z, z = x := ⟨x, rfl⟩
 subst hz
 as_aux_lemma =>
 constructor
 unfold Z3c at hr
 (try dsimp only at hr)
 (try cbv)
 refine Z2 hr ?_ ?_ <;> intro h1 hr
 ·(try cbv)
  refine Z3 hr fun hr => ?_
  refine Z3 hr fun hr => ?_
  refine Z9 hr ?_ ?_ <;> intro h1 hr
  ·(try cbv)
   apply Hidden.out
   exact clb5cb2
  (try cbv)
  apply Hidden.out
  exact clba30f
 (try cbv)
 apply Hidden.out
 exact clb5cb2
noncomputable def Zfv : Nat → Option Con := look []
set_option maxHeartbeats 20000000 in
set_option maxRecDepth 100000 in
theorem Zu2 (P : Program) (T : Tab P Zfv) (hm : P.follows .mixedOrders = true) : FnVC P Zfv Zj8 [.t 4] 26 Zfl := by
 intro cargs ccks ce hce hob C hk
 apply Hidden.out
 replace hce : Zdm cargs ccks = some ce := hce
 unfold Zdm at hce
 split at hce; rotate_left; cases hce
 obtain rfl := Option.some.inj hce
 rename_i r1 r2
 refine obh hob fun r hF => ?_
 clear hob hce
 simp only [List.length_cons, List.length_nil, Nat.zero_add, Nat.reduceAdd] at hk
 have hr : Z1r r1 r2 = some r := by rw [lock_eq] at hF; exact hF
 unfold Z1r at hr
 constructor
 (try cbv)
 refine Z9 hr ?_ ?_ <;> intro h1 hr
 ·(try cbv)
  apply Hidden.out
  exact clacd82
 (try cbv)
 refine LoopOK.iter T (drawOK T hm) hr (fun | i1 => ⟨mkFr [(0, (.rsl (.row 96 (.st [(.int .i64), (.int .i64), (.int .i64)]) r1))), (1, (.rsl (.row 96 (.st [(.int .i64), (.int .i64), (.int .i64)]) r2))), (12, (.v (.int .i64 (lock ofN (lock (@xlen D) r1))))), (13, (.v (.int .i64 i1)))] 26 0, [], 0⟩) ?_ ?_
 ·exact cl2ec4c
 clear hr
 intro x bb1 hr ht1
 obtain ⟨i1, hz⟩ : ∃ z, z = x := ⟨x, rfl⟩
 subst hz
 as_aux_lemma =>
 constructor
 unfold Z5d at hr
 (try dsimp only at hr)
 (try cbv)
 refine Z2 hr ?_ ?_ <;> intro h1 hr
 ·(try cbv)
  refine Z3 hr fun hr => ?_
  refine Z3 hr fun hr => ?_
  refine Z9 hr ?_ ?_ <;> intro h1 hr
  ·(try cbv)
   apply Hidden.out
   exact clb5cb2
  (try cbv)
  apply Hidden.out
  exact clba30f
 (try cbv)
 apply Hidden.out
 exact clb5cb2
noncomputable def Zei : Nat → Option Con := look [(63, Zcl), (64, Zfl)]
set_option maxHeartbeats 20000000 in
set_option maxRecDepth 100000 in
theorem Zzp (P : Program) (T : Tab P Zei) (hm : P.follows .mixedOrders = true) : FnVC P Zei Zlx [.t 4] 42 Zc7 := by
 intro cargs ccks ce hce hob C hk
 apply Hidden.out
 replace hce : altC (Z9i cargs ccks) (Zf6 cargs ccks) = some ce := hce
 replace hce := Zn hce
 rcases hce with hce | hce
 ·unfold Z9i at hce
  split at hce; rotate_left; cases hce
  obtain rfl := Option.some.inj hce
  rename_i s1 b1 x1 s2 b2 x2 r1 r2 r3
  refine obh hob fun r hF => ?_
  clear hob hce
  simp only [List.length_cons, List.length_nil, Nat.zero_add, Nat.reduceAdd] at hk
  have hr : Z4k s1 b1 x1 s2 b2 x2 r1 r2 r3 = some r := by rw [lock_eq] at hF; exact hF
  unfold Z4k at hr
  constructor
  (try cbv)
  refine Z2 hr ?_ ?_ <;> intro h1 hr
  ·(try cbv)
   refine Z2 hr ?_ ?_ <;> intro h1 hr
   ·(try cbv)
    refine cal hr (by rintro (_) _ <;> cbv) ?_
    rintro c1 hx1 hr
    (try dsimp only at hr); constructor; (try cbv)
    refine Z2 hr ?_ ?_ <;> intro h1 hr
    ·(try cbv)
     refine cal hr (by rintro (_) _ <;> cbv) ?_
     rintro c2 hx2 hr
     (try dsimp only at hr); constructor; (try cbv)
     refine Z2 hr ?_ ?_ <;> intro h1 hr
     ·(try cbv)
      apply Hidden.out
      exact clacd82
     (try cbv)
     apply Hidden.out
     exact clacd82
    (try cbv)
    apply Hidden.out
    exact clacd82
   (try cbv)
   apply Hidden.out
   exact clacd82
  (try cbv)
  apply Hidden.out
  exact clacd82
 unfold Zf6 at hce
 split at hce; rotate_left; cases hce
 obtain rfl := Option.some.inj hce
 rename_i s1 b1 r1 r2 x1 s2 b2 x2 r3 r4
 refine obh hob fun r hF => ?_
 clear hob hce
 simp only [List.length_cons, List.length_nil, Nat.zero_add, Nat.reduceAdd] at hk
 have hr : Z37 s1 b1 r1 r2 x1 s2 b2 x2 r3 r4 = some r := by rw [lock_eq] at hF; exact hF
 unfold Z37 at hr
 constructor
 (try cbv)
 refine Z2 hr ?_ ?_ <;> intro h1 hr
 ·(try cbv)
  refine Z2 hr ?_ ?_ <;> intro h1 hr
  ·(try cbv)
   refine cal hr (by rintro (_) _ <;> cbv) ?_
   rintro c1 hx1 hr
   (try dsimp only at hr); constructor; (try cbv)
   refine Z2 hr ?_ ?_ <;> intro h1 hr
   ·(try cbv)
    refine cal hr (by rintro (_) _ <;> cbv) ?_
    rintro c2 hx2 hr
    (try dsimp only at hr); constructor; (try cbv)
    refine Z2 hr ?_ ?_ <;> intro h1 hr
    ·(try cbv)
     apply Hidden.out
     exact clacd82
    (try cbv)
    apply Hidden.out
    exact clacd82
   (try cbv)
   apply Hidden.out
   exact clacd82
  (try cbv)
  apply Hidden.out
  exact clacd82
 (try cbv)
 apply Hidden.out
 exact clacd82
theorem Zqm {P : Program} {f : FuncId} {con : Con} (h : FnOK P f con) {cargs : List SV} {obs : List Prop} {X : Type} {Pr : X → Prop} {v : X → SV} {post : X → List PostC} {sm : List Bool} (hc : con.f cargs [] = some ⟨obs, .many X Pr v post, sm⟩) (hob : ∀ p ∈ obs, p) (hv : ∀ x, Pr x → v x = .v (.bool true) ∧ post x = []) {W : World} {args : List Value} (hd : DensA (fun _ => none) W (fun _ => False) cargs args) (hG : ∀ g r, (g, r) ∈ globs → Den (fun _ => none) W (fun _ => False) (.rsl r) (.slice (some ⟨g, 0, none⟩) (rlen r) (rlen r)) := by intro g r h; simp [globs] at h) :
  Calls P f args.toArray W fun e W' => e = .returned (.bool true) ∧ Below W.heap.size W W' := by
 have hO : ∀ b, ¬ Own (fun _ => none) (canon 0 ([] : List Ck)) b := by
  rintro b ⟨id, c, p, h1, h2, h3⟩
  cases h2
 have hS : HSat (ctxOf W (fun _ => False) (fun _ => none) []) (fun _ => none) (canon 0 []) (fun i => ([] : List Ck).length ≤ i) W := by
  refine ⟨fun id c hc => by simp [canon, hget] at hc, fun i j c d p q b h1 => by simp [canon, hget] at h1, fun b hb => absurd hb (hO b), rfl, rfl, rfl, Nat.le_refl _, fun _ _ _ => rfl, ⟨fun b hb => hb.elim, fun g r hg => (hG g r hg).mono (fun _ _ h => h) (Nat.le_refl _) (fun _ _ _ => rfl) (fun b _ hb => by rcases hb with hz | ho; exact hz; exact hO b ho)⟩, fun _ _ => rfl, fun id hid => rfl⟩
 have hA : Avo (ctxOf W (fun _ => False) (fun _ => none) []) (fun _ => none) (canon 0 []) = fun _ => False := by
  funext b
  simp only [Avo, ctxOf, false_or, eq_iff_iff, iff_false]
  exact hO b
 have key := h cargs [] _ hc hob (fun _ => False) (fun _ => none) W args hS (by rw [hA]; exact hd)
 refine key.mono ?_
 rintro e W' ⟨u, PL', rfl, x, hx, H, D⟩
 obtain ⟨e1, e2⟩ := hv x hx
 rw [e1] at D
 cases D
 refine ⟨rfl, ?_⟩
 exact ⟨H.os, H.tape, H.output, H.size, fun k hk => H.old k hk (hO k)⟩
theorem Zr4 {PL : Nat → Option Pl} {w : World} {Av : Nat → Prop} : DensA PL w Av [] [] := ⟨rfl, fun j h1 _ => absurd h1 (by simp)⟩
theorem Za5 {PL : Nat → Option Pl} {w : World} {Av : Nat → Prop} {x : SV} {l : List SV} {c : Value} {cs : List Value} (h : Den PL w Av x c) (k : DensA PL w Av l cs) : DensA PL w Av (x :: l) (c :: cs) :=
 ⟨by simp [k.1], fun j h1 h2 => by
  cases j with
  | zero => exact h
  | succ j => exact k.2 j (by simpa using h1) (by simpa using h2)⟩
theorem Zy4 (w : World) (o : Obj) : (w.alloc o).heap[w.heap.size]? = some o := by
 show (w.heap.push o)[w.heap.size]? = some o
 simp
section
variable {P : Program} {w w' : World} {Z : Nat → Prop} {PL : Nat → Option Pl}
theorem Zt4 : hupd (pcan 0 []) (canon 0 ([] : List Ck)) = [] := rfl
theorem Zpz (r : R) : hupd (pcan 0 [.to (.row r)]) (canon 0 ([] : List Ck)) = [(0, .row r)] := rfl
theorem Zt6 (HS : HSat (ctxOf w Z PL []) PL (canon 0 []) (fun i => ([] : List Ck).length ≤ i) w) (hB : Below w.heap.size w w') : HSat (ctxOf w Z PL []) PL (hupd (pcan 0 []) (canon 0 [])) (fun _ => False) w' := by
 rw [Zt4]
 have hO : ∀ b, ¬ Own PL ([] : List (Nat × Ck)) b := by rintro b ⟨id, c, p, h1, _⟩; simp [hget] at h1
 refine ⟨fun id c hc => by simp [hget] at hc, fun i j c d p q b h1 => by simp [hget] at h1, fun b hb => absurd hb (hO b), hB.os, hB.tape, hB.output, hB.size, fun b hb _ => hB.block b hb, HS.zlt, fun _ h => h.elim, fun id hid => absurd hid (Nat.not_lt_zero _)⟩
theorem Zz2 (HS : HSat (ctxOf w Z PL []) PL (canon 0 []) (fun i => ([] : List Ck).length ≤ i) w) (hB : Below w.heap.size w w') (r : R) (b cap : Nat) (cs : Array Value) (hb : w.heap.size ≤ b)
  (hh : w'.heap[b]? = some (.cells cs r.T (0, 0))) (h0 : 0 < r.sz) (hc : rlen r ≤ cap) (hm : cap ≤ maxLen) (hs : cs.size = cap * r.sz) (hr : ∀ PL' Av', RP PL' w' Av' r cs.toList) :
  ∃ PL', HSat (ctxOf w Z PL []) PL' (hupd (pcan 0 [.to (.row r)]) (canon 0 [])) (fun _ => False) w' ∧ Den PL' w' (Avo (ctxOf w Z PL []) PL' (hupd (pcan 0 [.to (.row r)]) (canon 0 []))) (.wsl 0) (.slice (some ⟨b, 0, none⟩) (rlen r) cap) := by
 rw [Zpz]
 have hP : padd PL 0 ⟨some ⟨b, 0, none⟩, rlen r, cap, r.sz, []⟩ 0 = some ⟨some ⟨b, 0, none⟩, rlen r, cap, r.sz, []⟩ := Zg _ _ _
 have one : ∀ id c, hget [(0, Ck.row r)] id = some c → id = 0 ∧ c = .row r := by
  intro id c h
  simp only [hget] at h
  cases hi : Nat.beq id 0 with
  | true => rw [hi] at h; injection h with h; exact ⟨(nbeq _ _).1 hi, h.symm⟩
  | false => rw [hi] at h; cases h
 refine ⟨padd PL 0 ⟨some ⟨b, 0, none⟩, rlen r, cap, r.sz, []⟩, ⟨?_, ?_, ?_, hB.os, hB.tape, hB.output, hB.size, fun b hb _ => hB.block b hb, HS.zlt, fun _ h => h.elim, fun id hid => absurd hid (Nat.not_lt_zero _)⟩, ?_⟩
 ·intro id c hg
  obtain ⟨rfl, rfl⟩ := one id c hg
  exact Z17 hP rfl rfl h0 rfl hh hc hm hs (hr _ _)
 ·intro i j c d p q b' h1 h2 _ _ _ _
  rw [(one i c h1).1, (one j d h2).1]
 ·rintro b' ⟨id, c, p, h1, h2, h3⟩
  obtain ⟨rfl, rfl⟩ := one id c h1
  rw [hP] at h2
  injection h2 with h2
  subst h2
  injection h3 with h3
  injection h3 with h3
  subst h3
  exact ⟨fun hz => by have : b < w.heap.size := HS.zlt.1 b hz; omega, .inr hb⟩
 exact .wsl 0 _ hP
theorem densA2 {Av : Nat → Prop} {x y : SV} {args : List Value} (h : DensA PL w Av [x, y] args) : ∃ v u, args = [v, u] ∧ Den PL w Av x v ∧ Den PL w Av y u := by
 obtain ⟨h1, h2⟩ := h
 match args, h1 with
 | [v, u], _ => exact ⟨v, u, rfl, h2 0 (by simp) (by simp), h2 1 (by simp) (by simp)⟩
end
theorem Zuf (n : Int) (h0 : 0 < n) (hb : n * 24 ≤ 140737488355328) (w : World) :
  Calls Try.prog 101 #[.slice none 0 0, .int .i64 n] w fun e w' => ∃ (cap : Nat) (cs : Array Value), e = .returned (.slice (some ⟨w.heap.size, 0, none⟩) 0 cap) ∧ w' = w.drew.alloc (.cells cs 75 (0, 0)) ∧ cs.size = cap * 3 ∧ cap ≤ maxLen := by
 obtain ⟨m, rfl⟩ := Int.eq_ofNat_of_zero_le (Int.le_of_lt h0)
 go_enter Try.func101, Try.ntmps101
 have hA : ¬ (281474976710656 < (m : Int) * (Try.t28.bytes : Int)) := by show ¬ (281474976710656 < (m : Int) * 24); omega
 have hm : 0 < m := by omega
 have hB : ¬ (281474976710656 < Builtin.nextslicecap m 0 * Try.t28.bytes) := by rw [nextslicecap_zero hm]; show ¬ (281474976710656 < m * 24); omega
 have hw : IntKind.i64.wrap (m : Int) = (m : Int) := by simp only [IntKind.wrap, IntKind.signed, IntKind.bits]; simp; omega
 have h63 : ¬ (9223372036854775807 < (m : Int)) := by omega
 go_wp2
 go_ret
 have hge := grownCap_ge w m 0 75
 refine ⟨_, rfl, _, rfl, ?_, grownCap_le_maxLen w m 0 75 (by unfold maxLen; omega)⟩
 rw [Array.size_append, size_zeroCells, size_zeroCells]
 show m * 3 + (grownCap w m 0 75 - m) * 3 = grownCap w m 0 75 * 3
 rw [← Nat.add_mul]
 congr 1
 omega
theorem Zrn (w : World) : Calls Try.prog 101 #[.slice none 0 0, .int .i64 0] w fun e w' => e = .returned (.slice none 0 0) ∧ w' = w := by
 go_enter Try.func101, Try.ntmps101
 go_wp2
 go_ret
 exact ⟨rfl, rfl⟩
theorem Zzo : FnOK Try.prog 101 Zi0 := by
 intro cargs ccks ce hce hob Z PL w args HS HD
 replace hce : Zeq cargs ccks = some ce := hce
 unfold Zeq at hce
 split at hce
 ·rename_i x1
  obtain rfl := Option.some.inj hce
  obtain ⟨r, hr⟩ := obl.1 (hob _ (List.mem_singleton.2 rfl))
  rw [lock_eq] at hr
  have hg := hr
  unfold growP at hr
  split at hr
  ·cases hr
  rename_i h0
  obtain ⟨v, u, rfl, d1, d2⟩ := densA2 HD
  cases d1
  cases d2
  split at hr
  ·rename_i h1
   subst h1
   refine (Zrn w).mono ?_
   rintro e w' ⟨rfl, rfl⟩
   refine ⟨_, PL, rfl, r, by rw [lock_eq]; exact hg, ?_⟩
   obtain rfl := Option.some.inj hr
   exact ⟨Zt6 HS (Below.refl _ _), .nsl⟩
  split at hr
  ·rename_i h1 h2
   refine (Zuf x1 (by omega) (by omega) w).mono ?_
   rintro e w' ⟨cap, cs, rfl, rfl, hs, hm⟩
   obtain ⟨PL', H, D⟩ := Zz2 (w' := w.drew.alloc (.cells cs 75 (0, 0))) HS (((Below.refl _ w).drew).alloc (Nat.le_refl _) _) (.row 75 (.st [(.int .u64), (.int .i64), (.int .i64)]) []) w.heap.size cap cs (Nat.le_refl _)
    (Zy4 w.drew _) (by decide) (Nat.zero_le _) hm hs (fun _ _ => RP.nil rfl)
   refine ⟨_, PL', rfl, r, by rw [lock_eq]; exact hg, ?_⟩
   obtain rfl := Option.some.inj hr
   exact ⟨H, D⟩
  cases hr
 cases hce
noncomputable def Zgc : Nat → Option Con := look [(101, Zi0)]
set_option maxHeartbeats 20000000 in
set_option maxRecDepth 100000 in
theorem Zqa (P : Program) (T : Tab P Zgc) (hm : P.follows .mixedOrders = true) : FnVC P Zgc Zlz [.t 2] 36 Za6 := by
 intro cargs ccks ce hce hob C hk
 apply Hidden.out
 replace hce : Zeg cargs ccks = some ce := hce
 unfold Zeg at hce
 split at hce; rotate_left; cases hce
 obtain rfl := Option.some.inj hce
 rename_i r1
 refine obh hob fun r hF => ?_
 clear hob hce
 simp only [List.length_cons, List.length_nil, Nat.zero_add, Nat.reduceAdd] at hk
 have hr : Z2d r1 = some r := by rw [lock_eq] at hF; exact hF
 unfold Z2d at hr
 constructor
 (try cbv)
 refine LoopOK.iter T (drawOK T hm) hr (fun | (i1, i2) => ⟨mkFr [(0, (.rsl (.row 72 (.row 75 (.st [(.int .u64), (.int .i64), (.int .i64)])) r1))), (3, (.v (.int .i64 i1))), (9, (.rsl (.row 72 (.row 75 (.st [(.int .u64), (.int .i64), (.int .i64)])) r1))), (10, (.v (.int .i64 (lock ofN (lock (@xlen D) r1))))), (11, (.v (.int .i64 i2)))] 36 0, [], 0⟩) ?_ ?_
 ·exact cl1df3b
 clear hr
 intro x bb1 hr ht1
 obtain ⟨i1, i2⟩ := x
 as_aux_lemma =>
 constructor
 unfold Z51 at hr
 (try dsimp only at hr)
 (try cbv)
 refine Z2 hr ?_ ?_ <;> intro h1 hr
 ·(try cbv)
  refine Z3 hr fun hr => ?_
  refine Z2 hr ?_ ?_ <;> intro h1 hr
  ·(try cbv)
   cases hr
  (try cbv)
  apply Hidden.out
  exact cl81169
 as_aux_lemma =>
 (try cbv)
 refine cal hr (by rintro (_ | _) _ <;> cbv) ?_
 rintro (_ | _) hx1 hr
 all_goals ((try dsimp only at hr); constructor; (try cbv))
 ·apply Hidden.out
  obtain ⟨t, hr2, hw⟩ := Z16 hr
  clear hr
  subst hw
  have e := (ht1 _ rfl).symm
  subst e
  have hr := hr2
  clear hr2
  constructor
  refine LoopOK.iter T (drawOK T hm) hr (fun | (i3, r2) => ⟨mkFr [(6, (.wsl 0)), (25, (.rsl (.row 72 (.row 75 (.st [(.int .u64), (.int .i64), (.int .i64)])) r1))), (26, (.v (.int .i64 (lock ofN (lock (@xlen D) r1))))), (27, (.v (.int .i64 i3)))] 36 0, [(0, .row (.row 75 (.st [(.int .u64), (.int .i64), (.int .i64)]) r2))], 1⟩) ?_ ?_
  ·exact cl1df3b
  clear hr
  intro x bb1 hr ht1
  obtain ⟨i3, r2⟩ := x
  as_aux_lemma =>
  constructor
  unfold Z2v at hr
  (try dsimp only at hr)
  (try cbv)
  refine Z2 hr ?_ ?_ <;> intro h1 hr
  ·(try cbv)
   refine Z3 hr fun hr => ?_
   refine Z3 hr fun hr => ?_
   apply Hidden.out
   exact cl81169
  (try cbv)
  apply Hidden.out
  exact clb5cb2
 apply Hidden.out
 obtain ⟨t, hr2, hw⟩ := Z16 hr
 clear hr
 subst hw
 have e := (ht1 _ rfl).symm
 subst e
 have hr := hr2
 clear hr2
 constructor
 refine LoopOK.iter T (drawOK T hm) hr (fun | (i4, r3) => ⟨mkFr [(6, (.wsl 0)), (25, (.rsl (.row 72 (.row 75 (.st [(.int .u64), (.int .i64), (.int .i64)])) r1))), (26, (.v (.int .i64 (lock ofN (lock (@xlen D) r1))))), (27, (.v (.int .i64 i4)))] 36 0, [(0, .row (.row 75 (.st [(.int .u64), (.int .i64), (.int .i64)]) r3))], 1⟩) ?_ ?_
 ·exact cl1df3b
 clear hr
 intro x bb1 hr ht1
 obtain ⟨i4, r3⟩ := x
 as_aux_lemma =>
 constructor
 unfold Zeu at hr
 (try dsimp only at hr)
 (try cbv)
 refine Z2 hr ?_ ?_ <;> intro h1 hr
 ·(try cbv)
  refine Z3 hr fun hr => ?_
  refine Z3 hr fun hr => ?_
  apply Hidden.out
  exact cl81169
 (try cbv)
 apply Hidden.out
 exact clb5cb2
noncomputable def Zfn : Nat → Option Con := look [(90, Za6)]
set_option maxHeartbeats 20000000 in
set_option maxRecDepth 100000 in
theorem Zqy (P : Program) (T : Tab P Zfn) (hm : P.follows .mixedOrders = true) : FnVC P Zfn Zhq [.t 4] 44 Zez := by
 intro cargs ccks ce hce hob C hk
 apply Hidden.out
 replace hce : Zed cargs ccks = some ce := hce
 unfold Zed at hce
 split at hce; rotate_left; cases hce
 obtain rfl := Option.some.inj hce
 rename_i r1 r2
 refine obh hob fun r hF => ?_
 clear hob hce
 simp only [List.length_cons, List.length_nil, Nat.zero_add, Nat.reduceAdd] at hk
 have hr : Z4w r1 r2 = some r := by rw [lock_eq] at hF; exact hF
 unfold Z4w at hr
 constructor
 (try cbv)
 refine LoopOK.iter T (drawOK T hm) hr (fun | (r5, r3, r4) => ⟨mkFr [(0, (.rsl (.row 75 (.st [(.int .u64), (.int .i64), (.int .i64)]) r5))), (1, (.rsl (.row 75 (.st [(.int .u64), (.int .i64), (.int .i64)]) r3))), (5, (.wsl 0))] 44 0, [(0, .row (.row 75 (.st [(.int .u64), (.int .i64), (.int .i64)]) r4))], 1⟩) ?_ ?_
 ·exact cl63eab
 clear hr
 intro x bb1 hr ht1
 obtain ⟨r5, r3, r4⟩ := x
 as_aux_lemma =>
 constructor
 unfold Z44 at hr
 (try dsimp only at hr)
 (try cbv)
 refine Z2 hr ?_ ?_ <;> intro h1 hr
 ·(try cbv)
  refine Z2 hr ?_ ?_ <;> intro h1 hr
  ·(try cbv)
   refine Z3 hr fun hr => ?_
   refine Z3 hr fun hr => ?_
   refine Z2 hr ?_ ?_ <;> intro h1 hr
   ·(try cbv)
    refine Z3 hr fun hr => ?_
    refine Z3 hr fun hr => ?_
    refine Z3 hr fun hr => ?_
    apply Hidden.out
    exact cl34131
   (try cbv)
   refine Z3 hr fun hr => ?_
   refine Z3 hr fun hr => ?_
   refine Z3 hr fun hr => ?_
   apply Hidden.out
   exact cl34131
  (try cbv)
  refine cal hr (by rintro (_) _ <;> cbv) ?_
  rintro q1 hx1 hr
  (try dsimp only at hr); constructor; (try cbv)
  apply Hidden.out
  exact clb5cb2
 (try cbv)
 refine cal hr (by rintro (_) _ <;> cbv) ?_
 rintro q2 hx2 hr
 (try dsimp only at hr); constructor; (try cbv)
 apply Hidden.out
 exact clb5cb2
noncomputable def Zft : Nat → Option Con := look [(51, Z7a), (65, Zez)]
set_option maxHeartbeats 20000000 in
set_option maxRecDepth 100000 in
theorem Zq6 (P : Program) (T : Tab P Zft) (hm : P.follows .mixedOrders = true) : FnVC P Zft Zjm [.t 6, .t 7] 145 Zf7 := by
 intro cargs ccks ce hce hob C hk
 apply Hidden.out
 replace hce : Zer cargs ccks = some ce := hce
 unfold Zer at hce
 split at hce; rotate_left; cases hce
 obtain rfl := Option.some.inj hce
 rename_i s1 b1 x1 s2 b2 r1 r2 x2 r3 r4 r5
 refine obh hob fun r hF => ?_
 clear hob hce
 simp only [List.length_cons, List.length_nil, Nat.zero_add, Nat.reduceAdd] at hk
 have hr : Z3k s1 b1 x1 s2 b2 r1 r2 x2 r3 r4 r5 = some r := by rw [lock_eq] at hF; exact hF
 unfold Z3k at hr
 constructor
 (try cbv)
 refine Z9 hr ?_ ?_ <;> intro h1 hr
 ·(try cbv)
  apply Hidden.out
  exact clf1d56
 as_aux_lemma =>
 (try cbv)
 refine Z3 hr fun hr => ?_
 refine Z3 hr fun hr => ?_
 refine LoopOK.iter T (drawOK T hm) hr (fun | (i3, r10, r11) => ⟨mkFr [(3, (.ptr 3 0)), (4, (.ptr 4 0)), (8, (.wsl 5)), (9, (.wsl 6)), (34, (.wsl 2)), (35, (.v (.int .i64 (lock ofN (lock (@xlen D) r5))))), (36, (.v (.int .i64 i3)))] 145 0, [(0, .row (.row 83 (.st [.str, (.int .u64), (.int .u64), (.int .u64), (.int .i64), .bool]) r3)), (1, .row (.row 96 (.st [(.int .i64), (.int .i64), (.int .i64)]) r4)), (2, .row (.row 72 (.row 75 (.st [(.int .u64), (.int .i64), (.int .i64)])) r5)), (3, .blk 33 [(.str s1), (.v (.bool b1)), (.wsl 0), (.wsl 1), (.v (.int .i64 x1))]), (4, .blk 33 [(.str s2), (.v (.bool b2)), (.rsl (.row 83 (.st [.str, (.int .u64), (.int .u64), (.int .u64), (.int .i64), .bool]) r1)), (.rsl (.row 96 (.st [(.int .i64), (.int .i64), (.int .i64)]) r2)), (.v (.int .i64 x2))]), (5, .row (.row 72 (.row 75 (.st [(.int .u64), (.int .i64), (.int .i64)])) r10)), (6, .row (.row 4 .bool r11))], 7⟩) ?_ ?_
 ·exact cl63eab
 clear hr
 intro x bb1 hr ht1
 obtain ⟨i3, r10, r11⟩ := x
 as_aux_lemma =>
 constructor
 unfold Z6c at hr
 (try dsimp only at hr)
 (try cbv)
 refine Z2 hr ?_ ?_ <;> intro h1 hr
 ·as_aux_lemma =>
  (try cbv)
  refine Z3 hr fun hr => ?_
  refine Z3 hr fun hr => ?_
  refine LoopOK.iter T (drawOK T hm) hr (fun | (i6, r16) => ⟨mkFr [(3, (.ptr 3 0)), (4, (.ptr 4 0)), (8, (.wsl 5)), (9, (.wsl 6)), (10, (.v (.int .i64 i3))), (12, (.wsl 7)), (34, (.wsl 2)), (35, (.v (.int .i64 (lock ofN (lock (@xlen D) r5))))), (36, (.v (.int .i64 i3))), (45, (.rsl (.row 75 (.st [(.int .u64), (.int .i64), (.int .i64)]) (lock D.toL (lock getD r5 (lock toN i3)))))), (46, (.v (.int .i64 (lock ofN (lock (@xlen D) (lock D.toL (lock getD r5 (lock toN i3)))))))), (47, (.v (.int .i64 i6)))] 145 0, [(0, .row (.row 83 (.st [.str, (.int .u64), (.int .u64), (.int .u64), (.int .i64), .bool]) r3)), (1, .row (.row 96 (.st [(.int .i64), (.int .i64), (.int .i64)]) r4)), (2, .row (.row 72 (.row 75 (.st [(.int .u64), (.int .i64), (.int .i64)])) r5)), (3, .blk 33 [(.str s1), (.v (.bool b1)), (.wsl 0), (.wsl 1), (.v (.int .i64 x1))]), (4, .blk 33 [(.str s2), (.v (.bool b2)), (.rsl (.row 83 (.st [.str, (.int .u64), (.int .u64), (.int .u64), (.int .i64), .bool]) r1)), (.rsl (.row 96 (.st [(.int .i64), (.int .i64), (.int .i64)]) r2)), (.v (.int .i64 x2))]), (5, .row (.row 72 (.row 75 (.st [(.int .u64), (.int .i64), (.int .i64)])) r10)), (6, .row (.row 4 .bool r11)), (7, .prow 72 tm72 (lock toN (lock ofN (lock (@xlen D) r1))) 8), (8, .gho tm72 r16 none)], 9⟩) ?_ ?_
  ·exact cl1df3b
  clear hr
  intro x bb2 hr ht2
  obtain ⟨i6, r16⟩ := x
  as_aux_lemma =>
  constructor
  unfold Z3d at hr
  (try dsimp only at hr)
  (try cbv)
  refine Z2 hr ?_ ?_ <;> intro h1 hr
  ·(try cbv)
   refine Z3 hr fun hr => ?_
   refine cal hr (by rintro (_) _ <;> cbv) ?_
   rintro y9 hx15 hr
   (try dsimp only at hr); constructor; (try cbv)
   refine Z2 hr ?_ ?_ <;> intro h1 hr
   ·(try cbv)
    refine Z2 hr ?_ ?_ <;> intro h1 hr
    ·(try cbv)
     refine Z3 hr fun hr => ?_
     refine Z3 hr fun hr => ?_
     refine Z3 hr fun hr => ?_
     refine ⟨obl.2 rfl, ?_⟩
     apply Hidden.out
     exact cl81169
    (try cbv)
    apply Hidden.out
    exact cl81169
   (try cbv)
   apply Hidden.out
   exact cl81169
  as_aux_lemma =>
  (try cbv)
  apply Hidden.out
  obtain ⟨t, hr2, hw⟩ := Z16 hr
  clear hr
  subst hw
  have e := (ht2 _ rfl).symm
  subst e
  have hr := hr2
  clear hr2
  constructor
  refine LoopOK.iter T (drawOK T hm) hr (fun | (i7, r17, r18, r19) => ⟨mkFr [(3, (.ptr 3 0)), (4, (.ptr 4 0)), (8, (.wsl 5)), (9, (.wsl 6)), (10, (.v (.int .i64 i3))), (34, (.wsl 2)), (35, (.v (.int .i64 (lock ofN (lock (@xlen D) r5))))), (36, (.v (.int .i64 i3))), (75, (.wsl 7)), (76, (.v (.int .i64 (lock ofN (lock toN (lock ofN (lock (@xlen D) r1))))))), (77, (.v (.int .i64 i7)))] 145 0, [(0, .row (.row 83 (.st [.str, (.int .u64), (.int .u64), (.int .u64), (.int .i64), .bool]) r3)), (1, .row (.row 96 (.st [(.int .i64), (.int .i64), (.int .i64)]) r4)), (2, .row (.row 72 (.row 75 (.st [(.int .u64), (.int .i64), (.int .i64)])) r5)), (3, .blk 33 [(.str s1), (.v (.bool b1)), (.wsl 0), (.wsl 1), (.v (.int .i64 x1))]), (4, .blk 33 [(.str s2), (.v (.bool b2)), (.rsl (.row 83 (.st [.str, (.int .u64), (.int .u64), (.int .u64), (.int .i64), .bool]) r1)), (.rsl (.row 96 (.st [(.int .i64), (.int .i64), (.int .i64)]) r2)), (.v (.int .i64 x2))]), (5, .row (.row 72 (.row 75 (.st [(.int .u64), (.int .i64), (.int .i64)])) r17)), (6, .row (.row 4 .bool r18)), (7, .prow 72 tm72 (lock toN (lock ofN (lock (@xlen D) r1))) 8), (8, .gho tm72 r19 none)], 9⟩) ?_ ?_
  ·exact clf6c1b
  clear hr
  intro x bb2 hr ht2
  obtain ⟨i7, r17, r18, r19⟩ := x
  as_aux_lemma =>
  constructor
  unfold Z1b at hr
  (try dsimp only at hr)
  (try cbv)
  refine Z2 hr ?_ ?_ <;> intro h1 hr
  ·as_aux_lemma =>
   (try cbv)
   refine Z3 hr fun hr => ?_
   refine Z3 hr fun hr => ?_
   refine cal hr (by rintro (_) _ <;> cbv) ?_
   rintro q9 hx18 hr
   (try dsimp only at hr); constructor; (try cbv)
   refine Z3 hr fun hr => ?_
   refine Z3 hr fun hr => ?_
   apply Hidden.out
   rcases Bool.eq_false_or_eq_true (D.toB (getD r18 (toN i7))) with h1 | h1
   ·constructor
    rw [if_pos h1] at hr
    have h2 : (lock D.toB (lock getD r18 (lock toN i7))) = true := by simp only [lock_eq]; exact h1
    simp only [relock, h2]
    (try cbv)
    refine Z3 hr fun hr => ?_
    apply Hidden.out
    exact cle9b97
   constructor
   rw [if_neg (by rw [h1]; exact Bool.false_ne_true)] at hr
   have h2 : (lock D.toB (lock getD r18 (lock toN i7))) = false := by simp only [lock_eq]; exact h1
   simp only [relock, h2]
   (try cbv)
   apply Hidden.out
   rcases Bool.eq_false_or_eq_true (ilt (0 : Int) (ofN (xlen (D.toL (getD r19 (toN i7)))))) with h1 | h1
   ·constructor
    rw [if_pos h1] at hr
    have h2 : (lock ilt (0 : Int) (lock ofN (lock (@xlen D) (lock D.toL (lock getD r19 (lock toN i7)))))) = true := by simp only [lock_eq]; exact h1
    simp only [relock, h2]
    (try cbv)
    refine Z3 hr fun hr => ?_
    refine Z3 hr fun hr => ?_
    refine Z3 hr fun hr => ?_
    apply Hidden.out
    exact cle9b97
   constructor
   rw [if_neg (by rw [h1]; exact Bool.false_ne_true)] at hr
   have h2 : (lock ilt (0 : Int) (lock ofN (lock (@xlen D) (lock D.toL (lock getD r19 (lock toN i7)))))) = false := by simp only [lock_eq]; exact h1
   simp only [relock, h2]
   (try cbv)
   refine Z3 hr fun hr => ?_
   apply Hidden.out
   exact cle9b97
  (try cbv)
  apply Hidden.out
  exact clefba8
 as_aux_lemma =>
 (try cbv)
 apply Hidden.out
 obtain ⟨t, hr2, hw⟩ := Z16 hr
 clear hr
 subst hw
 have e := (ht1 _ rfl).symm
 subst e
 have hr := hr2
 clear hr2
 constructor
 refine LoopOK.iter T (drawOK T hm) hr (fun | i8 => ⟨mkFr [(4, (.ptr 3 0)), (8, (.wsl 4)), (120, (.wsl 5)), (121, (.v (.int .i64 (lock ofN (lock (@xlen D) r11))))), (122, (.v (.int .i64 i8)))] 145 0, [(0, .row (.row 83 (.st [.str, (.int .u64), (.int .u64), (.int .u64), (.int .i64), .bool]) r3)), (1, .row (.row 96 (.st [(.int .i64), (.int .i64), (.int .i64)]) r4)), (2, .row (.row 72 (.row 75 (.st [(.int .u64), (.int .i64), (.int .i64)])) r5)), (3, .blk 33 [(.str s2), (.v (.bool b2)), (.rsl (.row 83 (.st [.str, (.int .u64), (.int .u64), (.int .u64), (.int .i64), .bool]) r1)), (.rsl (.row 96 (.st [(.int .i64), (.int .i64), (.int .i64)]) r2)), (.v (.int .i64 x2))]), (4, .row (.row 72 (.row 75 (.st [(.int .u64), (.int .i64), (.int .i64)])) r10)), (5, .row (.row 4 .bool r11))], 6⟩) ?_ ?_
 ·exact cl2ec4c
 clear hr
 intro x bb1 hr ht1
 obtain ⟨i8, hz⟩ : ∃ z, z = x := ⟨x, rfl⟩
 subst hz
 as_aux_lemma =>
 constructor
 unfold Z5n at hr
 (try dsimp only at hr)
 (try cbv)
 refine Z2 hr ?_ ?_ <;> intro h1 hr
 ·(try cbv)
  refine Z3 hr fun hr => ?_
  apply Hidden.out
  rcases Bool.eq_false_or_eq_true (D.toB (getD r11 (toN i8))) with h1 | h1
  ·constructor
   rw [if_pos h1] at hr
   have h2 : (lock D.toB (lock getD r11 (lock toN i8))) = true := by simp only [lock_eq]; exact h1
   simp only [relock, h2]
   (try cbv)
   refine Z3 hr fun hr => ?_
   refine Z3 hr fun hr => ?_
   refine Z2 hr ?_ ?_ <;> intro h1 hr
   ·(try cbv)
    apply Hidden.out
    exact cl1c5c3
   (try cbv)
   apply Hidden.out
   exact clba30f
  constructor
  rw [if_neg (by rw [h1]; exact Bool.false_ne_true)] at hr
  have h2 : (lock D.toB (lock getD r11 (lock toN i8))) = false := by simp only [lock_eq]; exact h1
  simp only [relock, h2]
  (try cbv)
  apply Hidden.out
  exact clba30f
 (try cbv)
 apply Hidden.out
 exact cl1c5c3
noncomputable def Zav : Nat → Option Con := look []
set_option maxHeartbeats 20000000 in
set_option maxRecDepth 100000 in
theorem Zrs (P : Program) (T : Tab P Zav) (hm : P.follows .mixedOrders = true) : FnVC P Zav Zjr [.c 6 3 true] 14 Zae := by
 intro cargs ccks ce hce hob C hk
 apply Hidden.out
 replace hce : Zcr cargs ccks = some ce := hce
 unfold Zcr at hce
 split at hce; rotate_left; cases hce
 obtain rfl := Option.some.inj hce
 rename_i x1 x2 x3 x4 x5
 refine obh hob fun r hF => ?_
 clear hob hce
 simp only [List.length_cons, List.length_nil, Nat.zero_add, Nat.reduceAdd] at hk
 have hr : Z2l x1 x2 x3 x4 x5 = some r := by rw [lock_eq] at hF; exact hF
 unfold Z2l at hr
 constructor
 (try cbv)
 apply Hidden.out
 exact clacd82
noncomputable def Zfr : Nat → Option Con := look [(67, Z83)]
set_option maxHeartbeats 20000000 in
set_option maxRecDepth 100000 in
theorem Zrl (P : Program) (T : Tab P Zfr) (hm : P.follows .mixedOrders = true) : FnVC P Zfr Zlt [] 28 Z8f := by
 intro cargs ccks ce hce hob C hk
 apply Hidden.out
 replace hce : Zcm cargs ccks = some ce := hce
 unfold Zcm at hce
 split at hce; rotate_left; cases hce
 obtain rfl := Option.some.inj hce
 rename_i r1 x1 x2 x3 r2
 refine obh hob fun r hF => ?_
 clear hob hce
 simp only [List.length_cons, List.length_nil, Nat.zero_add, Nat.reduceAdd] at hk
 have hr : Z1d r1 x1 x2 x3 r2 = some r := by rw [lock_eq] at hF; exact hF
 unfold Z1d at hr
 constructor
 (try cbv)
 refine LoopOK.iter T (drawOK T hm) hr (fun | (i1, i2, i3, r3) => ⟨mkFr [(0, (.ptr 0 0)), (18, (.rsl (.row 75 (.st [(.int .u64), (.int .i64), (.int .i64)]) r1))), (19, (.v (.int .i64 (lock ofN (lock (@xlen D) r1))))), (20, (.v (.int .i64 i1)))] 28 0, [(0, .blk 144 [(.v (.int .i64 x1)), (.wsl 2), (.v (.int .i64 i2)), (.v (.int .i64 i3))]), (2, .row (.row 75 (.st [(.int .u64), (.int .i64), (.int .i64)]) r3))], 3⟩) ?_ ?_
 ·exact clf6c1b
 clear hr
 intro x bb1 hr ht1
 obtain ⟨i1, i2, i3, r3⟩ := x
 as_aux_lemma =>
 constructor
 unfold Z6g at hr
 (try dsimp only at hr)
 (try cbv)
 refine Z2 hr ?_ ?_ <;> intro h1 hr
 ·(try cbv)
  refine Z3 hr fun hr => ?_
  refine cal hr (by rintro (⟨_, _, _⟩) _ <;> cbv) ?_
  rintro ⟨y7, y8, q4⟩ hx4 hr
  (try dsimp only at hr); constructor; (try cbv)
  apply Hidden.out
  exact cle9b97
 (try cbv)
 apply Hidden.out
 exact clbdc41
noncomputable def Zdi : Nat → Option Con := look [(13, Z50), (34, Zc7), (36, Z7g), (35, Zf7), (31, Z77), (37, Zae), (38, Z8f)]
set_option maxHeartbeats 20000000 in
set_option maxRecDepth 100000 in
theorem Zvi (P : Program) (T : Tab P Zdi) (hm : P.follows .mixedOrders = true) : FnVC P Zdi Zla [.t 6] 118 Z6x := by
 intro cargs ccks ce hce hob C hk
 apply Hidden.out
 replace hce : altC (Zf3 cargs ccks) (Zff cargs ccks) = some ce := hce
 replace hce := Zn hce
 rcases hce with hce | hce
 ·unfold Zf3 at hce
  split at hce; rotate_left; cases hce; rename_i s1 b1 x1 b2
  split at hce; rotate_left; cases hce
  split at hce; rotate_left; cases hce; rename_i s2 b3 x2 x3
  split at hce; rotate_left; cases hce; rename_i r1
  split at hce; rotate_left; cases hce; rename_i r2
  split at hce; rotate_left; cases hce; rename_i r3
  split at hce; rotate_left; cases hce; rename_i w1 n1
  split at hce; rotate_left; cases hce; rename_i x4 b4
  split at hce; rotate_left; cases hce; rename_i w2 r4
  split at hce; rotate_left; cases hce; rename_i l1
  split at hce; rotate_left; cases hce; rename_i l2
  split at hce
  ·cases hce
  obtain rfl := Option.some.inj hce
  rename_i _ htm
  simp only [Bool.and_eq_true] at htm
  obtain ⟨h1, h2⟩ := htm
  obtain rfl := Zd _ _ h1
  obtain rfl := Zd _ _ h2
  clear h1 h2
  refine obh hob fun r hF => ?_
  clear hob hce
  simp only [List.length_cons, List.length_nil, Nat.zero_add, Nat.reduceAdd] at hk
  have hr : Z5k s1 b1 x1 b2 s2 b3 x2 x3 r1 r2 r3 n1 x4 b4 r4 l1 l2 = some r := by rw [lock_eq] at hF; exact hF
  unfold Z5k at hr
  constructor
  (try cbv)
  refine cal hr (by rintro (_) _ <;> cbv) ?_
  rintro c1 hx1 hr
  (try dsimp only at hr); constructor; (try cbv)
  refine Z9 hr ?_ ?_ <;> intro h1 hr
  ·(try cbv)
   apply Hidden.out
   exact clacd82
  (try cbv)
  refine cald hr (by rintro (_) _ <;> cbv) ?_
  rintro c2 hx2 hr
  (try dsimp only at hr); constructor; (try cbv)
  refine Z2 hr ?_ ?_ <;> intro h1 hr
  ·(try cbv)
   apply Hidden.out
   exact clacd82
  (try cbv)
  cases hr
 unfold Zff at hce
 split at hce; rotate_left; cases hce; rename_i s1 b1 r1 r2 x1 b2
 split at hce; rotate_left; cases hce
 split at hce; rotate_left; cases hce; rename_i s2 b3 x2 x3
 split at hce; rotate_left; cases hce; rename_i r3
 split at hce; rotate_left; cases hce; rename_i r4
 split at hce; rotate_left; cases hce; rename_i w1 n1
 split at hce; rotate_left; cases hce; rename_i x4 b4
 split at hce; rotate_left; cases hce; rename_i w2 r5
 split at hce; rotate_left; cases hce; rename_i l1
 split at hce; rotate_left; cases hce; rename_i l2
 split at hce
 ·cases hce
 obtain rfl := Option.some.inj hce
 rename_i _ htm
 simp only [Bool.and_eq_true] at htm
 obtain ⟨h1, h2⟩ := htm
 obtain rfl := Zd _ _ h1
 obtain rfl := Zd _ _ h2
 clear h1 h2
 refine obh hob fun r hF => ?_
 clear hob hce
 simp only [List.length_cons, List.length_nil, Nat.zero_add, Nat.reduceAdd] at hk
 have hr : Zj s1 b1 r1 r2 x1 b2 s2 b3 x2 x3 r3 r4 n1 x4 b4 r5 l1 l2 = some r := by rw [lock_eq] at hF; exact hF
 unfold Zj at hr
 constructor
 (try cbv)
 refine cal hr (by rintro (_) _ <;> cbv) ?_
 rintro c1 hx1 hr
 (try dsimp only at hr); constructor; (try cbv)
 refine Z9 hr ?_ ?_ <;> intro h1 hr
 ·(try cbv)
  apply Hidden.out
  exact cl62e3a
 as_aux_lemma =>
 (try cbv)
 refine cald hr (by rintro (_) _ <;> cbv) ?_
 rintro c2 hx2 hr
 (try dsimp only at hr); constructor; (try cbv)
 refine Z2 hr ?_ ?_ <;> intro h1 hr
 ·(try cbv)
  apply Hidden.out
  exact cl62e3a
 as_aux_lemma =>
 (try cbv)
 refine cald hr (by rintro (⟨_, _⟩) _ <;> cbv) ?_
 rintro ⟨q1, q2⟩ hx3 hr
 (try dsimp only at hr); constructor; (try cbv)
 refine cald hr (by rintro (⟨_, _⟩) _ <;> cbv) ?_
 rintro ⟨c3, q3⟩ hx4 hr
 (try dsimp only at hr); constructor; (try cbv)
 refine Z9 hr ?_ ?_ <;> intro h1 hr
 ·as_aux_lemma =>
  (try cbv)
  refine Z9 hr ?_ ?_ <;> intro h1 hr
  ·(try cbv)
   apply Hidden.out
   exact cl62e3a
  as_aux_lemma =>
  (try cbv)
  refine LoopOK.iter T (drawOK T hm) hr (fun | (i1, r6, r7) => ⟨mkFr [(0, (.ptr 0 0)), (4, (.ptr 8 0)), (7, (.wsl 9)), (9, (.mpv 10)), (52, (.wsl 3)), (53, (.v (.int .i64 (lock ofN n1)))), (54, (.v (.int .i64 i1)))] 118 0, [(0, .blk 92 [(.str s2), (.v (.bool b3)), (.wsl 1), (.wsl 2), (.v (.int .i64 x2)), (.v (.int .u64 x3)), (.wsl 3), (.ptr 4 0)]), (1, .row (.row 83 (.st [.str, (.int .u64), (.int .u64), (.int .u64), (.int .i64), .bool]) r3)), (2, .row (.row 96 (.st [(.int .i64), (.int .i64), (.int .i64)]) r4)), (3, .prow 98 tm98 n1 11), (4, .blk 169 [(.wsl 6), (.v (.int .i64 x4)), (.v (.bool b4)), (.wsl 7)]), (6, .row (.ints 46 .u64 l1)), (7, .row (.ints 46 .u64 l2)), (8, .blk 33 [(.str s1), (.v (.bool b1)), (.rsl (.row 83 (.st [.str, (.int .u64), (.int .u64), (.int .u64), (.int .i64), .bool]) r1)), (.rsl (.row 96 (.st [(.int .i64), (.int .i64), (.int .i64)]) r2)), (.v (.int .i64 x1))]), (9, .row (.row 72 (.row 75 (.st [(.int .u64), (.int .i64), (.int .i64)])) q3)), (10, .mp (.st [(.int .u64), (.int .u64), (.int .u64)]) r6), (11, .gho tm98 r7 none)], 12⟩) ?_ ?_
  ·exact cl63eab
  clear hr
  intro x bb1 hr ht1
  obtain ⟨i1, r6, r7⟩ := x
  as_aux_lemma =>
  constructor
  unfold Z3p at hr
  (try dsimp only at hr)
  (try cbv)
  refine Z2 hr ?_ ?_ <;> intro h1 hr
  ·(try cbv)
   refine Z3 hr fun hr => ?_
   apply Hidden.out
   exact cl34131
  as_aux_lemma =>
  (try cbv)
  refine cal hr (by rintro (⟨_, _, _, _, _, _⟩) _ <;> cbv) ?_
  rintro ⟨q4, q5, k1, q6, m1, m2⟩ hx5 hr
  (try dsimp only at hr); constructor; (try cbv)
  apply Hidden.out
  obtain ⟨t, hr2, hw⟩ := Z16 hr
  clear hr
  subst hw
  have e := (ht1 _ rfl).symm
  subst e
  have hr := hr2
  clear hr2
  constructor
  refine LoopOK.iter T (drawOK T hm) hr (fun | (i2, r8) => ⟨mkFr [(7, (.wsl 8)), (9, (.mpv 9)), (75, (.wsl 10)), (76, (.v (.int .i64 (lock ofN k1)))), (77, (.v (.int .i64 i2)))] 118 0, [(0, .blk 92 [(.str s1), (.v (.bool b1)), (.wsl 11), (.wsl 12), (.v (.int .i64 x1)), (.v (.int .u64 x3)), (.wsl 10), (.ptr 13 0)]), (1, .row (.row 83 (.st [.str, (.int .u64), (.int .u64), (.int .u64), (.int .i64), .bool]) r3)), (2, .row (.row 96 (.st [(.int .i64), (.int .i64), (.int .i64)]) r4)), (3, .prow 98 tm98 n1 14), (4, .blk 169 [(.wsl 6), (.v (.int .i64 x4)), (.v (.bool b4)), (.wsl 7)]), (6, .row (.ints 46 .u64 l1)), (7, .row (.ints 46 .u64 l2)), (8, .row (.row 72 (.row 75 (.st [(.int .u64), (.int .i64), (.int .i64)])) q3)), (9, .mp (.st [(.int .u64), (.int .u64), (.int .u64)]) r6), (10, .prow 98 tm98 k1 15), (11, .row (.row 83 (.st [.str, (.int .u64), (.int .u64), (.int .u64), (.int .i64), .bool]) q4)), (12, .row (.row 96 (.st [(.int .i64), (.int .i64), (.int .i64)]) q5)), (13, .blk 169 [(.wsl 16), (.v (.int .i64 (0 : Int))), (.v (.bool false)), (.wsl 17)]), (14, .gho tm98 r7 none), (15, .gho tm98 r8 none), (16, .row (.ints 46 .u64 m1)), (17, .row (.ints 46 .u64 m2))], 18⟩) ?_ ?_
  ·exact cl1df3b
  clear hr
  intro x bb1 hr ht1
  obtain ⟨i2, r8⟩ := x
  as_aux_lemma =>
  constructor
  unfold Z21 at hr
  (try dsimp only at hr)
  (try cbv)
  refine Z2 hr ?_ ?_ <;> intro h1 hr
  ·(try cbv)
   refine Z3 hr fun hr => ?_
   refine Z2 hr ?_ ?_ <;> intro h1 hr
   ·(try cbv)
    refine cald hr (by rintro (_) _ <;> cbv) ?_
    rintro y11 hx12 hr
    (try dsimp only at hr); constructor; (try cbv)
    refine Z3 hr fun hr => ?_
    refine cald hr (by rintro (⟨_, _, _⟩) _ <;> cbv) ?_
    rintro ⟨y12, y13, q11⟩ hx13 hr
    (try dsimp only at hr); constructor; (try cbv)
    apply Hidden.out
    exact cl81169
   (try cbv)
   refine Z3 hr fun hr => ?_
   refine cald hr (by rintro (⟨_, _, _⟩) _ <;> cbv) ?_
   rintro ⟨y14, y15, q12⟩ hx14 hr
   (try dsimp only at hr); constructor; (try cbv)
   apply Hidden.out
   exact cl81169
  (try cbv)
  apply Hidden.out
  exact clfaf68
 as_aux_lemma =>
 (try cbv)
 refine LoopOK.iter T (drawOK T hm) hr (fun | (i3, r9, r10) => ⟨mkFr [(0, (.ptr 0 0)), (4, (.ptr 8 0)), (7, (.wsl 9)), (9, (.mpv 10)), (52, (.wsl 3)), (53, (.v (.int .i64 (lock ofN n1)))), (54, (.v (.int .i64 i3)))] 118 0, [(0, .blk 92 [(.str s2), (.v (.bool b3)), (.wsl 1), (.wsl 2), (.v (.int .i64 x2)), (.v (.int .u64 x3)), (.wsl 3), (.ptr 4 0)]), (1, .row (.row 83 (.st [.str, (.int .u64), (.int .u64), (.int .u64), (.int .i64), .bool]) r3)), (2, .row (.row 96 (.st [(.int .i64), (.int .i64), (.int .i64)]) r4)), (3, .prow 98 tm98 n1 11), (4, .blk 169 [(.wsl 6), (.v (.int .i64 x4)), (.v (.bool b4)), (.wsl 7)]), (6, .row (.ints 46 .u64 l1)), (7, .row (.ints 46 .u64 l2)), (8, .blk 33 [(.str s1), (.v (.bool b1)), (.rsl (.row 83 (.st [.str, (.int .u64), (.int .u64), (.int .u64), (.int .i64), .bool]) r1)), (.rsl (.row 96 (.st [(.int .i64), (.int .i64), (.int .i64)]) r2)), (.v (.int .i64 x1))]), (9, .row (.row 72 (.row 75 (.st [(.int .u64), (.int .i64), (.int .i64)])) q3)), (10, .mp (.st [(.int .u64), (.int .u64), (.int .u64)]) r9), (11, .gho tm98 r10 none)], 12⟩) ?_ ?_
 ·exact cl63eab
 clear hr
 intro x bb1 hr ht1
 obtain ⟨i3, r9, r10⟩ := x
 as_aux_lemma =>
 constructor
 unfold Zcp at hr
 (try dsimp only at hr)
 (try cbv)
 refine Z2 hr ?_ ?_ <;> intro h1 hr
 ·(try cbv)
  refine Z3 hr fun hr => ?_
  apply Hidden.out
  exact cl34131
 as_aux_lemma =>
 (try cbv)
 refine cal hr (by rintro (⟨_, _, _, _, _, _⟩) _ <;> cbv) ?_
 rintro ⟨q13, q14, k2, q15, m3, m4⟩ hx15 hr
 (try dsimp only at hr); constructor; (try cbv)
 apply Hidden.out
 obtain ⟨t, hr2, hw⟩ := Z16 hr
 clear hr
 subst hw
 have e := (ht1 _ rfl).symm
 subst e
 have hr := hr2
 clear hr2
 constructor
 refine LoopOK.iter T (drawOK T hm) hr (fun | (i4, r11) => ⟨mkFr [(7, (.wsl 8)), (9, (.mpv 9)), (75, (.wsl 10)), (76, (.v (.int .i64 (lock ofN k2)))), (77, (.v (.int .i64 i4)))] 118 0, [(0, .blk 92 [(.str s1), (.v (.bool b1)), (.wsl 11), (.wsl 12), (.v (.int .i64 x1)), (.v (.int .u64 x3)), (.wsl 10), (.ptr 13 0)]), (1, .row (.row 83 (.st [.str, (.int .u64), (.int .u64), (.int .u64), (.int .i64), .bool]) r3)), (2, .row (.row 96 (.st [(.int .i64), (.int .i64), (.int .i64)]) r4)), (3, .prow 98 tm98 n1 14), (4, .blk 169 [(.wsl 6), (.v (.int .i64 x4)), (.v (.bool b4)), (.wsl 7)]), (6, .row (.ints 46 .u64 l1)), (7, .row (.ints 46 .u64 l2)), (8, .row (.row 72 (.row 75 (.st [(.int .u64), (.int .i64), (.int .i64)])) q3)), (9, .mp (.st [(.int .u64), (.int .u64), (.int .u64)]) r9), (10, .prow 98 tm98 k2 15), (11, .row (.row 83 (.st [.str, (.int .u64), (.int .u64), (.int .u64), (.int .i64), .bool]) q13)), (12, .row (.row 96 (.st [(.int .i64), (.int .i64), (.int .i64)]) q14)), (13, .blk 169 [(.wsl 16), (.v (.int .i64 (0 : Int))), (.v (.bool false)), (.wsl 17)]), (14, .gho tm98 r10 none), (15, .gho tm98 r11 none), (16, .row (.ints 46 .u64 m3)), (17, .row (.ints 46 .u64 m4))], 18⟩) ?_ ?_
 ·exact cl1df3b
 clear hr
 intro x bb1 hr ht1
 obtain ⟨i4, r11⟩ := x
 as_aux_lemma =>
 constructor
 unfold Zhh at hr
 (try dsimp only at hr)
 (try cbv)
 refine Z2 hr ?_ ?_ <;> intro h1 hr
 ·(try cbv)
  refine Z3 hr fun hr => ?_
  refine Z2 hr ?_ ?_ <;> intro h1 hr
  ·(try cbv)
   refine cald hr (by rintro (_) _ <;> cbv) ?_
   rintro y26 hx22 hr
   (try dsimp only at hr); constructor; (try cbv)
   refine Z3 hr fun hr => ?_
   refine cald hr (by rintro (⟨_, _, _⟩) _ <;> cbv) ?_
   rintro ⟨y27, y28, q20⟩ hx23 hr
   (try dsimp only at hr); constructor; (try cbv)
   apply Hidden.out
   exact cl81169
  (try cbv)
  refine Z3 hr fun hr => ?_
  refine cald hr (by rintro (⟨_, _, _⟩) _ <;> cbv) ?_
  rintro ⟨y29, y30, q21⟩ hx24 hr
  (try dsimp only at hr); constructor; (try cbv)
  apply Hidden.out
  exact cl81169
 (try cbv)
 apply Hidden.out
 exact clfaf68
noncomputable def Zcf : Nat → Option Con := look [(50, Z74)]
set_option maxHeartbeats 20000000 in
set_option maxRecDepth 100000 in
theorem Zwy (P : Program) (T : Tab P Zcf) (hm : P.follows .mixedOrders = true) : FnVC P Zcf Zh8 [.c 2 5 true] 11 Z8e := by
 intro cargs ccks ce hce hob C hk
 apply Hidden.out
 replace hce : Za9 cargs ccks = some ce := hce
 unfold Za9 at hce
 split at hce; rotate_left; cases hce
 split at hce; rotate_left; cases hce
 split at hce; rotate_left; cases hce; rename_i s1 b1 x1 x2
 split at hce; rotate_left; cases hce; rename_i r1
 split at hce; rotate_left; cases hce; rename_i r2
 split at hce; rotate_left; cases hce; rename_i w1 n1
 split at hce; rotate_left; cases hce; rename_i x3 b2
 split at hce; rotate_left; cases hce; rename_i w2 r3
 split at hce; rotate_left; cases hce; rename_i l1
 split at hce; rotate_left; cases hce; rename_i l2
 split at hce
 ·cases hce
 obtain rfl := Option.some.inj hce
 rename_i _ htm
 simp only [Bool.and_eq_true] at htm
 obtain ⟨h1, h2⟩ := htm
 obtain rfl := Zd _ _ h1
 obtain rfl := Zd _ _ h2
 clear h1 h2
 refine obh hob fun r hF => ?_
 clear hob hce
 simp only [List.length_cons, List.length_nil, Nat.zero_add, Nat.reduceAdd] at hk
 have hr : Z12 s1 b1 x1 x2 r1 r2 n1 x3 b2 r3 l1 l2 = some r := by rw [lock_eq] at hF; exact hF
 unfold Z12 at hr
 constructor
 (try cbv)
 refine cal hr (by rintro (⟨_, _⟩) _ <;> cbv) ?_
 rintro ⟨q1, q2⟩ hx1 hr
 (try dsimp only at hr); constructor; (try cbv)
 apply Hidden.out
 exact clf1d56
noncomputable def Ze4 : Nat → Option Con := look []
set_option maxHeartbeats 20000000 in
set_option maxRecDepth 100000 in
theorem Zw8 (P : Program) (T : Tab P Ze4) (hm : P.follows .mixedOrders = true) : FnVC P Ze4 Zjz [.t 4] 48 Zcb := by
 intro cargs ccks ce hce hob C hk
 apply Hidden.out
 replace hce : altC (Z97 cargs ccks) (Ze0 cargs ccks) = some ce := hce
 replace hce := Zn hce
 rcases hce with hce | hce
 ·unfold Z97 at hce
  split at hce; rotate_left; cases hce
  obtain rfl := Option.some.inj hce
  rename_i x1 x2 b1 r1
  refine obh hob fun r hF => ?_
  clear hob hce
  simp only [List.length_cons, List.length_nil, Nat.zero_add, Nat.reduceAdd] at hk
  have hr : Z5o x1 x2 b1 r1 = some r := by rw [lock_eq] at hF; exact hF
  unfold Z5o at hr
  constructor
  (try cbv)
  refine LoopOK.iter T (drawOK T hm) hr (fun | (i1, i2) => ⟨mkFr [(2, (.ptr 0 0)), (5, (.v (.int .u64 i1))), (8, (.rsl (.row 75 (.st [(.int .u64), (.int .i64), (.int .i64)]) r1))), (9, (.v (.int .i64 (lock ofN (lock (@xlen D) r1))))), (10, (.v (.int .i64 i2)))] 48 0, [(0, .blk 67 [(.v (.int .u64 x1)), .nsl, (.v (.int .i64 x2)), (.v (.bool b1)), .nsl, .nsl])], 1⟩) ?_ ?_
  ·exact cl1df3b
  clear hr
  intro x bb1 hr ht1
  obtain ⟨i1, i2⟩ := x
  as_aux_lemma =>
  constructor
  unfold Zp3 at hr
  (try dsimp only at hr)
  (try cbv)
  refine Z2 hr ?_ ?_ <;> intro h1 hr
  ·as_aux_lemma =>
   (try cbv)
   refine Z3 hr fun hr => ?_
   refine Z2 hr ?_ ?_ <;> intro h1 hr
   ·(try cbv)
    apply Hidden.out
    exact clb5cb2
   (try cbv)
   refine Z2 hr ?_ ?_ <;> intro h1 hr
   ·(try cbv)
    apply Hidden.out
    exact clb5cb2
   (try cbv)
   refine Z2 hr ?_ ?_ <;> intro h1 hr
   ·(try cbv)
    apply Hidden.out
    exact clb5cb2
   (try cbv)
   refine Z2 hr ?_ ?_ <;> intro h1 hr
   ·(try cbv)
    apply Hidden.out
    exact clb5cb2
   (try cbv)
   refine Z2 hr ?_ ?_ <;> intro h1 hr
   ·(try cbv)
    apply Hidden.out
    exact clb5cb2
   (try cbv)
   refine Z2 hr ?_ ?_ <;> intro h1 hr
   ·(try cbv)
    apply Hidden.out
    exact clb5cb2
   (try cbv)
   apply Hidden.out
   exact cl81169
  (try cbv)
  apply Hidden.out
  exact clb5cb2
 unfold Ze0 at hce
 split at hce; rotate_left; cases hce
 obtain rfl := Option.some.inj hce
 rename_i x1 l1 x2 b1 l2 r1 r2
 refine obh hob fun r hF => ?_
 clear hob hce
 simp only [List.length_cons, List.length_nil, Nat.zero_add, Nat.reduceAdd] at hk
 have hr : Z5j x1 l1 x2 b1 l2 r1 r2 = some r := by rw [lock_eq] at hF; exact hF
 unfold Z5j at hr
 constructor
 (try cbv)
 refine LoopOK.iter T (drawOK T hm) hr (fun | (i1, i2) => ⟨mkFr [(2, (.ptr 0 0)), (5, (.v (.int .u64 i1))), (8, (.rsl (.row 75 (.st [(.int .u64), (.int .i64), (.int .i64)]) r2))), (9, (.v (.int .i64 (lock ofN (lock (@xlen D) r2))))), (10, (.v (.int .i64 i2)))] 48 0, [(0, .blk 67 [(.v (.int .u64 x1)), (.rsl (.ints 46 .u64 l1)), (.v (.int .i64 x2)), (.v (.bool b1)), (.rsl (.ints 46 .u64 l2)), (.rsl (.row 72 (.row 75 (.st [(.int .u64), (.int .i64), (.int .i64)])) r1))])], 1⟩) ?_ ?_
 ·exact cl1df3b
 clear hr
 intro x bb1 hr ht1
 obtain ⟨i1, i2⟩ := x
 as_aux_lemma =>
 constructor
 unfold Z2s at hr
 (try dsimp only at hr)
 (try cbv)
 refine Z2 hr ?_ ?_ <;> intro h1 hr
 ·as_aux_lemma =>
  (try cbv)
  refine Z3 hr fun hr => ?_
  refine Z2 hr ?_ ?_ <;> intro h1 hr
  ·(try cbv)
   apply Hidden.out
   exact clb5cb2
  (try cbv)
  refine Z2 hr ?_ ?_ <;> intro h1 hr
  ·(try cbv)
   apply Hidden.out
   exact clb5cb2
  (try cbv)
  refine Z2 hr ?_ ?_ <;> intro h1 hr
  ·(try cbv)
   apply Hidden.out
   exact clb5cb2
  (try cbv)
  refine Z2 hr ?_ ?_ <;> intro h1 hr
  ·(try cbv)
   apply Hidden.out
   exact clb5cb2
  (try cbv)
  refine Z2 hr ?_ ?_ <;> intro h1 hr
  ·(try cbv)
   apply Hidden.out
   exact clb5cb2
  (try cbv)
  refine Z2 hr ?_ ?_ <;> intro h1 hr
  ·(try cbv)
   apply Hidden.out
   exact clb5cb2
  (try cbv)
  apply Hidden.out
  exact cl81169
 (try cbv)
 apply Hidden.out
 exact clb5cb2
noncomputable def Zge : Nat → Option Con := look [(88, Zcb)]
set_option maxHeartbeats 20000000 in
set_option maxRecDepth 100000 in
theorem Zpk (P : Program) (T : Tab P Zge) (hm : P.follows .mixedOrders = true) : FnVC P Zge Zlg [.t 3] 8 Zb1 := by
 intro cargs ccks ce hce hob C hk
 apply Hidden.out
 replace hce : altC (Z8s cargs ccks) (Zag cargs ccks) = some ce := hce
 replace hce := Zn hce
 rcases hce with hce | hce
 ·unfold Z8s at hce
  split at hce; rotate_left; cases hce
  obtain rfl := Option.some.inj hce
  rename_i r1 x1 x2 b1
  refine obh hob fun r hF => ?_
  clear hob hce
  simp only [List.length_cons, List.length_nil, Nat.zero_add, Nat.reduceAdd] at hk
  have hr : Z6e r1 x1 x2 b1 = some r := by rw [lock_eq] at hF; exact hF
  unfold Z6e at hr
  constructor
  (try cbv)
  refine cal hr (by rintro (_) _ <;> cbv) ?_
  rintro c1 hx1 hr
  (try dsimp only at hr); constructor; (try cbv)
  apply Hidden.out
  exact clacd82
 unfold Zag at hce
 split at hce; rotate_left; cases hce
 obtain rfl := Option.some.inj hce
 rename_i r1 x1 l1 x2 b1 l2 r2
 refine obh hob fun r hF => ?_
 clear hob hce
 simp only [List.length_cons, List.length_nil, Nat.zero_add, Nat.reduceAdd] at hk
 have hr : Z3v r1 x1 l1 x2 b1 l2 r2 = some r := by rw [lock_eq] at hF; exact hF
 unfold Z3v at hr
 constructor
 (try cbv)
 refine cal hr (by rintro (_) _ <;> cbv) ?_
 rintro c1 hx1 hr
 (try dsimp only at hr); constructor; (try cbv)
 apply Hidden.out
 exact clacd82
noncomputable def Zfz : Nat → Option Con := look [(87, Zb1)]
set_option maxHeartbeats 20000000 in
set_option maxRecDepth 100000 in
theorem Zpm (P : Program) (T : Tab P Zfz) (hm : P.follows .mixedOrders = true) : FnVC P Zfz Ziv [.t 4] 19 Zac := by
 intro cargs ccks ce hce hob C hk
 apply Hidden.out
 replace hce : altC (Z8n cargs ccks) (Zey cargs ccks) = some ce := hce
 replace hce := Zn hce
 rcases hce with hce | hce
 ·unfold Z8n at hce
  split at hce; rotate_left; cases hce
  obtain rfl := Option.some.inj hce
  rename_i r1 x1 x2 b1
  refine obh hob fun r hF => ?_
  clear hob hce
  simp only [List.length_cons, List.length_nil, Nat.zero_add, Nat.reduceAdd] at hk
  have hr : Z3f r1 x1 x2 b1 = some r := by rw [lock_eq] at hF; exact hF
  unfold Z3f at hr
  constructor
  (try cbv)
  refine LoopOK.iter T (drawOK T hm) hr (fun | i1 => ⟨mkFr [(0, (.rsl (.row 72 (.row 75 (.st [(.int .u64), (.int .i64), (.int .i64)])) r1))), (1, (.fn 87 [(.ptr 0 0)])), (7, (.v (.int .i64 (lock ofN (lock (@xlen D) r1))))), (8, (.v (.int .i64 i1)))] 19 0, [(0, .blk 67 [(.v (.int .u64 x1)), .nsl, (.v (.int .i64 x2)), (.v (.bool b1)), .nsl, .nsl])], 1⟩) ?_ ?_
  ·exact cl2ec4c
  clear hr
  intro x bb1 hr ht1
  obtain ⟨i1, hz⟩ : ∃ z, z = x := ⟨x, rfl⟩
  subst hz
  as_aux_lemma =>
  constructor
  unfold Za1 at hr
  (try dsimp only at hr)
  (try cbv)
  refine Z2 hr ?_ ?_ <;> intro h1 hr
  ·(try cbv)
   refine Z3 hr fun hr => ?_
   refine cal hr (by rintro (_) _ <;> cbv) ?_
   rintro c3 hx3 hr
   (try dsimp only at hr); constructor; (try cbv)
   refine Z2 hr ?_ ?_ <;> intro h1 hr
   ·(try cbv)
    apply Hidden.out
    exact clb5cb2
   (try cbv)
   apply Hidden.out
   exact clba30f
  (try cbv)
  apply Hidden.out
  exact clb5cb2
 unfold Zey at hce
 split at hce; rotate_left; cases hce
 obtain rfl := Option.some.inj hce
 rename_i r1 x1 l1 x2 b1 l2 r2
 refine obh hob fun r hF => ?_
 clear hob hce
 simp only [List.length_cons, List.length_nil, Nat.zero_add, Nat.reduceAdd] at hk
 have hr : Z52 r1 x1 l1 x2 b1 l2 r2 = some r := by rw [lock_eq] at hF; exact hF
 unfold Z52 at hr
 constructor
 (try cbv)
 refine LoopOK.iter T (drawOK T hm) hr (fun | i1 => ⟨mkFr [(0, (.rsl (.row 72 (.row 75 (.st [(.int .u64), (.int .i64), (.int .i64)])) r1))), (1, (.fn 87 [(.ptr 0 0)])), (7, (.v (.int .i64 (lock ofN (lock (@xlen D) r1))))), (8, (.v (.int .i64 i1)))] 19 0, [(0, .blk 67 [(.v (.int .u64 x1)), (.rsl (.ints 46 .u64 l1)), (.v (.int .i64 x2)), (.v (.bool b1)), (.rsl (.ints 46 .u64 l2)), (.rsl (.row 72 (.row 75 (.st [(.int .u64), (.int .i64), (.int .i64)])) r2))])], 1⟩) ?_ ?_
 ·exact cl2ec4c
 clear hr
 intro x bb1 hr ht1
 obtain ⟨i1, hz⟩ : ∃ z, z = x := ⟨x, rfl⟩
 subst hz
 as_aux_lemma =>
 constructor
 unfold Z2y at hr
 (try dsimp only at hr)
 (try cbv)
 refine Z2 hr ?_ ?_ <;> intro h1 hr
 ·(try cbv)
  refine Z3 hr fun hr => ?_
  refine cal hr (by rintro (_) _ <;> cbv) ?_
  rintro c3 hx3 hr
  (try dsimp only at hr); constructor; (try cbv)
  refine Z2 hr ?_ ?_ <;> intro h1 hr
  ·(try cbv)
   apply Hidden.out
   exact clb5cb2
  (try cbv)
  apply Hidden.out
  exact clba30f
 (try cbv)
 apply Hidden.out
 exact clb5cb2
noncomputable def Zaa : Nat → Option Con := look [(100, Zac)]
set_option maxHeartbeats 20000000 in
set_option maxRecDepth 100000 in
theorem Ztn (P : Program) (T : Tab P Zaa) (hm : P.follows .mixedOrders = true) : FnVC P Zaa Zm6 [.t 4] 9 Zej := by
 intro cargs ccks ce hce hob C hk
 apply Hidden.out
 replace hce : altC (Zal cargs ccks) (Zgd cargs ccks) = some ce := hce
 replace hce := Zn hce
 rcases hce with hce | hce
 ·unfold Zal at hce
  split at hce; rotate_left; cases hce
  obtain rfl := Option.some.inj hce
  rename_i r1 x1 x2 b1
  refine obh hob fun r hF => ?_
  clear hob hce
  simp only [List.length_cons, List.length_nil, Nat.zero_add, Nat.reduceAdd] at hk
  have hr : Z5e r1 x1 x2 b1 = some r := by rw [lock_eq] at hF; exact hF
  unfold Z5e at hr
  constructor
  (try cbv)
  refine cal hr (by rintro (_) _ <;> cbv) ?_
  rintro y1 hx1 hr
  (try dsimp only at hr); constructor; (try cbv)
  apply Hidden.out
  exact clacd82
 unfold Zgd at hce
 split at hce; rotate_left; cases hce
 obtain rfl := Option.some.inj hce
 rename_i r1 x1 l1 x2 b1 l2 r2
 refine obh hob fun r hF => ?_
 clear hob hce
 simp only [List.length_cons, List.length_nil, Nat.zero_add, Nat.reduceAdd] at hk
 have hr : Z3u r1 x1 l1 x2 b1 l2 r2 = some r := by rw [lock_eq] at hF; exact hF
 unfold Z3u at hr
 constructor
 (try cbv)
 refine cal hr (by rintro (_) _ <;> cbv) ?_
 rintro y1 hx1 hr
 (try dsimp only at hr); constructor; (try cbv)
 apply Hidden.out
 exact clacd82
noncomputable def Zcx : Nat → Option Con := look [(86, Zej)]
set_option maxHeartbeats 20000000 in
set_option maxRecDepth 100000 in
theorem Zsl (P : Program) (T : Tab P Zcx) (hm : P.follows .mixedOrders = true) : FnVC P Zcx Zka [.t 2] 43 Za3 := by
 intro cargs ccks ce hce hob C hk
 apply Hidden.out
 replace hce : altC (Zea cargs ccks) (Zc8 cargs ccks) = some ce := hce
 replace hce := Zn hce
 rcases hce with hce | hce
 ·unfold Zea at hce
  split at hce; rotate_left; cases hce
  obtain rfl := Option.some.inj hce
  rename_i x1 x2 b1
  refine obh hob fun r hF => ?_
  clear hob hce
  simp only [List.length_cons, List.length_nil, Nat.zero_add, Nat.reduceAdd] at hk
  have hr : Z3r x1 x2 b1 = some r := by rw [lock_eq] at hF; exact hF
  unfold Z3r at hr
  constructor
  (try cbv)
  refine Z2 hr ?_ ?_ <;> intro h1 hr
  ·(try cbv)
   apply Hidden.out
   exact clacd82
  (try cbv)
  refine Z9 hr ?_ ?_ <;> intro h1 hr
  ·(try cbv)
   apply Hidden.out
   exact clacd82
  (try cbv)
  refine Z9 hr ?_ ?_ <;> intro h1 hr
  ·(try cbv)
   cases hr
  (try cbv)
  refine Z2 hr ?_ ?_ <;> intro h1 hr
  ·(try cbv)
   apply Hidden.out
   exact clacd82
  (try cbv)
  refine Z2 hr ?_ ?_ <;> intro h1 hr
  ·(try cbv)
   apply Hidden.out
   exact clacd82
  (try cbv)
  refine cal hr (by rintro (_) _ <;> cbv) ?_
  rintro c1 hx1 hr
  (try dsimp only at hr); constructor; (try cbv)
  apply Hidden.out
  exact clacd82
 unfold Zc8 at hce
 split at hce; rotate_left; cases hce
 obtain rfl := Option.some.inj hce
 rename_i x1 l1 x2 b1 l2 r1
 refine obh hob fun r hF => ?_
 clear hob hce
 simp only [List.length_cons, List.length_nil, Nat.zero_add, Nat.reduceAdd] at hk
 have hr : Z38 x1 l1 x2 b1 l2 r1 = some r := by rw [lock_eq] at hF; exact hF
 unfold Z38 at hr
 constructor
 (try cbv)
 refine Z2 hr ?_ ?_ <;> intro h1 hr
 ·(try cbv)
  apply Hidden.out
  exact clacd82
 (try cbv)
 refine Z9 hr ?_ ?_ <;> intro h1 hr
 ·(try cbv)
  apply Hidden.out
  exact clacd82
 (try cbv)
 refine Z9 hr ?_ ?_ <;> intro h1 hr
 ·(try cbv)
  apply Hidden.out
  exact clacd82
 (try cbv)
 refine Z2 hr ?_ ?_ <;> intro h1 hr
 ·(try cbv)
  apply Hidden.out
  exact clacd82
 (try cbv)
 refine Z2 hr ?_ ?_ <;> intro h1 hr
 ·(try cbv)
  apply Hidden.out
  exact clacd82
 (try cbv)
 refine cal hr (by rintro (_) _ <;> cbv) ?_
 rintro c1 hx1 hr
 (try dsimp only at hr); constructor; (try cbv)
 apply Hidden.out
 exact clacd82
noncomputable def Zgi : Nat → Option Con := look [(77, Z7x)]
set_option maxHeartbeats 20000000 in
set_option maxRecDepth 100000 in
theorem Zyj (P : Program) (T : Tab P Zgi) (hm : P.follows .mixedOrders = true) : FnVC P Zgi Zm8 [.t 4] 37 Z9g := by
 intro cargs ccks ce hce hob C hk
 apply Hidden.out
 replace hce : altC (Zfj cargs ccks) (Zdd cargs ccks) = some ce := hce
 replace hce := Zn hce
 rcases hce with hce | hce
 ·unfold Zfj at hce
  split at hce; rotate_left; cases hce
  obtain rfl := Option.some.inj hce
  rename_i x1 b1 x2 b2 l1 l2
  refine obh hob fun r hF => ?_
  clear hob hce
  simp only [List.length_cons, List.length_nil, Nat.zero_add, Nat.reduceAdd] at hk
  have hr : Z5x x1 b1 x2 b2 l1 l2 = some r := by rw [lock_eq] at hF; exact hF
  unfold Z5x at hr
  constructor
  (try cbv)
  apply Hidden.out
  rcases Bool.eq_false_or_eq_true (ieq (ofN 0) (ofN (xlen l1))) with h1 | h1
  ·constructor
   rw [if_pos h1] at hr
   have h2 : (lock ieq (lock ofN 0) (lock ofN (lock (@xlen Int) l1))) = true := by simp only [lock_eq]; exact h1
   simp only [relock, h2]
   (try cbv)
   apply Hidden.out
   rcases Bool.eq_false_or_eq_true (ilt x1 (0 : Int)) with h1 | h1
   ·constructor
    rw [if_pos h1] at hr
    have h2 : (lock ilt x1 (0 : Int)) = true := by simp only [lock_eq]; exact h1
    simp only [relock, h2]
    (try cbv)
    apply Hidden.out
    exact clbfd00
   constructor
   rw [if_neg (by rw [h1]; exact Bool.false_ne_true)] at hr
   have h2 : (lock ilt x1 (0 : Int)) = false := by simp only [lock_eq]; exact h1
   simp only [relock, h2]
   (try cbv)
   refine Z2 hr ?_ ?_ <;> intro h1 hr
   ·(try cbv)
    apply Hidden.out
    exact clbfd00
   (try cbv)
   refine cal hr (by rintro (_) _ <;> cbv) ?_
   rintro m1 hx1 hr
   (try dsimp only at hr); constructor; (try cbv)
   apply Hidden.out
   exact clbfd00
  constructor
  rw [if_neg (by rw [h1]; exact Bool.false_ne_true)] at hr
  have h2 : (lock ieq (lock ofN 0) (lock ofN (lock (@xlen Int) l1))) = false := by simp only [lock_eq]; exact h1
  simp only [relock, h2]
  (try cbv)
  apply Hidden.out
  exact clbfd00
 unfold Zdd at hce
 split at hce; rotate_left; cases hce
 obtain rfl := Option.some.inj hce
 rename_i x1 b1 l1 x2 b2 l2 l3
 refine obh hob fun r hF => ?_
 clear hob hce
 simp only [List.length_cons, List.length_nil, Nat.zero_add, Nat.reduceAdd] at hk
 have hr : Z4e x1 b1 l1 x2 b2 l2 l3 = some r := by rw [lock_eq] at hF; exact hF
 unfold Z4e at hr
 constructor
 (try cbv)
 apply Hidden.out
 rcases Bool.eq_false_or_eq_true (ieq (ofN (xlen l1)) (ofN (xlen l2))) with h1 | h1
 ·constructor
  rw [if_pos h1] at hr
  have h2 : (lock ieq (lock ofN (lock (@xlen Int) l1)) (lock ofN (lock (@xlen Int) l2))) = true := by simp only [lock_eq]; exact h1
  simp only [relock, h2]
  (try cbv)
  apply Hidden.out
  rcases Bool.eq_false_or_eq_true (ilt x1 (0 : Int)) with h1 | h1
  ·constructor
   rw [if_pos h1] at hr
   have h2 : (lock ilt x1 (0 : Int)) = true := by simp only [lock_eq]; exact h1
   simp only [relock, h2]
   (try cbv)
   apply Hidden.out
   exact clbfd00
  constructor
  rw [if_neg (by rw [h1]; exact Bool.false_ne_true)] at hr
  have h2 : (lock ilt x1 (0 : Int)) = false := by simp only [lock_eq]; exact h1
  simp only [relock, h2]
  (try cbv)
  refine Z2 hr ?_ ?_ <;> intro h1 hr
  ·(try cbv)
   apply Hidden.out
   exact clbfd00
  (try cbv)
  refine cal hr (by rintro (_) _ <;> cbv) ?_
  rintro m1 hx1 hr
  (try dsimp only at hr); constructor; (try cbv)
  apply Hidden.out
  exact clbfd00
 constructor
 rw [if_neg (by rw [h1]; exact Bool.false_ne_true)] at hr
 have h2 : (lock ieq (lock ofN (lock (@xlen Int) l1)) (lock ofN (lock (@xlen Int) l2))) = false := by simp only [lock_eq]; exact h1
 simp only [relock, h2]
 (try cbv)
 apply Hidden.out
 exact clbfd00
noncomputable def Zc2 : Nat → Option Con := look [(58, Za3), (59, Z9g), (38, Z8f)]
set_option maxHeartbeats 20000000 in
set_option maxRecDepth 100000 in
theorem Zqe (P : Program) (T : Tab P Zc2) (hm : P.follows .mixedOrders = true) : FnVC P Zc2 Znt [.t 4] 67 Z8g := by
 intro cargs ccks ce hce hob C hk
 apply Hidden.out
 replace hce : altC (Zco cargs ccks) (Zd7 cargs ccks) = some ce := hce
 replace hce := Zn hce
 rcases hce with hce | hce
 ·unfold Zco at hce
  split at hce; rotate_left; cases hce; rename_i x1 x2 b1
  split at hce; rotate_left; cases hce
  split at hce; rotate_left; cases hce; rename_i s1 b2 x3 x4
  split at hce; rotate_left; cases hce; rename_i r1
  split at hce; rotate_left; cases hce; rename_i r2
  split at hce; rotate_left; cases hce; rename_i w1 n1
  split at hce; rotate_left; cases hce; rename_i x5 b3
  split at hce; rotate_left; cases hce; rename_i w2 r3
  split at hce; rotate_left; cases hce; rename_i l1
  split at hce; rotate_left; cases hce; rename_i l2
  split at hce
  ·cases hce
  obtain rfl := Option.some.inj hce
  rename_i _ htm
  simp only [Bool.and_eq_true] at htm
  obtain ⟨h1, h2⟩ := htm
  obtain rfl := Zd _ _ h1
  obtain rfl := Zd _ _ h2
  clear h1 h2
  refine obh hob fun r hF => ?_
  clear hob hce
  simp only [List.length_cons, List.length_nil, Nat.zero_add, Nat.reduceAdd] at hk
  have hr : Z4p x1 x2 b1 s1 b2 x3 x4 r1 r2 n1 x5 b3 r3 l1 l2 = some r := by rw [lock_eq] at hF; exact hF
  unfold Z4p at hr
  constructor
  (try cbv)
  refine cald hr (by rintro (_) _ <;> cbv) ?_
  rintro c1 hx1 hr
  (try dsimp only at hr); constructor; (try cbv)
  apply Hidden.out
  rcases Bool.eq_false_or_eq_true c1 with h1 | h1
  ·constructor
   rw [if_pos h1] at hr
   subst h1
   (try cbv)
   refine Z9 hr ?_ ?_ <;> intro h1 hr
   ·(try cbv)
    apply Hidden.out
    exact cl8eeb6
   (try cbv)
   refine cald hr (by rintro (⟨_, _, _, _⟩) _ <;> cbv) ?_
   rintro ⟨c2, y1, c3, m1⟩ hx2 hr
   (try dsimp only at hr); constructor; (try cbv)
   refine LoopOK.iter T (drawOK T hm) hr (fun | _ => ⟨mkFr [(3, (.ptr 8 0)), (40, (.wsl 3)), (41, (.v (.int .i64 (lock ofN n1)))), (42, (.v (.int .i64 (0 : Int))))] 67 0, [(0, .blk 92 [(.str s1), (.v (.bool b2)), (.wsl 1), (.wsl 2), (.v (.int .i64 x3)), (.v (.int .u64 x1)), (.wsl 3), (.ptr 4 0)]), (1, .row (.row 83 (.st [.str, (.int .u64), (.int .u64), (.int .u64), (.int .i64), .bool]) r1)), (2, .row (.row 96 (.st [(.int .i64), (.int .i64), (.int .i64)]) r2)), (3, .prow 98 tm98 n1 5), (4, .blk 169 [(.wsl 6), (.v (.int .i64 y1)), (.v (.bool c3)), (.wsl 9)]), (5, .gho tm98 r3 none), (6, .row (.ints 46 .u64 l1)), (8, .blk 67 [(.v (.int .u64 x1)), .nsl, (.v (.int .i64 x2)), (.v (.bool b1)), .nsl, .nsl]), (9, .row (.ints 46 .u64 m1))], 10⟩) ?_ ?_
   ·exact cl9bcf9
   clear hr
   intro x bb1 hr ht1
   as_aux_lemma =>
   constructor
   unfold Zin at hr
   (try dsimp only at hr)
   (try cbv)
   refine Z2 hr ?_ ?_ <;> intro h1 hr
   ·(try cbv)
    cases hr
   (try cbv)
   apply Hidden.out
   exact cl31adc
  constructor
  rw [if_neg (by rw [h1]; exact Bool.false_ne_true)] at hr
  subst h1
  (try cbv)
  apply Hidden.out
  exact cl8eeb6
 unfold Zd7 at hce
 split at hce; rotate_left; cases hce; rename_i x1 l1 x2 b1 l2 r1
 split at hce; rotate_left; cases hce
 split at hce; rotate_left; cases hce; rename_i s1 b2 x3 x4
 split at hce; rotate_left; cases hce; rename_i r2
 split at hce; rotate_left; cases hce; rename_i r3
 split at hce; rotate_left; cases hce; rename_i w1 n1
 split at hce; rotate_left; cases hce; rename_i x5 b3
 split at hce; rotate_left; cases hce; rename_i w2 r4
 split at hce; rotate_left; cases hce; rename_i l3
 split at hce; rotate_left; cases hce; rename_i l4
 split at hce
 ·cases hce
 obtain rfl := Option.some.inj hce
 rename_i _ htm
 simp only [Bool.and_eq_true] at htm
 obtain ⟨h1, h2⟩ := htm
 obtain rfl := Zd _ _ h1
 obtain rfl := Zd _ _ h2
 clear h1 h2
 refine obh hob fun r hF => ?_
 clear hob hce
 simp only [List.length_cons, List.length_nil, Nat.zero_add, Nat.reduceAdd] at hk
 have hr : Z4a x1 l1 x2 b1 l2 r1 s1 b2 x3 x4 r2 r3 n1 x5 b3 r4 l3 l4 = some r := by rw [lock_eq] at hF; exact hF
 unfold Z4a at hr
 constructor
 (try cbv)
 refine cald hr (by rintro (_) _ <;> cbv) ?_
 rintro c1 hx1 hr
 (try dsimp only at hr); constructor; (try cbv)
 apply Hidden.out
 rcases Bool.eq_false_or_eq_true c1 with h1 | h1
 ·constructor
  rw [if_pos h1] at hr
  subst h1
  (try cbv)
  refine Z9 hr ?_ ?_ <;> intro h1 hr
  ·(try cbv)
   apply Hidden.out
   exact clc60e0
  (try cbv)
  refine cald hr (by rintro (⟨_, _, _, _⟩) _ <;> cbv) ?_
  rintro ⟨c2, y1, c3, m1⟩ hx2 hr
  (try dsimp only at hr); constructor; (try cbv)
  refine LoopOK.iter T (drawOK T hm) hr (fun | (i1, r5) => ⟨mkFr [(3, (.ptr 8 0)), (40, (.wsl 3)), (41, (.v (.int .i64 (lock ofN n1)))), (42, (.v (.int .i64 i1)))] 67 0, [(0, .blk 92 [(.str s1), (.v (.bool b2)), (.wsl 1), (.wsl 2), (.v (.int .i64 x3)), (.v (.int .u64 x1)), (.wsl 3), (.ptr 4 0)]), (1, .row (.row 83 (.st [.str, (.int .u64), (.int .u64), (.int .u64), (.int .i64), .bool]) r2)), (2, .row (.row 96 (.st [(.int .i64), (.int .i64), (.int .i64)]) r3)), (3, .prow 98 tm98 n1 9), (4, .blk 169 [(.wsl 6), (.v (.int .i64 y1)), (.v (.bool c3)), (.wsl 10)]), (6, .row (.ints 46 .u64 l3)), (8, .blk 67 [(.v (.int .u64 x1)), (.rsl (.ints 46 .u64 l1)), (.v (.int .i64 x2)), (.v (.bool b1)), (.rsl (.ints 46 .u64 l2)), (.rsl (.row 72 (.row 75 (.st [(.int .u64), (.int .i64), (.int .i64)])) r1))]), (9, .gho tm98 r5 none), (10, .row (.ints 46 .u64 m1))], 11⟩) ?_ ?_
  ·exact cl1df3b
  clear hr
  intro x bb1 hr ht1
  obtain ⟨i1, r5⟩ := x
  as_aux_lemma =>
  constructor
  unfold Z5z at hr
  (try dsimp only at hr)
  (try cbv)
  refine Z2 hr ?_ ?_ <;> intro h1 hr
  ·(try cbv)
   refine Z3 hr fun hr => ?_
   refine Z3 hr fun hr => ?_
   refine Z3 hr fun hr => ?_
   refine cald hr (by rintro (⟨_, _, _⟩) _ <;> cbv) ?_
   rintro ⟨y8, y9, q4⟩ hx6 hr
   (try dsimp only at hr); constructor; (try cbv)
   apply Hidden.out
   exact cl81169
  (try cbv)
  apply Hidden.out
  exact cle4224
 constructor
 rw [if_neg (by rw [h1]; exact Bool.false_ne_true)] at hr
 subst h1
 (try cbv)
 apply Hidden.out
 exact clc60e0
noncomputable def Z8o : Nat → Option Con := look [(10, Z8h), (26, Z81), (29, Z7w), (28, Z8d), (14, Z76), (21, Z5s), (15, Z6x), (24, Z8e), (13, Z50), (30, Z8g)]
set_option maxHeartbeats 20000000 in
set_option maxRecDepth 100000 in
theorem Zys (P : Program) (T : Tab P Z8o) (hm : P.follows .mixedOrders = true) : FnVC P Z8o Zm4 [.t 0] 138 Zdb := by
 intro cargs ccks ce hce hob C hk
 apply Hidden.out
 replace hce : Z9h cargs ccks = some ce := hce
 unfold Z9h at hce
 split at hce; rotate_left; cases hce
 obtain rfl := Option.some.inj hce
 refine obh hob fun r hF => ?_
 clear hob hce
 simp only [List.length_cons, List.length_nil, Nat.zero_add, Nat.reduceAdd] at hk
 have hr : Z3z = some r := by rw [lock_eq] at hF; exact hF
 unfold Z3z at hr
 constructor
 (try cbv)
 refine cal hr (by rintro (_ | ⟨_, _, _, _, _, _⟩) _ <;> cbv) ?_
 rintro (_ | ⟨q1, q2, k1, q3, m1, m2⟩) hx1 hr
 all_goals ((try dsimp only at hr); constructor; (try cbv))
 ·apply Hidden.out
  exact clacd82
 refine cal hr (by rintro (⟨_, _, _, _, _, _⟩) _ <;> cbv) ?_
 rintro ⟨y1, y2, y3, y4, y5, q4⟩ hx2 hr
 (try dsimp only at hr); constructor; (try cbv)
 refine cal hr (by rintro (⟨_, _, _, _, _, _⟩) _ <;> cbv) ?_
 rintro ⟨y6, y7, y8, y9, y10, q5⟩ hx3 hr
 (try dsimp only at hr); constructor; (try cbv)
 refine cal hr (by rintro (⟨_, _, _, _, _, _⟩) _ <;> cbv) ?_
 rintro ⟨y11, y12, y13, y14, y15, q6⟩ hx4 hr
 (try dsimp only at hr); constructor; (try cbv)
 refine cal hr (by rintro (⟨_, _, _, _, _, _, _, _, _⟩) _ <;> cbv) ?_
 rintro ⟨y16, y17, y18, t1, c1, y19, c2, m3, q7⟩ hx5 hr
 (try dsimp only at hr); constructor; (try cbv)
 refine cal hr (by rintro (⟨_, _, _, _, _, _, _, _, _⟩) _ <;> cbv) ?_
 rintro ⟨y20, y21, y22, t2, c3, y23, c4, m4, q8⟩ hx6 hr
 (try dsimp only at hr); constructor; (try cbv)
 refine cal hr (by rintro (_) _ <;> cbv) ?_
 rintro q9 hx7 hr
 (try dsimp only at hr); constructor; (try cbv)
 refine cal hr (by rintro (⟨_, _, _, _, _, _, _, _, _⟩) _ <;> cbv) ?_
 rintro ⟨y24, y25, y26, t3, c5, y27, c6, m5, q10⟩ hx8 hr
 (try dsimp only at hr); constructor; (try cbv)
 refine Z2 hr ?_ ?_ <;> intro h1 hr
 ·as_aux_lemma =>
  (try cbv)
  refine Z2 hr ?_ ?_ <;> intro h1 hr
  ·as_aux_lemma =>
   (try cbv)
   refine Z2 hr ?_ ?_ <;> intro h1 hr
   ·as_aux_lemma =>
    (try cbv)
    refine Z2 hr ?_ ?_ <;> intro h1 hr
    ·as_aux_lemma =>
     (try cbv)
     refine Z2 hr ?_ ?_ <;> intro h1 hr
     ·as_aux_lemma =>
      (try cbv)
      refine Z2 hr ?_ ?_ <;> intro h1 hr
      ·as_aux_lemma =>
       (try cbv)
       refine Z2 hr ?_ ?_ <;> intro h1 hr
       ·as_aux_lemma =>
        (try cbv)
        refine Z9 hr ?_ ?_ <;> intro h1 hr
        ·as_aux_lemma =>
         (try cbv)
         refine Z2 hr ?_ ?_ <;> intro h1 hr
         ·as_aux_lemma =>
          (try cbv)
          refine Z2 hr ?_ ?_ <;> intro h1 hr
          ·as_aux_lemma =>
           (try cbv)
           refine cal hr (by rintro (⟨_, _⟩) _ <;> cbv) ?_
           rintro ⟨y28, q11⟩ hx9 hr
           (try dsimp only at hr); constructor; (try cbv)
           refine Z2 hr ?_ ?_ <;> intro h1 hr
           ·as_aux_lemma =>
            (try cbv)
            refine cal hr (by rintro (⟨_, _, _, _⟩) _ <;> cbv) ?_
            rintro ⟨m6, m7, q12, q13⟩ hx10 hr
            (try dsimp only at hr); constructor; (try cbv)
            refine Z2 hr ?_ ?_ <;> intro h1 hr
            ·(try cbv)
             refine cal hr (by rintro (_) _ <;> cbv) ?_
             rintro y29 hx11 hr
             (try dsimp only at hr); constructor; (try cbv)
             refine Z2 hr ?_ ?_ <;> intro h1 hr
             ·(try cbv)
              refine cal hr (by rintro (⟨_, _⟩) _ <;> cbv) ?_
              rintro ⟨q14, q15⟩ hx12 hr
              (try dsimp only at hr); constructor; (try cbv)
              refine Z2 hr ?_ ?_ <;> intro h1 hr
              ·(try cbv)
               refine cal hr (by rintro (_) _ <;> cbv) ?_
               rintro c7 hx13 hr
               (try dsimp only at hr); constructor; (try cbv)
               refine Z2 hr ?_ ?_ <;> intro h1 hr
               ·(try cbv)
                refine cal hr (by rintro (_) _ <;> cbv) ?_
                rintro c8 hx14 hr
                (try dsimp only at hr); constructor; (try cbv)
                refine Z9 hr ?_ ?_ <;> intro h1 hr
                ·(try cbv)
                 refine cal hr (by rintro (⟨_, _, _, _, _⟩) _ <;> cbv) ?_
                 rintro ⟨y30, y31, y32, c9, m8⟩ hx15 hr
                 (try dsimp only at hr); constructor; (try cbv)
                 apply Hidden.out
                 exact clacd82
                (try cbv)
                apply Hidden.out
                exact clacd82
               (try cbv)
               apply Hidden.out
               exact clacd82
              (try cbv)
              apply Hidden.out
              exact clacd82
             (try cbv)
             apply Hidden.out
             exact clacd82
            (try cbv)
            apply Hidden.out
            exact clacd82
           (try cbv)
           apply Hidden.out
           exact clacd82
          (try cbv)
          apply Hidden.out
          exact clacd82
         (try cbv)
         apply Hidden.out
         exact clacd82
        (try cbv)
        apply Hidden.out
        exact clacd82
       (try cbv)
       apply Hidden.out
       exact clacd82
      (try cbv)
      apply Hidden.out
      exact clacd82
     (try cbv)
     apply Hidden.out
     exact clacd82
    (try cbv)
    apply Hidden.out
    exact clacd82
   (try cbv)
   apply Hidden.out
   exact clacd82
  (try cbv)
  apply Hidden.out
  exact clacd82
 (try cbv)
 apply Hidden.out
 exact clacd82
noncomputable def Zcu : Nat → Option Con := look []
set_option maxHeartbeats 20000000 in
set_option maxRecDepth 100000 in
theorem Zrr (P : Program) (T : Tab P Zcu) (hm : P.follows .mixedOrders = true) : FnVC P Zcu Zoa [.t 4] 42 Z8u := by
 intro cargs ccks ce hce hob C hk
 apply Hidden.out
 replace hce : Z90 cargs ccks = some ce := hce
 unfold Z90 at hce
 split at hce; rotate_left; cases hce
 obtain rfl := Option.some.inj hce
 rename_i r1 r2
 refine obh hob fun r hF => ?_
 clear hob hce
 simp only [List.length_cons, List.length_nil, Nat.zero_add, Nat.reduceAdd] at hk
 have hr : Z4h r1 r2 = some r := by rw [lock_eq] at hF; exact hF
 unfold Z4h at hr
 constructor
 (try cbv)
 refine LoopOK.iter T (drawOK T hm) hr (fun | i1 => ⟨mkFr [(0, (.rsl (.row 33 (.st [.str, .bool, (.row 83 (.st [.str, (.int .u64), (.int .u64), (.int .u64), (.int .i64), .bool])), (.st [(.row 96 (.st [(.int .i64), (.int .i64), (.int .i64)])), (.int .i64)])]) r1))), (1, (.rsl (.row 58 (.st [(.int .i64), (.int .i64), (.int .i64), (.int .u64), (.int .u8)]) r2))), (5, (.v (.int .i64 i1)))] 42 0, [], 0⟩) ?_ ?_
 ·exact cl2ec4c
 clear hr
 intro x bb1 hr ht1
 obtain ⟨i1, hz⟩ : ∃ z, z = x := ⟨x, rfl⟩
 subst hz
 as_aux_lemma =>
 constructor
 unfold Z7q at hr
 (try dsimp only at hr)
 (try cbv)
 refine Z2 hr ?_ ?_ <;> intro h1 hr
 ·(try cbv)
  refine Z3 hr fun hr => ?_
  refine Z2 hr ?_ ?_ <;> intro h1 hr
  ·(try cbv)
   apply Hidden.out
   exact clb5cb2
  (try cbv)
  refine Z3 hr fun hr => ?_
  refine Z2 hr ?_ ?_ <;> intro h1 hr
  ·(try cbv)
   apply Hidden.out
   exact clb5cb2
  (try cbv)
  apply Hidden.out
  exact clba30f
 (try cbv)
 refine Z2 hr ?_ ?_ <;> intro h1 hr
 ·(try cbv)
  refine Z2 hr ?_ ?_ <;> intro h1 hr
  ·(try cbv)
   apply Hidden.out
   exact clb5cb2
  (try cbv)
  apply Hidden.out
  exact clb5cb2
 (try cbv)
 apply Hidden.out
 exact clb5cb2
noncomputable def Zbi : Nat → Option Con := look [(26, Z81), (28, Z8d), (29, Z7w), (15, Z6x), (21, Z5s), (30, Z8g)]
set_option maxHeartbeats 20000000 in
set_option maxRecDepth 100000 in
theorem Z10w (P : Program) (T : Tab P Zbi) (hm : P.follows .mixedOrders = true) : FnVC P Zbi Zpi [.c 6 3 true, .c 7 3 true] 69 Ze2 := by
 intro cargs ccks ce hce hob C hk
 apply Hidden.out
 replace hce : Zgh cargs ccks = some ce := hce
 unfold Zgh at hce
 split at hce; rotate_left; cases hce; rename_i r1 x1 x2 x3 x4 x5
 split at hce; rotate_left; cases hce
 split at hce; rotate_left; cases hce; rename_i s1 b1 x6 x7
 split at hce; rotate_left; cases hce; rename_i r2
 split at hce; rotate_left; cases hce; rename_i r3
 split at hce; rotate_left; cases hce; rename_i w1 n1
 split at hce; rotate_left; cases hce; rename_i x8 b2
 split at hce; rotate_left; cases hce; rename_i w2 r4
 split at hce; rotate_left; cases hce; rename_i l1
 split at hce; rotate_left; cases hce; rename_i l2
 split at hce
 ·cases hce
 obtain rfl := Option.some.inj hce
 rename_i _ htm
 simp only [Bool.and_eq_true] at htm
 obtain ⟨h1, h2⟩ := htm
 obtain rfl := Zd _ _ h1
 obtain rfl := Zd _ _ h2
 clear h1 h2
 refine obh hob fun r hF => ?_
 clear hob hce
 simp only [List.length_cons, List.length_nil, Nat.zero_add, Nat.reduceAdd] at hk
 have hr : Z48 r1 x1 x2 x3 x4 x5 s1 b1 x6 x7 r2 r3 n1 x8 b2 r4 l1 l2 = some r := by rw [lock_eq] at hF; exact hF
 unfold Z48 at hr
 constructor
 (try cbv)
 refine Z2 hr ?_ ?_ <;> intro h1 hr
 ·(try cbv)
  refine cal hr (by rintro (⟨_, _, _, _, _, _⟩) _ <;> cbv) ?_
  rintro ⟨y1, y2, y3, y4, y5, q1⟩ hx1 hr
  (try dsimp only at hr); constructor; (try cbv)
  apply Hidden.out
  exact clf9b33
 as_aux_lemma =>
 (try cbv)
 refine Z2 hr ?_ ?_ <;> intro h1 hr
 ·(try cbv)
  refine cal hr (by rintro (_) _ <;> cbv) ?_
  rintro q2 hx2 hr
  (try dsimp only at hr); constructor; (try cbv)
  apply Hidden.out
  exact clf9b33
 as_aux_lemma =>
 (try cbv)
 refine Z2 hr ?_ ?_ <;> intro h1 hr
 ·(try cbv)
  refine cal hr (by rintro (⟨_, _, _, _, _, _, _, _, _⟩) _ <;> cbv) ?_
  rintro ⟨y6, y7, y8, t1, c1, y9, c2, m1, q3⟩ hx3 hr
  (try dsimp only at hr); constructor; (try cbv)
  apply Hidden.out
  exact clf9b33
 as_aux_lemma =>
 (try cbv)
 refine Z2 hr ?_ ?_ <;> intro h1 hr
 ·(try cbv)
  refine Z2 hr ?_ ?_ <;> intro h1 hr
  ·(try cbv)
   refine Z54 hr fun hr => ?_
   refine Z3 hr fun hr => ?_
   refine cald hr (by rintro (⟨_, _, _, _, _, _, _, _, _, _, _, _⟩) _ <;> cbv) ?_
   rintro ⟨y10, t2, c3, y11, q4, q5, k1, y12, c4, q6, m2, m3⟩ hx4 hr
   (try dsimp only at hr); constructor; (try cbv)
   apply Hidden.out
   exact clf9b33
  (try cbv)
  cases hr
 (try cbv)
 refine Z2 hr ?_ ?_ <;> intro h1 hr
 ·(try cbv)
  refine Z54 hr fun hr => ?_
  refine Z3 hr fun hr => ?_
  refine cald hr (by rintro (⟨_, _, _, _, _, _, _, _, _, _, _, _⟩) _ <;> cbv) ?_
  rintro ⟨y13, t3, c5, y14, q7, q8, k2, y15, c6, q9, m4, m5⟩ hx5 hr
  (try dsimp only at hr); constructor; (try cbv)
  apply Hidden.out
  exact clf9b33
 (try cbv)
 refine Z2 hr ?_ ?_ <;> intro h1 hr
 ·(try cbv)
  refine cal hr (by rintro (⟨_, _, _, _⟩) _ <;> cbv) ?_
  rintro ⟨m6, m7, q10, q11⟩ hx6 hr
  (try dsimp only at hr); constructor; (try cbv)
  refine cal hr (by rintro (⟨_, _, _, _, _, _⟩) _ <;> cbv) ?_
  rintro ⟨y16, y17, y18, c7, q12, m8⟩ hx7 hr
  (try dsimp only at hr); constructor; (try cbv)
  apply Hidden.out
  exact clf9b33
 (try cbv)
 apply Hidden.out
 exact clf9b33
noncomputable def Zgn : Nat → Option Con := look []
set_option maxHeartbeats 20000000 in
set_option maxRecDepth 100000 in
theorem Zuy (P : Program) (T : Tab P Zgn) (hm : P.follows .mixedOrders = true) : FnVC P Zgn Zil [.c 2 6 true] 19 Zbo := by
 intro cargs ccks ce hce hob C hk
 apply Hidden.out
 replace hce : Zfp cargs ccks = some ce := hce
 unfold Zfp at hce
 split at hce; rotate_left; cases hce
 obtain rfl := Option.some.inj hce
 rename_i x1 l1 x2 b1 l2 r1
 refine obh hob fun r hF => ?_
 clear hob hce
 simp only [List.length_cons, List.length_nil, Nat.zero_add, Nat.reduceAdd] at hk
 have hr : Z20 x1 l1 x2 b1 l2 r1 = some r := by rw [lock_eq] at hF; exact hF
 unfold Z20 at hr
 constructor
 (try cbv)
 apply Hidden.out
 exact clacd82
noncomputable def Z8x : Nat → Option Con := look []
set_option maxHeartbeats 20000000 in
set_option maxRecDepth 100000 in
theorem Zqq (P : Program) (T : Tab P Z8x) (hm : P.follows .mixedOrders = true) : FnVC P Z8x Zof [.t 4] 26 Z9l := by
 intro cargs ccks ce hce hob C hk
 apply Hidden.out
 replace hce : Zfu cargs ccks = some ce := hce
 unfold Zfu at hce
 split at hce; rotate_left; cases hce
 obtain rfl := Option.some.inj hce
 rename_i l1 l2
 refine obh hob fun r hF => ?_
 clear hob hce
 simp only [List.length_cons, List.length_nil, Nat.zero_add, Nat.reduceAdd] at hk
 have hr : Z1k l1 l2 = some r := by rw [lock_eq] at hF; exact hF
 unfold Z1k at hr
 constructor
 (try cbv)
 refine Z9 hr ?_ ?_ <;> intro h1 hr
 ·(try cbv)
  apply Hidden.out
  exact clacd82
 (try cbv)
 refine LoopOK.iter T (drawOK T hm) hr (fun | i1 => ⟨mkFr [(0, (.rsl (.ints 46 .u64 l1))), (1, (.rsl (.ints 46 .u64 l2))), (5, (.v (.int .i64 i1)))] 26 0, [], 0⟩) ?_ ?_
 ·exact cl2ec4c
 clear hr
 intro x bb1 hr ht1
 obtain ⟨i1, hz⟩ : ∃ z, z = x := ⟨x, rfl⟩
 subst hz
 as_aux_lemma =>
 constructor
 unfold Z40 at hr
 (try dsimp only at hr)
 (try cbv)
 refine Z2 hr ?_ ?_ <;> intro h1 hr
 ·(try cbv)
  refine Z3 hr fun hr => ?_
  refine Z3 hr fun hr => ?_
  refine Z9 hr ?_ ?_ <;> intro h1 hr
  ·(try cbv)
   apply Hidden.out
   exact clb5cb2
  (try cbv)
  apply Hidden.out
  exact clba30f
 (try cbv)
 apply Hidden.out
 exact clb5cb2
noncomputable def Zad : Nat → Option Con := look []
set_option maxHeartbeats 20000000 in
set_option maxRecDepth 100000 in
theorem Zup (P : Program) (T : Tab P Zad) (hm : P.follows .mixedOrders = true) : FnVC P Zad Zml [.t 4] 26 Zaw := by
 intro cargs ccks ce hce hob C hk
 apply Hidden.out
 replace hce : Zcg cargs ccks = some ce := hce
 unfold Zcg at hce
 split at hce; rotate_left; cases hce
 obtain rfl := Option.some.inj hce
 rename_i r1 r2
 refine obh hob fun r hF => ?_
 clear hob hce
 simp only [List.length_cons, List.length_nil, Nat.zero_add, Nat.reduceAdd] at hk
 have hr : Z1y r1 r2 = some r := by rw [lock_eq] at hF; exact hF
 unfold Z1y at hr
 constructor
 (try cbv)
 refine Z9 hr ?_ ?_ <;> intro h1 hr
 ·(try cbv)
  apply Hidden.out
  exact clacd82
 (try cbv)
 refine LoopOK.iter T (drawOK T hm) hr (fun | i1 => ⟨mkFr [(0, (.rsl (.row 75 (.st [(.int .u64), (.int .i64), (.int .i64)]) r1))), (1, (.rsl (.row 75 (.st [(.int .u64), (.int .i64), (.int .i64)]) r2))), (5, (.v (.int .i64 i1)))] 26 0, [], 0⟩) ?_ ?_
 ·exact cl2ec4c
 clear hr
 intro x bb1 hr ht1
 obtain ⟨i1, hz⟩ : ∃ z, z = x := ⟨x, rfl⟩
 subst hz
 as_aux_lemma =>
 constructor
 unfold Z4l at hr
 (try dsimp only at hr)
 (try cbv)
 refine Z2 hr ?_ ?_ <;> intro h1 hr
 ·(try cbv)
  refine Z3 hr fun hr => ?_
  refine Z3 hr fun hr => ?_
  refine Z9 hr ?_ ?_ <;> intro h1 hr
  ·(try cbv)
   apply Hidden.out
   exact clb5cb2
  (try cbv)
  apply Hidden.out
  exact clba30f
 (try cbv)
 apply Hidden.out
 exact clb5cb2
noncomputable def Zg3 : Nat → Option Con := look [(46, Z9l), (47, Zaw)]
set_option maxHeartbeats 20000000 in
set_option maxRecDepth 100000 in
theorem Zq7 (P : Program) (T : Tab P Zg3) (hm : P.follows .mixedOrders = true) : FnVC P Zg3 Zkc [.t 4] 69 Z9w := by
 intro cargs ccks ce hce hob C hk
 apply Hidden.out
 replace hce : Zbs cargs ccks = some ce := hce
 unfold Zbs at hce
 split at hce; rotate_left; cases hce
 obtain rfl := Option.some.inj hce
 rename_i x1 l1 x2 b1 l2 r1 x3 l3 x4 b2 l4 r2
 refine obh hob fun r hF => ?_
 clear hob hce
 simp only [List.length_cons, List.length_nil, Nat.zero_add, Nat.reduceAdd] at hk
 have hr : Z18 x1 l1 x2 b1 l2 r1 x3 l3 x4 b2 l4 r2 = some r := by rw [lock_eq] at hF; exact hF
 unfold Z18 at hr
 constructor
 (try cbv)
 refine Z9 hr ?_ ?_ <;> intro h1 hr
 ·(try cbv)
  apply Hidden.out
  exact clacd82
 as_aux_lemma =>
 (try cbv)
 refine Z9 hr ?_ ?_ <;> intro h1 hr
 ·(try cbv)
  apply Hidden.out
  exact clacd82
 as_aux_lemma =>
 (try cbv)
 refine Z9 hr ?_ ?_ <;> intro h1 hr
 ·(try cbv)
  apply Hidden.out
  exact clacd82
 as_aux_lemma =>
 (try cbv)
 refine Z9 hr ?_ ?_ <;> intro h1 hr
 ·(try cbv)
  apply Hidden.out
  exact clacd82
 as_aux_lemma =>
 (try cbv)
 refine cal hr (by rintro (_) _ <;> cbv) ?_
 rintro c1 hx1 hr
 (try dsimp only at hr); constructor; (try cbv)
 refine Z9 hr ?_ ?_ <;> intro h1 hr
 ·(try cbv)
  apply Hidden.out
  exact clacd82
 (try cbv)
 refine cal hr (by rintro (_) _ <;> cbv) ?_
 rintro c2 hx2 hr
 (try dsimp only at hr); constructor; (try cbv)
 refine Z9 hr ?_ ?_ <;> intro h1 hr
 ·(try cbv)
  apply Hidden.out
  exact clacd82
 (try cbv)
 refine LoopOK.iter T (drawOK T hm) hr (fun | i1 => ⟨mkFr [(2, (.ptr 0 0)), (3, (.ptr 1 0)), (5, (.v (.int .i64 i1)))] 69 0, [(0, .blk 62 [(.v (.int .u64 x1)), (.rsl (.ints 46 .u64 l1)), (.v (.int .i64 x2)), (.v (.bool b1)), (.rsl (.ints 46 .u64 l2)), (.rsl (.row 72 (.row 75 (.st [(.int .u64), (.int .i64), (.int .i64)])) r1))]), (1, .blk 62 [(.v (.int .u64 x3)), (.rsl (.ints 46 .u64 l3)), (.v (.int .i64 x4)), (.v (.bool b2)), (.rsl (.ints 46 .u64 l4)), (.rsl (.row 72 (.row 75 (.st [(.int .u64), (.int .i64), (.int .i64)])) r2))])], 2⟩) ?_ ?_
 ·exact cl2ec4c
 clear hr
 intro x bb1 hr ht1
 obtain ⟨i1, hz⟩ : ∃ z, z = x := ⟨x, rfl⟩
 subst hz
 as_aux_lemma =>
 constructor
 unfold Z23 at hr
 (try dsimp only at hr)
 (try cbv)
 refine Z2 hr ?_ ?_ <;> intro h1 hr
 ·(try cbv)
  refine Z3 hr fun hr => ?_
  refine Z3 hr fun hr => ?_
  refine cald hr (by rintro (_) _ <;> cbv) ?_
  rintro c5 hx5 hr
  (try dsimp only at hr); constructor; (try cbv)
  refine Z9 hr ?_ ?_ <;> intro h1 hr
  ·(try cbv)
   apply Hidden.out
   exact clb5cb2
  (try cbv)
  apply Hidden.out
  exact clba30f
 (try cbv)
 apply Hidden.out
 exact clb5cb2
noncomputable def Zeh : Nat → Option Con := look []
set_option maxHeartbeats 20000000 in
set_option maxRecDepth 100000 in
theorem Zwp (P : Program) (T : Tab P Zeh) (hm : P.follows .mixedOrders = true) : FnVC P Zeh Zhi [.c 2 5 true] 76 Za7 := by
 intro cargs ccks ce hce hob C hk
 apply Hidden.out
 replace hce : Zdr cargs ccks = some ce := hce
 unfold Zdr at hce
 split at hce; rotate_left; cases hce
 obtain rfl := Option.some.inj hce
 rename_i s1 b1 r1 r2 x1
 refine obh hob fun r hF => ?_
 clear hob hce
 simp only [List.length_cons, List.length_nil, Nat.zero_add, Nat.reduceAdd] at hk
 have hr : Zy s1 b1 r1 r2 x1 = some r := by rw [lock_eq] at hF; exact hF
 unfold Zy at hr
 constructor
 (try cbv)
 refine LoopOK.iter T (drawOK T hm) hr (fun | (i1, r3) => ⟨mkFr [(1, (.ptr 0 0)), (2, (.ptr 1 0)), (3, (.ptr 2 0)), (4, (.v (.int .i64 i1)))] 76 0, [(0, .blk 33 [(.str s1), (.v (.bool b1)), (.rsl (.row 83 (.st [.str, (.int .u64), (.int .u64), (.int .u64), (.int .i64), .bool]) r1)), (.rsl (.row 96 (.st [(.int .i64), (.int .i64), (.int .i64)]) r2)), (.v (.int .i64 x1))]), (1, .blk 40 [(.str ([] : List UInt8)), (.v (.bool false)), .nsl, .nsl, (.v (.int .i64 (0 : Int)))]), (2, .blk 40 [(.str s1), (.v (.bool b1)), .nsl, (.wsl 3), (.v (.int .i64 x1))]), (3, .row (.row 95 (.st [(.int .i64), (.int .i64), (.int .i64)]) r3))], 4⟩) ?_ ?_
 ·exact cl1df3b
 clear hr
 intro x bb1 hr ht1
 obtain ⟨i1, r3⟩ := x
 as_aux_lemma =>
 constructor
 unfold Z6h at hr
 (try dsimp only at hr)
 (try cbv)
 refine Z2 hr ?_ ?_ <;> intro h1 hr
 ·(try cbv)
  refine Z3 hr fun hr => ?_
  refine Z3 hr fun hr => ?_
  apply Hidden.out
  exact cl81169
 (try cbv)
 apply Hidden.out
 obtain ⟨t, hr2, hw⟩ := Z16 hr
 clear hr
 subst hw
 have e := (ht1 _ rfl).symm
 subst e
 have hr := hr2
 clear hr2
 constructor
 refine LoopOK.iter T (drawOK T hm) hr (fun | (i2, r4) => ⟨mkFr [(1, (.ptr 0 0)), (2, (.ptr 1 0)), (3, (.ptr 2 0)), (6, (.v (.int .i64 i2)))] 76 0, [(0, .blk 33 [(.str s1), (.v (.bool b1)), (.rsl (.row 83 (.st [.str, (.int .u64), (.int .u64), (.int .u64), (.int .i64), .bool]) r1)), (.rsl (.row 96 (.st [(.int .i64), (.int .i64), (.int .i64)]) r2)), (.v (.int .i64 x1))]), (1, .blk 40 [(.str ([] : List UInt8)), (.v (.bool false)), .nsl, .nsl, (.v (.int .i64 (0 : Int)))]), (2, .blk 40 [(.str s1), (.v (.bool b1)), (.wsl 3), (.wsl 4), (.v (.int .i64 x1))]), (3, .row (.row 82 (.st [.str, (.int .u64), (.int .u64), (.int .u64), (.int .i64), .bool]) r4)), (4, .row (.row 95 (.st [(.int .i64), (.int .i64), (.int .i64)]) r3))], 5⟩) ?_ ?_
 ·exact cl1df3b
 clear hr
 intro x bb1 hr ht1
 obtain ⟨i2, r4⟩ := x
 as_aux_lemma =>
 constructor
 unfold Z4y at hr
 (try dsimp only at hr)
 (try cbv)
 refine Z2 hr ?_ ?_ <;> intro h1 hr
 ·(try cbv)
  refine Z3 hr fun hr => ?_
  refine Z3 hr fun hr => ?_
  apply Hidden.out
  exact cl81169
 (try cbv)
 apply Hidden.out
 exact cl1c5c3
noncomputable def Zgm : Nat → Option Con := look []
set_option maxHeartbeats 20000000 in
set_option maxRecDepth 100000 in
theorem Z101 (P : Program) (T : Tab P Zgm) (hm : P.follows .mixedOrders = true) : FnVC P Zgm Zif [.t 4] 39 Zg8 := by
 intro cargs ccks ce hce hob C hk
 apply Hidden.out
 replace hce : Zbk cargs ccks = some ce := hce
 unfold Zbk at hce
 split at hce; rotate_left; cases hce
 obtain rfl := Option.some.inj hce
 rename_i r1 x1 x2
 refine obh hob fun r hF => ?_
 clear hob hce
 simp only [List.length_cons, List.length_nil, Nat.zero_add, Nat.reduceAdd] at hk
 have hr : Z27 r1 x1 x2 = some r := by rw [lock_eq] at hF; exact hF
 unfold Z27 at hr
 constructor
 (try cbv)
 refine LoopOK.iter T (drawOK T hm) hr (fun | i1 => ⟨mkFr [(1, (.v (.int .i64 x2))), (2, (.ptr 0 0)), (5, (.v (.int .i64 i1)))] 39 0, [(0, .blk 38 [(.rsl (.row 95 (.st [(.int .i64), (.int .i64), (.int .i64)]) r1)), (.v (.int .i64 x1))])], 1⟩) ?_ ?_
 ·exact cl2ec4c
 clear hr
 intro x bb1 hr ht1
 obtain ⟨i1, hz⟩ : ∃ z, z = x := ⟨x, rfl⟩
 subst hz
 as_aux_lemma =>
 constructor
 unfold Z5m at hr
 (try dsimp only at hr)
 (try cbv)
 refine Z2 hr ?_ ?_ <;> intro h1 hr
 ·(try cbv)
  refine Z3 hr fun hr => ?_
  refine Z2 hr ?_ ?_ <;> intro h1 hr
  ·(try cbv)
   refine Z3 hr fun hr => ?_
   refine Z2 hr ?_ ?_ <;> intro h1 hr
   ·(try cbv)
    refine Z3 hr fun hr => ?_
    apply Hidden.out
    exact clb5cb2
   (try cbv)
   apply Hidden.out
   exact clba30f
  (try cbv)
  apply Hidden.out
  exact clba30f
 (try cbv)
 apply Hidden.out
 exact clb5cb2
noncomputable def Zbf : Nat → Option Con := look []
set_option maxHeartbeats 20000000 in
set_option maxRecDepth 100000 in
theorem Zvj (P : Program) (T : Tab P Zbf) (hm : P.follows .mixedOrders = true) : FnVC P Zbf Zje [.t 4] 38 Zgr := by
 intro cargs ccks ce hce hob C hk
 apply Hidden.out
 replace hce : Zcz cargs ccks = some ce := hce
 unfold Zcz at hce
 split at hce; rotate_left; cases hce
 obtain rfl := Option.some.inj hce
 rename_i r1 x1 r2 x2
 refine obh hob fun r hF => ?_
 clear hob hce
 simp only [List.length_cons, List.length_nil, Nat.zero_add, Nat.reduceAdd] at hk
 have hr : Z39 r1 x1 r2 x2 = some r := by rw [lock_eq] at hF; exact hF
 unfold Z39 at hr
 constructor
 (try cbv)
 refine Z9 hr ?_ ?_ <;> intro h1 hr
 ·(try cbv)
  apply Hidden.out
  exact clacd82
 (try cbv)
 refine Z9 hr ?_ ?_ <;> intro h1 hr
 ·(try cbv)
  apply Hidden.out
  exact clacd82
 (try cbv)
 refine LoopOK.iter T (drawOK T hm) hr (fun | i1 => ⟨mkFr [(2, (.ptr 0 0)), (3, (.ptr 1 0)), (5, (.v (.int .i64 i1)))] 38 0, [(0, .blk 38 [(.rsl (.row 95 (.st [(.int .i64), (.int .i64), (.int .i64)]) r1)), (.v (.int .i64 x1))]), (1, .blk 38 [(.rsl (.row 95 (.st [(.int .i64), (.int .i64), (.int .i64)]) r2)), (.v (.int .i64 x2))])], 2⟩) ?_ ?_
 ·exact cl2ec4c
 clear hr
 intro x bb1 hr ht1
 obtain ⟨i1, hz⟩ : ∃ z, z = x := ⟨x, rfl⟩
 subst hz
 as_aux_lemma =>
 constructor
 unfold Z6s at hr
 (try dsimp only at hr)
 (try cbv)
 refine Z2 hr ?_ ?_ <;> intro h1 hr
 ·(try cbv)
  refine Z3 hr fun hr => ?_
  refine Z3 hr fun hr => ?_
  refine Z9 hr ?_ ?_ <;> intro h1 hr
  ·(try cbv)
   apply Hidden.out
   exact clb5cb2
  (try cbv)
  apply Hidden.out
  exact clba30f
 (try cbv)
 apply Hidden.out
 exact clb5cb2
noncomputable def Zao : Nat → Option Con := look [(49, Zgr)]
set_option maxHeartbeats 20000000 in
set_option maxRecDepth 100000 in
theorem Zxk (P : Program) (T : Tab P Zao) (hm : P.follows .mixedOrders = true) : FnVC P Zao Zkd [.t 4] 50 Zg1 := by
 intro cargs ccks ce hce hob C hk
 apply Hidden.out
 replace hce : Zdu cargs ccks = some ce := hce
 unfold Zdu at hce
 split at hce; rotate_left; cases hce
 obtain rfl := Option.some.inj hce
 rename_i s1 b1 r1 r2 x1 s2 b2 r3 r4 x2
 refine obh hob fun r hF => ?_
 clear hob hce
 simp only [List.length_cons, List.length_nil, Nat.zero_add, Nat.reduceAdd] at hk
 have hr : Z1n s1 b1 r1 r2 x1 s2 b2 r3 r4 x2 = some r := by rw [lock_eq] at hF; exact hF
 unfold Z1n at hr
 constructor
 (try cbv)
 refine Z9 hr ?_ ?_ <;> intro h1 hr
 ·(try cbv)
  apply Hidden.out
  exact clacd82
 (try cbv)
 refine Z9 hr ?_ ?_ <;> intro h1 hr
 ·(try cbv)
  apply Hidden.out
  exact clacd82
 (try cbv)
 refine Z9 hr ?_ ?_ <;> intro h1 hr
 ·(try cbv)
  apply Hidden.out
  exact clacd82
 (try cbv)
 refine LoopOK.iter T (drawOK T hm) hr (fun | i1 => ⟨mkFr [(2, (.ptr 0 0)), (3, (.ptr 1 0)), (5, (.v (.int .i64 i1)))] 50 0, [(0, .blk 40 [(.str s1), (.v (.bool b1)), (.rsl (.row 82 (.st [.str, (.int .u64), (.int .u64), (.int .u64), (.int .i64), .bool]) r1)), (.rsl (.row 95 (.st [(.int .i64), (.int .i64), (.int .i64)]) r2)), (.v (.int .i64 x1))]), (1, .blk 40 [(.str s2), (.v (.bool b2)), (.rsl (.row 82 (.st [.str, (.int .u64), (.int .u64), (.int .u64), (.int .i64), .bool]) r3)), (.rsl (.row 95 (.st [(.int .i64), (.int .i64), (.int .i64)]) r4)), (.v (.int .i64 x2))])], 2⟩) ?_ ?_
 ·exact cl2ec4c
 clear hr
 intro x bb1 hr ht1
 obtain ⟨i1, hz⟩ : ∃ z, z = x := ⟨x, rfl⟩
 subst hz
 as_aux_lemma =>
 constructor
 unfold Z6t at hr
 (try dsimp only at hr)
 (try cbv)
 refine Z2 hr ?_ ?_ <;> intro h1 hr
 ·(try cbv)
  refine Z3 hr fun hr => ?_
  refine Z3 hr fun hr => ?_
  refine Z9 hr ?_ ?_ <;> intro h1 hr
  ·(try cbv)
   apply Hidden.out
   exact clb5cb2
  (try cbv)
  apply Hidden.out
  exact clba30f
 (try cbv)
 refine cal hr (by rintro (_) _ <;> cbv) ?_
 rintro c1 hx1 hr
 (try dsimp only at hr); constructor; (try cbv)
 apply Hidden.out
 exact clb5cb2
noncomputable def Z96 : Nat → Option Con := look [(8, Zdb), (9, Z8u), (10, Z8h), (25, Ze2), (21, Z5s), (24, Z8e), (15, Z6x), (20, Zbo), (19, Z9w), (13, Z50), (14, Z76), (12, Za7), (27, Zg8), (23, Zg1)]
set_option maxHeartbeats 20000000 in
set_option maxRecDepth 100000 in
theorem Zr3 (P : Program) (T : Tab P Z96) (hm : P.follows .mixedOrders = true) : FnVC P Z96 Zjj [.t 6] 167 Zms := by
 intro cargs ccks ce hce hob C hk
 apply Hidden.out
 replace hce : Zg4 cargs ccks = some ce := hce
 unfold Zg4 at hce
 split at hce; rotate_left; cases hce
 obtain rfl := Option.some.inj hce
 rename_i r1 r2 x1
 refine obh hob fun r hF => ?_
 clear hob hce
 simp only [List.length_cons, List.length_nil, Nat.zero_add, Nat.reduceAdd] at hk
 have hr : Z3m r1 r2 x1 = some r := by rw [lock_eq] at hF; exact hF
 unfold Z3m at hr
 constructor
 (try cbv)
 refine cal hr (by rintro (_) _ <;> cbv) ?_
 rintro c1 hx1 hr
 (try dsimp only at hr); constructor; (try cbv)
 refine Z9 hr ?_ ?_ <;> intro h1 hr
 ·(try cbv)
  apply Hidden.out
  exact clacd82
 as_aux_lemma =>
 (try cbv)
 refine cal hr (by rintro (_) _ <;> cbv) ?_
 rintro c2 hx2 hr
 (try dsimp only at hr); constructor; (try cbv)
 refine Z9 hr ?_ ?_ <;> intro h1 hr
 ·(try cbv)
  apply Hidden.out
  exact clacd82
 as_aux_lemma =>
 (try cbv)
 refine Z3 hr fun hr => ?_
 refine cal hr (by rintro (_ | ⟨_, _, _, _, _, _⟩) _ <;> cbv) ?_
 rintro (_ | ⟨q1, q2, k1, q3, m1, m2⟩) hx3 hr
 all_goals ((try dsimp only at hr); constructor; (try cbv))
 ·apply Hidden.out
  exact clacd82
 refine LoopOK.iter T (drawOK T hm) hr (fun | (i1, s1, b1, i2, i3, r3, r4, n1, i4, b2, r5, l1, l2) => ⟨mkFr [(0, (.rsl (.row 33 (.st [.str, .bool, (.row 83 (.st [.str, (.int .u64), (.int .u64), (.int .u64), (.int .i64), .bool])), (.st [(.row 96 (.st [(.int .i64), (.int .i64), (.int .i64)])), (.int .i64)])]) r1))), (1, (.rsl (.row 58 (.st [(.int .i64), (.int .i64), (.int .i64), (.int .u64), (.int .u8)]) r2))), (2, (.v (.int .u8 x1))), (9, (.ptr 0 0)), (10, (.v (.int .i64 i1)))] 167 0, [(0, .blk 92 [(.str s1), (.v (.bool b1)), (.wsl 1), (.wsl 2), (.v (.int .i64 i2)), (.v (.int .u64 i3)), (.wsl 3), (.ptr 4 0)]), (1, .row (.row 83 (.st [.str, (.int .u64), (.int .u64), (.int .u64), (.int .i64), .bool]) r3)), (2, .row (.row 96 (.st [(.int .i64), (.int .i64), (.int .i64)]) r4)), (3, .prow 98 tm98 n1 5), (4, .blk 169 [(.wsl 6), (.v (.int .i64 i4)), (.v (.bool b2)), (.wsl 7)]), (5, .gho tm98 r5 none), (6, .row (.ints 46 .u64 l1)), (7, .row (.ints 46 .u64 l2))], 8⟩) ?_ ?_
 ·exact cl68ede
 clear hr
 intro x bb1 hr ht1
 obtain ⟨i1, s1, b1, i2, i3, r3, r4, n1, i4, b2, r5, l1, l2⟩ := x
 as_aux_lemma =>
 constructor
 unfold Z59 at hr
 (try dsimp only at hr)
 (try cbv)
 refine Z2 hr ?_ ?_ <;> intro h1 hr
 ·(try cbv)
  refine Z3 hr fun hr => ?_
  refine cal hr (by rintro (⟨_, _, _, _, _, _, _, _, _, _, _, _, _, _, _, _, _, _⟩) _ <;> cbv) ?_
  rintro ⟨y19, y20, y21, y22, y23, y24, t3, c7, y25, y26, q10, q11, k4, y27, c8, q12, m7, m8⟩ hx6 hr
  (try dsimp only at hr); constructor; (try cbv)
  apply Hidden.out
  exact cl986f7
 as_aux_lemma =>
 (try cbv)
 refine cal hr (by rintro (⟨_, _, _, _⟩) _ <;> cbv) ?_
 rintro ⟨m9, m10, q13, q14⟩ hx7 hr
 (try dsimp only at hr); constructor; (try cbv)
 refine cal hr (by rintro (⟨_, _⟩) _ <;> cbv) ?_
 rintro ⟨q15, q16⟩ hx8 hr
 (try dsimp only at hr); constructor; (try cbv)
 refine Z54 hr fun hr => ?_
 refine Z3 hr fun hr => ?_
 refine cal hr (by rintro (⟨_, _, _, _, _, _, _, _, _, _, _, _⟩) _ <;> cbv) ?_
 rintro ⟨y28, t4, c9, y29, q17, q18, k5, y30, c10, q19, m11, m12⟩ hx9 hr
 (try dsimp only at hr); constructor; (try cbv)
 refine cal hr (by rintro (⟨_, _, _, _⟩) _ <;> cbv) ?_
 rintro ⟨m13, m14, q20, q21⟩ hx10 hr
 (try dsimp only at hr); constructor; (try cbv)
 refine cald hr (by rintro (_) _ <;> cbv) ?_
 rintro _ hx11 hr
 (try dsimp only at hr); constructor; (try cbv)
 refine cald hr (by rintro (_) _ <;> cbv) ?_
 rintro _ hx12 hr
 (try dsimp only at hr); constructor; (try cbv)
 refine cald hr (by rintro (_) _ <;> cbv) ?_
 rintro c11 hx13 hr
 (try dsimp only at hr); constructor; (try cbv)
 apply Hidden.out
 rcases Bool.eq_false_or_eq_true (ieq y28 (0 : Int)) with h1 | h1
 ·constructor
  rw [if_pos h1] at hr
  have h2 : (lock ieq y28 (0 : Int)) = true := by simp only [lock_eq]; exact h1
  simp only [relock, h2]
  (try cbv)
  refine cald hr (by rintro (⟨_, _⟩) _ <;> cbv) ?_
  rintro ⟨q22, q23⟩ hx14 hr
  (try dsimp only at hr); constructor; (try cbv)
  refine cald hr (by rintro (⟨_, _, _, _, _, _, _, _, _, _, _, _⟩) _ <;> cbv) ?_
  rintro ⟨y31, t5, c12, y32, q24, q25, k6, y33, c13, q26, m15, m16⟩ hx15 hr
  (try dsimp only at hr); constructor; (try cbv)
  apply Hidden.out
  rcases Bool.eq_false_or_eq_true (ieq y31 (0 : Int)) with h1 | h1
  ·constructor
   rw [if_pos h1] at hr
   have h2 : (lock ieq y31 (0 : Int)) = true := by simp only [lock_eq]; exact h1
   simp only [relock, h2]
   (try cbv)
   refine cald hr (by rintro (⟨_, _, _, _⟩) _ <;> cbv) ?_
   rintro ⟨m17, m18, q27, q28⟩ hx16 hr
   (try dsimp only at hr); constructor; (try cbv)
   refine cald hr (by rintro (_) _ <;> cbv) ?_
   rintro _ hx17 hr
   (try dsimp only at hr); constructor; (try cbv)
   refine ⟨(by simp only [K0, K1]; exact ⟨_, hx12⟩), obl.2 (by simp only [K0, K1]; exact ⟨_, hx12⟩), (by rintro (_) _ <;> cbv), ?_⟩
   intro qq hx
   simp only [K0, K1] at hx
   obtain rfl := Option.some.inj (hx12.symm.trans hx)
   constructor
   (try cbv)
   refine cald hr (by rintro (_) _ <;> cbv) ?_
   rintro c14 hx19 hr
   (try dsimp only at hr); constructor; (try cbv)
   refine Z9 hr ?_ ?_ <;> intro h1 hr
   ·(try cbv)
    apply Hidden.out
    exact clb5cb2
   as_aux_lemma =>
   (try cbv)
   refine cal hr (by rintro (_) _ <;> cbv) ?_
   rintro c15 hx20 hr
   (try dsimp only at hr); constructor; (try cbv)
   refine Z9 hr ?_ ?_ <;> intro h1 hr
   ·(try cbv)
    apply Hidden.out
    exact clb5cb2
   as_aux_lemma =>
   (try cbv)
   refine cal hr (by rintro (⟨_, _⟩) _ <;> cbv) ?_
   rintro ⟨y34, q29⟩ hx21 hr
   (try dsimp only at hr); constructor; (try cbv)
   refine cal hr (by rintro (⟨_, _, _, _, _, _, _, _, _, _, _, _⟩) _ <;> cbv) ?_
   rintro ⟨y35, t6, c16, y36, q30, q31, k7, y37, c17, q32, m19, m20⟩ hx22 hr
   (try dsimp only at hr); constructor; (try cbv)
   refine cal hr (by rintro (⟨_, _, _, _⟩) _ <;> cbv) ?_
   rintro ⟨m21, m22, q33, q34⟩ hx23 hr
   (try dsimp only at hr); constructor; (try cbv)
   refine cal hr (by rintro (⟨_, _⟩) _ <;> cbv) ?_
   rintro ⟨q35, q36⟩ hx24 hr
   (try dsimp only at hr); constructor; (try cbv)
   apply Hidden.out
   obtain ⟨t, hr2, hw⟩ := Z16 hr
   clear hr
   subst hw
   have e := (ht1 _ rfl).symm
   subst e
   have hr := hr2
   clear hr2
   constructor
   refine LoopOK.iter T (drawOK T hm) hr (fun | (i6, i7) => ⟨mkFr [(9, (.ptr 0 0)), (13, (.ptr 1 0)), (17, (.v (.int .i64 i6))), (18, (.v (.int .i64 y35))), (19, (.rsl (.row 72 (.row 75 (.st [(.int .u64), (.int .i64), (.int .i64)])) q33))), (20, (.ptr 2 0)), (21, (.v (.int .i64 i7)))] 167 0, [(0, .blk 92 [(.str t6), (.v (.bool c16)), (.wsl 3), (.wsl 4), (.v (.int .i64 y36)), (.v (.int .u64 i3)), (.wsl 5), (.ptr 6 0)]), (1, .blk 33 [(.str (lock D.toS (lock D.fld (lock getD r1 (lock toN (lock irem (lock iconv .i64 x1) (lock ofN (lock (@xlen D) r1))))) 0))), (.v (.bool (lock D.toB (lock D.fld (lock getD r1 (lock toN (lock irem (lock iconv .i64 x1) (lock ofN (lock (@xlen D) r1))))) 1)))), (.rsl (.row 83 (.st [.str, (.int .u64), (.int .u64), (.int .u64), (.int .i64), .bool]) (lock D.toL (lock D.fld (lock getD r1 (lock toN (lock irem (lock iconv .i64 x1) (lock ofN (lock (@xlen D) r1))))) 2)))), (.rsl (.row 96 (.st [(.int .i64), (.int .i64), (.int .i64)]) (lock D.toL (lock D.fld (lock D.fld (lock getD r1 (lock toN (lock irem (lock iconv .i64 x1) (lock ofN (lock (@xlen D) r1))))) 3) 0)))), (.v (.int .i64 (lock D.toI (lock D.fld (lock D.fld (lock getD r1 (lock toN (lock irem (lock iconv .i64 x1) (lock ofN (lock (@xlen D) r1))))) 3) 1))))]), (2, .blk 38 [(.rsl (.row 95 (.st [(.int .i64), (.int .i64), (.int .i64)]) q36)), (.v (.int .i64 (lock D.toI (lock D.fld (lock D.fld (lock getD r1 (lock toN (lock irem (lock iconv .i64 x1) (lock ofN (lock (@xlen D) r1))))) 3) 1))))]), (3, .row (.row 83 (.st [.str, (.int .u64), (.int .u64), (.int .u64), (.int .i64), .bool]) q30)), (4, .row (.row 96 (.st [(.int .i64), (.int .i64), (.int .i64)]) q31)), (5, .prow 98 tm98 k7 7), (6, .blk 169 [(.wsl 8), (.v (.int .i64 y37)), (.v (.bool c17)), (.wsl 9)]), (7, .gho tm98 q34 none), (8, .row (.ints 46 .u64 m19)), (9, .row (.ints 46 .u64 m20))], 10⟩) ?_ ?_
   ·exact cl1df3b
   clear hr
   intro x bb1 hr ht1
   obtain ⟨i6, i7⟩ := x
   as_aux_lemma =>
   constructor
   unfold Z2b at hr
   (try dsimp only at hr)
   (try cbv)
   refine Z2 hr ?_ ?_ <;> intro h1 hr
   ·(try cbv)
    refine Z3 hr fun hr => ?_
    refine LoopOK.iter T (drawOK T hm) hr (fun | i9 => ⟨mkFr [(9, (.ptr 0 0)), (13, (.ptr 1 0)), (17, (.v (.int .i64 (lock isub .i64 i6 (lock ofN (lock (@xlen D) (lock D.toL (lock getD q33 (lock toN i7))))))))), (18, (.v (.int .i64 y35))), (19, (.rsl (.row 72 (.row 75 (.st [(.int .u64), (.int .i64), (.int .i64)])) q33))), (20, (.ptr 2 0)), (21, (.v (.int .i64 i7))), (22, (.v (.int .i64 i9)))] 167 0, [(0, .blk 92 [(.str t6), (.v (.bool c16)), (.wsl 3), (.wsl 4), (.v (.int .i64 y36)), (.v (.int .u64 i3)), (.wsl 5), (.ptr 6 0)]), (1, .blk 33 [(.str (lock D.toS (lock D.fld (lock getD r1 (lock toN (lock irem (lock iconv .i64 x1) (lock ofN (lock (@xlen D) r1))))) 0))), (.v (.bool (lock D.toB (lock D.fld (lock getD r1 (lock toN (lock irem (lock iconv .i64 x1) (lock ofN (lock (@xlen D) r1))))) 1)))), (.rsl (.row 83 (.st [.str, (.int .u64), (.int .u64), (.int .u64), (.int .i64), .bool]) (lock D.toL (lock D.fld (lock getD r1 (lock toN (lock irem (lock iconv .i64 x1) (lock ofN (lock (@xlen D) r1))))) 2)))), (.rsl (.row 96 (.st [(.int .i64), (.int .i64), (.int .i64)]) (lock D.toL (lock D.fld (lock D.fld (lock getD r1 (lock toN (lock irem (lock iconv .i64 x1) (lock ofN (lock (@xlen D) r1))))) 3) 0)))), (.v (.int .i64 (lock D.toI (lock D.fld (lock D.fld (lock getD r1 (lock toN (lock irem (lock iconv .i64 x1) (lock ofN (lock (@xlen D) r1))))) 3) 1))))]), (2, .blk 38 [(.rsl (.row 95 (.st [(.int .i64), (.int .i64), (.int .i64)]) q36)), (.v (.int .i64 (lock D.toI (lock D.fld (lock D.fld (lock getD r1 (lock toN (lock irem (lock iconv .i64 x1) (lock ofN (lock (@xlen D) r1))))) 3) 1))))]), (3, .row (.row 83 (.st [.str, (.int .u64), (.int .u64), (.int .u64), (.int .i64), .bool]) q30)), (4, .row (.row 96 (.st [(.int .i64), (.int .i64), (.int .i64)]) q31)), (5, .prow 98 tm98 k7 7), (6, .blk 169 [(.wsl 8), (.v (.int .i64 y37)), (.v (.bool c17)), (.wsl 9)]), (7, .gho tm98 q34 none), (8, .row (.ints 46 .u64 m19)), (9, .row (.ints 46 .u64 m20))], 10⟩) ?_ ?_
    ·exact cl2ec4c
    clear hr
    intro x bb2 hr ht2
    obtain ⟨i9, hz⟩ : ∃ z, z = x := ⟨x, rfl⟩
    subst hz
    as_aux_lemma =>
    constructor
    unfold Z4v at hr
    (try dsimp only at hr)
    (try cbv)
    refine Z3 hr fun hr => ?_
    refine Z2 hr ?_ ?_ <;> intro h1 hr
    ·(try cbv)
     refine Z3 hr fun hr => ?_
     refine Z3 hr fun hr => ?_
     refine cald hr (by rintro (_) _ <;> cbv) ?_
     rintro y46 hx33 hr
     (try dsimp only at hr); constructor; (try cbv)
     refine Z9 hr ?_ ?_ <;> intro h1 hr
     ·(try cbv)
      apply Hidden.out
      exact cl5a7c6
     (try cbv)
     apply Hidden.out
     exact clba30f
    (try cbv)
    apply Hidden.out
    exact cl6c4af
   (try cbv)
   apply Hidden.out
   rcases Bool.eq_false_or_eq_true (ieq y35 (0 : Int)) with h1 | h1
   ·constructor
    rw [if_pos h1] at hr
    have h2 : (lock ieq y35 (0 : Int)) = true := by simp only [lock_eq]; exact h1
    simp only [relock, h2]
    (try cbv)
    apply Hidden.out
    rcases Bool.eq_false_or_eq_true (ieq i6 (0 : Int)) with h1 | h1
    ·constructor
     rw [if_pos h1] at hr
     have h2 : (lock ieq i6 (0 : Int)) = true := by simp only [lock_eq]; exact h1
     simp only [relock, h2]
     (try cbv)
     refine cald hr (by rintro (⟨_, _⟩) _ <;> cbv) ?_
     rintro ⟨q37, q38⟩ hx34 hr
     (try dsimp only at hr); constructor; (try cbv)
     refine cald hr (by rintro (⟨_, _⟩) _ <;> cbv) ?_
     rintro ⟨q39, q40⟩ hx35 hr
     (try dsimp only at hr); constructor; (try cbv)
     refine cald hr (by rintro (⟨_, _⟩) _ <;> cbv) ?_
     rintro ⟨q41, q42⟩ hx36 hr
     (try dsimp only at hr); constructor; (try cbv)
     refine cald hr (by rintro (_) _ <;> cbv) ?_
     rintro c18 hx37 hr
     (try dsimp only at hr); constructor; (try cbv)
     apply Hidden.out
     exact clb5cb2
    constructor
    rw [if_neg (by rw [h1]; exact Bool.false_ne_true)] at hr
    have h2 : (lock ieq i6 (0 : Int)) = false := by simp only [lock_eq]; exact h1
    simp only [relock, h2]
    (try cbv)
    apply Hidden.out
    exact clb5cb2
   constructor
   rw [if_neg (by rw [h1]; exact Bool.false_ne_true)] at hr
   have h2 : (lock ieq y35 (0 : Int)) = false := by simp only [lock_eq]; exact h1
   simp only [relock, h2]
   (try cbv)
   apply Hidden.out
   exact clb5cb2
  constructor
  rw [if_neg (by rw [h1]; exact Bool.false_ne_true)] at hr
  have h2 : (lock ieq y31 (0 : Int)) = false := by simp only [lock_eq]; exact h1
  simp only [relock, h2]
  (try cbv)
  apply Hidden.out
  exact clb5cb2
 constructor
 rw [if_neg (by rw [h1]; exact Bool.false_ne_true)] at hr
 have h2 : (lock ieq y28 (0 : Int)) = false := by simp only [lock_eq]; exact h1
 simp only [relock, h2]
 (try cbv)
 apply Hidden.out
 rcases Bool.eq_false_or_eq_true c11 with h1 | h1
 ·constructor
  rw [if_pos h1] at hr
  subst h1
  (try cbv)
  refine cald hr (by rintro (⟨_, _⟩) _ <;> cbv) ?_
  rintro ⟨q43, q44⟩ hx38 hr
  (try dsimp only at hr); constructor; (try cbv)
  refine cald hr (by rintro (⟨_, _⟩) _ <;> cbv) ?_
  rintro ⟨q45, q46⟩ hx39 hr
  (try dsimp only at hr); constructor; (try cbv)
  refine cald hr (by rintro (⟨_, _⟩) _ <;> cbv) ?_
  rintro ⟨q47, q48⟩ hx40 hr
  (try dsimp only at hr); constructor; (try cbv)
  refine cald hr (by rintro (_) _ <;> cbv) ?_
  rintro c19 hx41 hr
  (try dsimp only at hr); constructor; (try cbv)
  apply Hidden.out
  rcases Bool.eq_false_or_eq_true c19 with h1 | h1
  ·constructor
   rw [if_pos h1] at hr
   subst h1
   (try cbv)
   refine ⟨(by simp only [K0, K1]; exact ⟨_, hx38⟩), obl.2 (by simp only [K0, K1]; exact ⟨_, hx38⟩), (by rintro (⟨_, _⟩) _ <;> cbv), ?_⟩
   intro qq hx
   simp only [K0, K1] at hx
   obtain rfl := Option.some.inj (hx38.symm.trans hx)
   constructor
   (try cbv)
   refine cald hr (by rintro (⟨_, _, _, _, _, _, _, _, _, _, _, _⟩) _ <;> cbv) ?_
   rintro ⟨y47, t7, c20, y48, q49, q50, k8, y49, c21, q51, m23, m24⟩ hx43 hr
   (try dsimp only at hr); constructor; (try cbv)
   apply Hidden.out
   rcases Bool.eq_false_or_eq_true (ieq y47 (0 : Int)) with h1 | h1
   ·constructor
    rw [if_pos h1] at hr
    have h2 : (lock ieq y47 (0 : Int)) = true := by simp only [lock_eq]; exact h1
    simp only [relock, h2]
    (try cbv)
    refine cald hr (by rintro (⟨_, _, _, _⟩) _ <;> cbv) ?_
    rintro ⟨m25, m26, q52, q53⟩ hx44 hr
    (try dsimp only at hr); constructor; (try cbv)
    refine cald hr (by rintro (_) _ <;> cbv) ?_
    rintro _ hx45 hr
    (try dsimp only at hr); constructor; (try cbv)
    refine ⟨(by simp only [K0, K1]; exact ⟨_, hx12⟩), obl.2 (by simp only [K0, K1]; exact ⟨_, hx12⟩), (by rintro (_) _ <;> cbv), ?_⟩
    intro qq hx
    simp only [K0, K1] at hx
    obtain rfl := Option.some.inj (hx12.symm.trans hx)
    constructor
    (try cbv)
    refine cald hr (by rintro (_) _ <;> cbv) ?_
    rintro c22 hx47 hr
    (try dsimp only at hr); constructor; (try cbv)
    refine Z9 hr ?_ ?_ <;> intro h1 hr
    ·(try cbv)
     apply Hidden.out
     exact clb5cb2
    as_aux_lemma =>
    (try cbv)
    refine cal hr (by rintro (_) _ <;> cbv) ?_
    rintro c23 hx48 hr
    (try dsimp only at hr); constructor; (try cbv)
    refine Z9 hr ?_ ?_ <;> intro h1 hr
    ·(try cbv)
     apply Hidden.out
     exact clb5cb2
    as_aux_lemma =>
    (try cbv)
    refine cal hr (by rintro (⟨_, _⟩) _ <;> cbv) ?_
    rintro ⟨y50, q54⟩ hx49 hr
    (try dsimp only at hr); constructor; (try cbv)
    refine cal hr (by rintro (⟨_, _, _, _, _, _, _, _, _, _, _, _⟩) _ <;> cbv) ?_
    rintro ⟨y51, t8, c24, y52, q55, q56, k9, y53, c25, q57, m27, m28⟩ hx50 hr
    (try dsimp only at hr); constructor; (try cbv)
    refine cal hr (by rintro (⟨_, _, _, _⟩) _ <;> cbv) ?_
    rintro ⟨m29, m30, q58, q59⟩ hx51 hr
    (try dsimp only at hr); constructor; (try cbv)
    refine cal hr (by rintro (⟨_, _⟩) _ <;> cbv) ?_
    rintro ⟨q60, q61⟩ hx52 hr
    (try dsimp only at hr); constructor; (try cbv)
    apply Hidden.out
    obtain ⟨t, hr2, hw⟩ := Z16 hr
    clear hr
    subst hw
    have e := (ht1 _ rfl).symm
    subst e
    have hr := hr2
    clear hr2
    constructor
    refine LoopOK.iter T (drawOK T hm) hr (fun | (i11, i12) => ⟨mkFr [(9, (.ptr 0 0)), (13, (.ptr 1 0)), (17, (.v (.int .i64 i11))), (18, (.v (.int .i64 y51))), (19, (.rsl (.row 72 (.row 75 (.st [(.int .u64), (.int .i64), (.int .i64)])) q58))), (20, (.ptr 2 0)), (21, (.v (.int .i64 i12)))] 167 0, [(0, .blk 92 [(.str t8), (.v (.bool c24)), (.wsl 3), (.wsl 4), (.v (.int .i64 y52)), (.v (.int .u64 i3)), (.wsl 5), (.ptr 6 0)]), (1, .blk 33 [(.str (lock D.toS (lock D.fld (lock getD r1 (lock toN (lock irem (lock iconv .i64 x1) (lock ofN (lock (@xlen D) r1))))) 0))), (.v (.bool (lock D.toB (lock D.fld (lock getD r1 (lock toN (lock irem (lock iconv .i64 x1) (lock ofN (lock (@xlen D) r1))))) 1)))), (.rsl (.row 83 (.st [.str, (.int .u64), (.int .u64), (.int .u64), (.int .i64), .bool]) (lock D.toL (lock D.fld (lock getD r1 (lock toN (lock irem (lock iconv .i64 x1) (lock ofN (lock (@xlen D) r1))))) 2)))), (.rsl (.row 96 (.st [(.int .i64), (.int .i64), (.int .i64)]) (lock D.toL (lock D.fld (lock D.fld (lock getD r1 (lock toN (lock irem (lock iconv .i64 x1) (lock ofN (lock (@xlen D) r1))))) 3) 0)))), (.v (.int .i64 (lock D.toI (lock D.fld (lock D.fld (lock getD r1 (lock toN (lock irem (lock iconv .i64 x1) (lock ofN (lock (@xlen D) r1))))) 3) 1))))]), (2, .blk 38 [(.rsl (.row 95 (.st [(.int .i64), (.int .i64), (.int .i64)]) q61)), (.v (.int .i64 (lock D.toI (lock D.fld (lock D.fld (lock getD r1 (lock toN (lock irem (lock iconv .i64 x1) (lock ofN (lock (@xlen D) r1))))) 3) 1))))]), (3, .row (.row 83 (.st [.str, (.int .u64), (.int .u64), (.int .u64), (.int .i64), .bool]) q55)), (4, .row (.row 96 (.st [(.int .i64), (.int .i64), (.int .i64)]) q56)), (5, .prow 98 tm98 k9 7), (6, .blk 169 [(.wsl 8), (.v (.int .i64 y53)), (.v (.bool c25)), (.wsl 9)]), (7, .gho tm98 q59 none), (8, .row (.ints 46 .u64 m27)), (9, .row (.ints 46 .u64 m28))], 10⟩) ?_ ?_
    ·exact cl1df3b
    clear hr
    intro x bb1 hr ht1
    obtain ⟨i11, i12⟩ := x
    as_aux_lemma =>
    constructor
    unfold Zb5 at hr
    (try dsimp only at hr)
    (try cbv)
    refine Z2 hr ?_ ?_ <;> intro h1 hr
    ·(try cbv)
     refine Z3 hr fun hr => ?_
     refine LoopOK.iter T (drawOK T hm) hr (fun | i14 => ⟨mkFr [(9, (.ptr 0 0)), (13, (.ptr 1 0)), (17, (.v (.int .i64 (lock isub .i64 i11 (lock ofN (lock (@xlen D) (lock D.toL (lock getD q58 (lock toN i12))))))))), (18, (.v (.int .i64 y51))), (19, (.rsl (.row 72 (.row 75 (.st [(.int .u64), (.int .i64), (.int .i64)])) q58))), (20, (.ptr 2 0)), (21, (.v (.int .i64 i12))), (22, (.v (.int .i64 i14)))] 167 0, [(0, .blk 92 [(.str t8), (.v (.bool c24)), (.wsl 3), (.wsl 4), (.v (.int .i64 y52)), (.v (.int .u64 i3)), (.wsl 5), (.ptr 6 0)]), (1, .blk 33 [(.str (lock D.toS (lock D.fld (lock getD r1 (lock toN (lock irem (lock iconv .i64 x1) (lock ofN (lock (@xlen D) r1))))) 0))), (.v (.bool (lock D.toB (lock D.fld (lock getD r1 (lock toN (lock irem (lock iconv .i64 x1) (lock ofN (lock (@xlen D) r1))))) 1)))), (.rsl (.row 83 (.st [.str, (.int .u64), (.int .u64), (.int .u64), (.int .i64), .bool]) (lock D.toL (lock D.fld (lock getD r1 (lock toN (lock irem (lock iconv .i64 x1) (lock ofN (lock (@xlen D) r1))))) 2)))), (.rsl (.row 96 (.st [(.int .i64), (.int .i64), (.int .i64)]) (lock D.toL (lock D.fld (lock D.fld (lock getD r1 (lock toN (lock irem (lock iconv .i64 x1) (lock ofN (lock (@xlen D) r1))))) 3) 0)))), (.v (.int .i64 (lock D.toI (lock D.fld (lock D.fld (lock getD r1 (lock toN (lock irem (lock iconv .i64 x1) (lock ofN (lock (@xlen D) r1))))) 3) 1))))]), (2, .blk 38 [(.rsl (.row 95 (.st [(.int .i64), (.int .i64), (.int .i64)]) q61)), (.v (.int .i64 (lock D.toI (lock D.fld (lock D.fld (lock getD r1 (lock toN (lock irem (lock iconv .i64 x1) (lock ofN (lock (@xlen D) r1))))) 3) 1))))]), (3, .row (.row 83 (.st [.str, (.int .u64), (.int .u64), (.int .u64), (.int .i64), .bool]) q55)), (4, .row (.row 96 (.st [(.int .i64), (.int .i64), (.int .i64)]) q56)), (5, .prow 98 tm98 k9 7), (6, .blk 169 [(.wsl 8), (.v (.int .i64 y53)), (.v (.bool c25)), (.wsl 9)]), (7, .gho tm98 q59 none), (8, .row (.ints 46 .u64 m27)), (9, .row (.ints 46 .u64 m28))], 10⟩) ?_ ?_
     ·exact cl2ec4c
     clear hr
     intro x bb2 hr ht2
     obtain ⟨i14, hz⟩ : ∃ z, z = x := ⟨x, rfl⟩
     subst hz
     as_aux_lemma =>
     constructor
     unfold Zjy at hr
     (try dsimp only at hr)
     (try cbv)
     refine Z3 hr fun hr => ?_
     refine Z2 hr ?_ ?_ <;> intro h1 hr
     ·(try cbv)
      refine Z3 hr fun hr => ?_
      refine Z3 hr fun hr => ?_
      refine cald hr (by rintro (_) _ <;> cbv) ?_
      rintro y62 hx61 hr
      (try dsimp only at hr); constructor; (try cbv)
      refine Z9 hr ?_ ?_ <;> intro h1 hr
      ·(try cbv)
       apply Hidden.out
       exact cl5a7c6
      (try cbv)
      apply Hidden.out
      exact clba30f
     (try cbv)
     apply Hidden.out
     exact cl6c4af
    (try cbv)
    apply Hidden.out
    rcases Bool.eq_false_or_eq_true (ieq y51 (0 : Int)) with h1 | h1
    ·constructor
     rw [if_pos h1] at hr
     have h2 : (lock ieq y51 (0 : Int)) = true := by simp only [lock_eq]; exact h1
     simp only [relock, h2]
     (try cbv)
     apply Hidden.out
     rcases Bool.eq_false_or_eq_true (ieq i11 (0 : Int)) with h1 | h1
     ·constructor
      rw [if_pos h1] at hr
      have h2 : (lock ieq i11 (0 : Int)) = true := by simp only [lock_eq]; exact h1
      simp only [relock, h2]
      (try cbv)
      refine cald hr (by rintro (⟨_, _⟩) _ <;> cbv) ?_
      rintro ⟨q62, q63⟩ hx62 hr
      (try dsimp only at hr); constructor; (try cbv)
      refine cald hr (by rintro (⟨_, _⟩) _ <;> cbv) ?_
      rintro ⟨q64, q65⟩ hx63 hr
      (try dsimp only at hr); constructor; (try cbv)
      refine cald hr (by rintro (⟨_, _⟩) _ <;> cbv) ?_
      rintro ⟨q66, q67⟩ hx64 hr
      (try dsimp only at hr); constructor; (try cbv)
      refine cald hr (by rintro (_) _ <;> cbv) ?_
      rintro c26 hx65 hr
      (try dsimp only at hr); constructor; (try cbv)
      apply Hidden.out
      exact clb5cb2
     constructor
     rw [if_neg (by rw [h1]; exact Bool.false_ne_true)] at hr
     have h2 : (lock ieq i11 (0 : Int)) = false := by simp only [lock_eq]; exact h1
     simp only [relock, h2]
     (try cbv)
     apply Hidden.out
     exact clb5cb2
    constructor
    rw [if_neg (by rw [h1]; exact Bool.false_ne_true)] at hr
    have h2 : (lock ieq y51 (0 : Int)) = false := by simp only [lock_eq]; exact h1
    simp only [relock, h2]
    (try cbv)
    apply Hidden.out
    exact clb5cb2
   constructor
   rw [if_neg (by rw [h1]; exact Bool.false_ne_true)] at hr
   have h2 : (lock ieq y47 (0 : Int)) = false := by simp only [lock_eq]; exact h1
   simp only [relock, h2]
   (try cbv)
   apply Hidden.out
   exact clb5cb2
  constructor
  rw [if_neg (by rw [h1]; exact Bool.false_ne_true)] at hr
  subst h1
  (try cbv)
  apply Hidden.out
  exact clb5cb2
 constructor
 rw [if_neg (by rw [h1]; exact Bool.false_ne_true)] at hr
 subst h1
 (try cbv)
 apply Hidden.out
 exact clb5cb2
theorem mixed : Try.prog.follows .mixedOrders = true := by kernel_rfl
theorem Zjw : Tab Try.prog Zc9 := Tab.nil _
theorem Zwh : FnOK Try.prog 32 Z9m := FnOK.of Zjw mixed Try.func32 Zwq (Zt8 _ Zjw mixed)
theorem Zny : Tab Try.prog Zdp := Tab.cons (Tab.nil _) Zwh Try.func32 rfl rfl
theorem Z82 : FnOK Try.prog 13 Z50 := FnOK.of Zny mixed Try.func13 Zrp (Ztv _ Zny mixed)
theorem Zi3 : Tab Try.prog Z93 := Tab.nil _
theorem Zzd : FnOK Try.prog 78 Zde := FnOK.of Zi3 mixed Try.func78 Zqx (Zs6 _ Zi3 mixed)
theorem Zhg : Tab Try.prog Zf2 := Tab.nil _
theorem Zw6 : FnOK Try.prog 79 Zcc := FnOK.of Zhg mixed Try.func79 Zyg (Zpy _ Zhg mixed)
theorem Zjc : Tab Try.prog Zab := Tab.cons (Tab.cons (Tab.nil _) Zw6 Try.func79 rfl rfl) Zzd Try.func78 rfl rfl
theorem Zh7 : FnOK Try.prog 50 Z74 := FnOK.of Zjc mixed Try.func50 Ztw (Zxg _ Zjc mixed)
theorem Zm1 : Tab Try.prog Z9s := Tab.nil _
theorem Zxh : FnOK Try.prog 60 Zay := FnOK.of Zm1 mixed Try.func60 Zpw (Zsm _ Zm1 mixed)
theorem Zj9 : Tab Try.prog Zfq := Tab.nil _
theorem Zv5 : FnOK Try.prog 61 Zfy := FnOK.of Zj9 mixed Try.func61 Zqf (Zsf _ Zj9 mixed)
theorem Zia : Tab Try.prog Zec := Tab.nil _
theorem Zpp : FnOK Try.prog 89 Z99 := FnOK.of Zia mixed Try.func89 Zzy (Z100 _ Zia mixed)
theorem Zj2 : Tab Try.prog Zew := Tab.cons (Tab.nil _) Zpp Try.func89 rfl rfl
theorem Zwz : FnOK Try.prog 62 Zb9 := FnOK.of Zj2 mixed Try.func62 Zsp (Zxs _ Zj2 mixed)
theorem Zkt : Tab Try.prog Zek := Tab.cons (Tab.cons (Tab.cons (Tab.cons (Tab.nil _) Zwz Try.func62 rfl rfl) Zv5 Try.func61 rfl rfl) Zxh Try.func60 rfl rfl) Zh7 Try.func50 rfl rfl
theorem Zn8 : FnOK Try.prog 31 Z77 := FnOK.of Zkt mixed Try.func31 Zum (Ztz _ Zkt mixed)
theorem Zh2 : Tab Try.prog Zee := Tab.cons (Tab.cons (Tab.nil _) Zn8 Try.func31 rfl rfl) Z82 Try.func13 rfl rfl
theorem Zo3 : FnOK Try.prog 10 Z8h := FnOK.of Zh2 mixed Try.func10 Zxf (Zz7 _ Zh2 mixed)
theorem Ziu : Tab Try.prog Zbv := Tab.nil _
theorem Zvc : FnOK Try.prog 81 Z8z := FnOK.of Ziu mixed Try.func81 Zrc (Zyy _ Ziu mixed)
theorem Zkn : Tab Try.prog Zdx := Tab.cons (Tab.nil _) Zvc Try.func81 rfl rfl
theorem Zy2 : FnOK Try.prog 80 Z9p := FnOK.of Zkn mixed Try.func80 Z10n (Zuc _ Zkn mixed)
theorem Zlb : Tab Try.prog Zck := Tab.cons (Tab.nil _) Zy2 Try.func80 rfl rfl
theorem Zhk : FnOK Try.prog 51 Z7a := FnOK.of Zlb mixed Try.func51 Zss (Zx4 _ Zlb mixed)
theorem Zmm : Tab Try.prog Zf8 := Tab.nil _
theorem Zxw : FnOK Try.prog 91 Zau := FnOK.of Zmm mixed Try.func91 Zvo (Z104 _ Zmm mixed)
theorem Zlj : Tab Try.prog Zcy := Tab.nil _
theorem Z8w : FnOK Try.prog 85 Z5u := FnOK.of Zlj mixed Try.func85 Zyn (Zq8 _ Zlj mixed)
theorem Zlr : Tab Try.prog Zfx := Tab.cons (Tab.cons (Tab.nil _) Z8w Try.func85 rfl rfl) Zxw Try.func91 rfl rfl
theorem Zgs : FnOK Try.prog 67 Z83 := FnOK.of Zlr mixed Try.func67 Z109 (Z10g _ Zlr mixed)
theorem Ziq : Tab Try.prog Zdn := Tab.cons (Tab.nil _) Zgs Try.func67 rfl rfl
theorem Zy7 : FnOK Try.prog 52 Zc6 := FnOK.of Ziq mixed Try.func52 Zx2 (Zu0 _ Ziq mixed)
theorem Ziw : Tab Try.prog Z95 := Tab.cons (Tab.cons (Tab.nil _) Zy7 Try.func52 rfl rfl) Zhk Try.func51 rfl rfl
theorem Znd : FnOK Try.prog 26 Z81 := FnOK.of Ziw mixed Try.func26 Zst (Zqc _ Ziw mixed)
theorem Zoi : Tab Try.prog Zfa := Tab.nil _
theorem Zdg : FnOK Try.prog 33 Z6i := FnOK.of Zoi mixed Try.func33 Zxt (Zqo _ Zoi mixed)
theorem Zk4 : Tab Try.prog Z9y := Tab.cons (Tab.nil _) Zdg Try.func33 rfl rfl
theorem Zgw : FnOK Try.prog 83 Z8b := FnOK.of Zk4 mixed Try.func83 Zux (Zvn _ Zk4 mixed)
theorem Zlp : Tab Try.prog Zdq := Tab.cons (Tab.nil _) Zgw Try.func83 rfl rfl
theorem Zut : FnOK Try.prog 54 Zaq := FnOK.of Zlp mixed Try.func54 Z107 (Zzx _ Zlp mixed)
theorem Zk3 : Tab Try.prog Zcv := Tab.nil _
theorem Zra : FnOK Try.prog 99 Z9t := FnOK.of Zk3 mixed Try.func99 Zs7 (Zzn _ Zk3 mixed)
theorem Zli : Tab Try.prog Zdl := Tab.nil _
theorem Znq : FnOK Try.prog 97 Z73 := FnOK.of Zli mixed Try.func97 Zul (Z10u _ Zli mixed)
theorem Zj0 : Tab Try.prog Zbw := Tab.cons (Tab.cons (Tab.nil _) Znq Try.func97 rfl rfl) Zra Try.func99 rfl rfl
theorem Zui : FnOK Try.prog 84 Zgo := FnOK.of Zj0 mixed Try.func84 Zsn (Ztf _ Zj0 mixed)
theorem Zkm : Tab Try.prog Z9n := Tab.cons (Tab.nil _) Zui Try.func84 rfl rfl
theorem Zxn : FnOK Try.prog 55 Zet := FnOK.of Zkm mixed Try.func55 Zrx (Zvt _ Zkm mixed)
theorem Zp2 : Tab Try.prog Zdj := Tab.cons (Tab.cons (Tab.nil _) Z8w Try.func85 rfl rfl) Zgw Try.func83 rfl rfl
theorem Zz6 : FnOK Try.prog 56 Zfo := FnOK.of Zp2 mixed Try.func56 Zyw (Zqi _ Zp2 mixed)
theorem Zjg : Tab Try.prog Zbh := Tab.nil _
theorem Zxd : FnOK Try.prog 57 Ze1 := FnOK.of Zjg mixed Try.func57 Zvw (Zvk _ Zjg mixed)
theorem Zja : Tab Try.prog Zfd := Tab.cons (Tab.cons (Tab.cons (Tab.cons (Tab.nil _) Zxd Try.func57 rfl rfl) Zz6 Try.func56 rfl rfl) Zxn Try.func55 rfl rfl) Zut Try.func54 rfl rfl
theorem Zh4 : FnOK Try.prog 29 Z7w := FnOK.of Zja mixed Try.func29 Z10m (Zzf _ Zja mixed)
theorem Zhu : Tab Try.prog Zfk := Tab.nil _
theorem Zsi : FnOK Try.prog 98 Zbg := FnOK.of Zhu mixed Try.func98 Zyc (Zvm _ Zhu mixed)
theorem Zns : Tab Try.prog Zb4 := Tab.cons (Tab.cons (Tab.nil _) Znq Try.func97 rfl rfl) Zsi Try.func98 rfl rfl
theorem Zzc : FnOK Try.prog 82 Zc5 := FnOK.of Zns mixed Try.func82 Zx5 (Zz0 _ Zns mixed)
theorem Zok : Tab Try.prog Zb0 := Tab.cons (Tab.nil _) Zzc Try.func82 rfl rfl
theorem Zwe : FnOK Try.prog 53 Zgb := FnOK.of Zok mixed Try.func53 Ztl (Ztj _ Zok mixed)
theorem Zo0 : Tab Try.prog Zba := Tab.cons (Tab.nil _) Zwe Try.func53 rfl rfl
theorem Zgy : FnOK Try.prog 28 Z8d := FnOK.of Zo0 mixed Try.func28 Zy8 (Zte _ Zo0 mixed)
theorem Zmf : Tab Try.prog Zbz := Tab.cons (Tab.nil _) Zdg Try.func33 rfl rfl
theorem Zn7 : FnOK Try.prog 14 Z76 := FnOK.of Zmf mixed Try.func14 Zue (Z10h _ Zmf mixed)
theorem Zim : Tab Try.prog Zeo := Tab.nil _
theorem Zl4 : FnOK Try.prog 77 Z7x := FnOK.of Zim mixed Try.func77 Zzv (Zr7 _ Zim mixed)
theorem Zki : Tab Try.prog Zbb := Tab.cons (Tab.nil _) Zl4 Try.func77 rfl rfl
theorem Zu1 : FnOK Try.prog 48 Zct := FnOK.of Zki mixed Try.func48 Zqr (Zt7 _ Zki mixed)
theorem Zpa : Tab Try.prog Z8y := Tab.cons (Tab.cons (Tab.nil _) Z8w Try.func85 rfl rfl) Zdg Try.func33 rfl rfl
theorem Zr8 : FnOK Try.prog 66 Zeb := FnOK.of Zpa mixed Try.func66 Zw9 (Zye _ Zpa mixed)
theorem Zkx : Tab Try.prog Zdk := Tab.cons (Tab.nil _) Zr8 Try.func66 rfl rfl
theorem Zk9 : FnOK Try.prog 36 Z7g := FnOK.of Zkx mixed Try.func36 Zsg (Zq5 _ Zkx mixed)
theorem Zik : Tab Try.prog Zcd := Tab.cons (Tab.cons (Tab.nil _) Zk9 Try.func36 rfl rfl) Zu1 Try.func48 rfl rfl
theorem Zds : FnOK Try.prog 21 Z5s := FnOK.of Zik mixed Try.func21 Zqs (Zrt _ Zik mixed)
theorem Zjp : Tab Try.prog Z8v := Tab.nil _
theorem Zrw : FnOK Try.prog 63 Zcl := FnOK.of Zjp mixed Try.func63 Zy5 (Zs8 _ Zjp mixed)
theorem Zl3 : Tab Try.prog Zfv := Tab.nil _
theorem Zwd : FnOK Try.prog 64 Zfl := FnOK.of Zl3 mixed Try.func64 Zre (Zu2 _ Zl3 mixed)
theorem Zij : Tab Try.prog Zei := Tab.cons (Tab.cons (Tab.nil _) Zwd Try.func64 rfl rfl) Zrw Try.func63 rfl rfl
theorem Zsz : FnOK Try.prog 34 Zc7 := FnOK.of Zij mixed Try.func34 Z10v (Zzp _ Zij mixed)
theorem Zmj : Tab Try.prog Zgc := Tab.cons (Tab.nil _) Zzo Try.func101 rfl rfl
theorem Zqn : FnOK Try.prog 90 Za6 := FnOK.of Zmj mixed Try.func90 Zqv (Zqa _ Zmj mixed)
theorem Znl : Tab Try.prog Zfn := Tab.cons (Tab.nil _) Zqn Try.func90 rfl rfl
theorem Zsx : FnOK Try.prog 65 Zez := FnOK.of Znl mixed Try.func65 Zsu (Zqy _ Znl mixed)
theorem Zor : Tab Try.prog Zft := Tab.cons (Tab.cons (Tab.nil _) Zsx Try.func65 rfl rfl) Zhk Try.func51 rfl rfl
theorem Zyf : FnOK Try.prog 35 Zf7 := FnOK.of Zor mixed Try.func35 Zuq (Zq6 _ Zor mixed)
theorem Zjn : Tab Try.prog Zav := Tab.nil _
theorem Ztd : FnOK Try.prog 37 Zae := FnOK.of Zjn mixed Try.func37 Zw1 (Zrs _ Zjn mixed)
theorem Zky : Tab Try.prog Zfr := Tab.cons (Tab.nil _) Zgs Try.func67 rfl rfl
theorem Zod : FnOK Try.prog 38 Z8f := FnOK.of Zky mixed Try.func38 Zvg (Zrl _ Zky mixed)
theorem Zk6 : Tab Try.prog Zdi := Tab.cons (Tab.cons (Tab.cons (Tab.cons (Tab.cons (Tab.cons (Tab.cons (Tab.nil _) Zod Try.func38 rfl rfl) Ztd Try.func37 rfl rfl) Zn8 Try.func31 rfl rfl) Zyf Try.func35 rfl rfl) Zk9 Try.func36 rfl rfl) Zsz Try.func34 rfl rfl) Z82 Try.func13 rfl rfl
theorem Za8 : FnOK Try.prog 15 Z6x := FnOK.of Zk6 mixed Try.func15 Zsd (Zvi _ Zk6 mixed)
theorem Zn9 : Tab Try.prog Zcf := Tab.cons (Tab.nil _) Zh7 Try.func50 rfl rfl
theorem Zp1 : FnOK Try.prog 24 Z8e := FnOK.of Zn9 mixed Try.func24 Zpv (Zwy _ Zn9 mixed)
theorem Zo4 : Tab Try.prog Ze4 := Tab.nil _
theorem Ztr : FnOK Try.prog 88 Zcb := FnOK.of Zo4 mixed Try.func88 Zyz (Zw8 _ Zo4 mixed)
theorem Zna : Tab Try.prog Zge := Tab.cons (Tab.nil _) Ztr Try.func88 rfl rfl
theorem Ztx : FnOK Try.prog 87 Zb1 := FnOK.of Zna mixed Try.func87 Zwk (Zpk _ Zna mixed)
theorem Zmq : Tab Try.prog Zfz := Tab.cons (Tab.nil _) Ztx Try.func87 rfl rfl
theorem Zw0 : FnOK Try.prog 100 Zac := FnOK.of Zmq mixed Try.func100 Z10o (Zpm _ Zmq mixed)
theorem Zm7 : Tab Try.prog Zaa := Tab.cons (Tab.nil _) Zw0 Try.func100 rfl rfl
theorem Zza : FnOK Try.prog 86 Zej := FnOK.of Zm7 mixed Try.func86 Zus (Ztn _ Zm7 mixed)
theorem Zp0 : Tab Try.prog Zcx := Tab.cons (Tab.nil _) Zza Try.func86 rfl rfl
theorem Zxr : FnOK Try.prog 58 Za3 := FnOK.of Zp0 mixed Try.func58 Zv8 (Zsl _ Zp0 mixed)
theorem Zk5 : Tab Try.prog Zgi := Tab.cons (Tab.nil _) Zl4 Try.func77 rfl rfl
theorem Zx8 : FnOK Try.prog 59 Z9g := FnOK.of Zk5 mixed Try.func59 Zwc (Zyj _ Zk5 mixed)
theorem Zkq : Tab Try.prog Zc2 := Tab.cons (Tab.cons (Tab.cons (Tab.nil _) Zod Try.func38 rfl rfl) Zx8 Try.func59 rfl rfl) Zxr Try.func58 rfl rfl
theorem Zp5 : FnOK Try.prog 30 Z8g := FnOK.of Zkq mixed Try.func30 Zw2 (Zqe _ Zkq mixed)
theorem Zi8 : Tab Try.prog Z8o := Tab.cons (Tab.cons (Tab.cons (Tab.cons (Tab.cons (Tab.cons (Tab.cons (Tab.cons (Tab.cons (Tab.cons (Tab.nil _) Zp5 Try.func30 rfl rfl) Z82 Try.func13 rfl rfl) Zp1 Try.func24 rfl rfl) Za8 Try.func15 rfl rfl) Zds Try.func21 rfl rfl) Zn7 Try.func14 rfl rfl) Zgy Try.func28 rfl rfl) Zh4 Try.func29 rfl rfl) Znd Try.func26 rfl rfl) Zo3 Try.func10 rfl rfl
theorem Zu9 : FnOK Try.prog 8 Zdb := FnOK.of Zi8 mixed Try.func8 Z10s (Zys _ Zi8 mixed)
theorem Zl8 : Tab Try.prog Zcu := Tab.nil _
theorem Zri : FnOK Try.prog 9 Z8u := FnOK.of Zl8 mixed Try.func9 Zyp (Zrr _ Zl8 mixed)
theorem Zoq : Tab Try.prog Zbi := Tab.cons (Tab.cons (Tab.cons (Tab.cons (Tab.cons (Tab.cons (Tab.nil _) Zp5 Try.func30 rfl rfl) Zds Try.func21 rfl rfl) Za8 Try.func15 rfl rfl) Zh4 Try.func29 rfl rfl) Zgy Try.func28 rfl rfl) Znd Try.func26 rfl rfl
theorem Zw5 : FnOK Try.prog 25 Ze2 := FnOK.of Zoq mixed Try.func25 Zsa (Z10w _ Zoq mixed)
theorem Zmp : Tab Try.prog Zgn := Tab.nil _
theorem Zyv : FnOK Try.prog 20 Zbo := FnOK.of Zmp mixed Try.func20 Zya (Zuy _ Zmp mixed)
theorem Zo6 : Tab Try.prog Z8x := Tab.nil _
theorem Zqk : FnOK Try.prog 46 Z9l := FnOK.of Zo6 mixed Try.func46 Zz3 (Zqq _ Zo6 mixed)
theorem Zl5 : Tab Try.prog Zad := Tab.nil _
theorem Zsv : FnOK Try.prog 47 Zaw := FnOK.of Zl5 mixed Try.func47 Zs0 (Zup _ Zl5 mixed)
theorem Zh9 : Tab Try.prog Zg3 := Tab.cons (Tab.cons (Tab.nil _) Zsv Try.func47 rfl rfl) Zqk Try.func46 rfl rfl
theorem Zuu : FnOK Try.prog 19 Z9w := FnOK.of Zh9 mixed Try.func19 Zr6 (Zq7 _ Zh9 mixed)
theorem Zjv : Tab Try.prog Zeh := Tab.nil _
theorem Zrk : FnOK Try.prog 12 Za7 := FnOK.of Zjv mixed Try.func12 Ztb (Zwp _ Zjv mixed)
theorem Ziy : Tab Try.prog Zgm := Tab.nil _
theorem Zub : FnOK Try.prog 27 Zg8 := FnOK.of Ziy mixed Try.func27 Zvp (Z101 _ Ziy mixed)
theorem Znx : Tab Try.prog Zbf := Tab.nil _
theorem Zwm : FnOK Try.prog 49 Zgr := FnOK.of Znx mixed Try.func49 Zt1 (Zvj _ Znx mixed)
theorem Zmd : Tab Try.prog Zao := Tab.cons (Tab.nil _) Zwm Try.func49 rfl rfl
theorem Zxq : FnOK Try.prog 23 Zg1 := FnOK.of Zmd mixed Try.func23 Zvv (Zxk _ Zmd mixed)
theorem Zh1 : Tab Try.prog Z96 := Tab.cons (Tab.cons (Tab.cons (Tab.cons (Tab.cons (Tab.cons (Tab.cons (Tab.cons (Tab.cons (Tab.cons (Tab.cons (Tab.cons (Tab.cons (Tab.cons (Tab.nil _) Zxq Try.func23 rfl rfl) Zub Try.func27 rfl rfl) Zrk Try.func12 rfl rfl) Zn7 Try.func14 rfl rfl) Z82 Try.func13 rfl rfl) Zuu Try.func19 rfl rfl) Zyv Try.func20 rfl rfl) Za8 Try.func15 rfl rfl) Zp1 Try.func24 rfl rfl) Zds Try.func21 rfl rfl) Zw5 Try.func25 rfl rfl) Zo3 Try.func10 rfl rfl) Zri Try.func9 rfl rfl) Zu9 Try.func8 rfl rfl
theorem Zr2 : FnOK Try.prog 7 Zms := FnOK.of Zh1 mixed Try.func7 Z10l (Zr3 _ Zh1 mixed)
end Go.Proofs.Ytojbpjcfdjakkaa
end
section
set_option linter.unusedVariables false
set_option linter.unusedSimpArgs false
namespace Go.Proofs.Ytojbpjcfdjakkaa
open Go.RowKit Go.ChangeShapes Go.WideShapes Go.Deep
mutual
def Ty.rng : Ty → D → Prop
 | .int k, d => (Lit.int k d.toI).wf = true
 | .bool, _ => True
 | .str, d => d.toS.length ≤ maxLen
 | .bytes _, d => d.toS.length ≤ maxLen
 | .ints _ k, d => d.toIs.length ≤ maxLen ∧ ∀ x ∈ d.toIs, (Lit.int k x).wf = true
 | .row _ e, d => d.toL.length ≤ maxLen ∧ ∀ x ∈ d.toL, e.rng x
 | .st fs, d => Ty.rngL fs d 0
 | .self _, _ => True
 | .u8s _, _ => True
def Ty.rngL : List Ty → D → Nat → Prop
 | [], _, _ => True
 | t :: ts, d, j => t.rng (d.fld j) ∧ Ty.rngL ts d (j + 1)
end
mutual
def tyChk (P : Program) : Ty → TypeId → Bool
 | .int k, t => match P.underlying t with | some (.int j) => j == k | _ => false
 | .bool, t => match P.underlying t with | some .bool => true | _ => false
 | .str, t => match P.underlying t with | some .string => true | _ => false
 | .bytes T, t => match P.underlying t, P.underlying T with | some (.slice e), some (.int .u8) => Nat.beq e T && Nat.beq (P.cellsOf T) 1 | _, _ => false
 | .ints T k, t => match P.underlying t, P.underlying T with | some (.slice e), some (.int j) => Nat.beq e T && Nat.beq (P.cellsOf T) 1 && j == k | _, _ => false
 | .row T e, t => match P.underlying t with | some (.slice e') => Nat.beq e' T && Nat.beq (P.cellsOf T) e.size && Nat.ble 1 e.size && tyChk P e T | _ => false
 | .st es, t => match P.underlying t with | some (.struct fl) => Nat.beq (P.cellsOf t) (Ty.sizes es) && tysChk P es fl.toList 0 | _ => false
 | .self _, _ => false
 | .u8s _, _ => false
def tysChk (P : Program) : List Ty → List Field → Nat → Bool
 | [], [], _ => true
 | e :: es, f :: fl, o => Nat.beq f.offset o && Nat.beq (P.cellsOf f.type) e.size && tyChk P e f.type && tysChk P es fl (o + e.size)
 | _, _, _ => false
end
section
variable {H : Type} {enc : TypeId × Value → H} {P : Program} {w : World} {base : Nat} {spare : Nat → Bool} {held : Bool}
def PN : Nat → Option Pl := fun _ => none
def AN : Nat → Prop := fun _ => False
theorem Z9a {r : R} {a : Addr} {len cap : Nat} (hr : rlen r = len) (hl : len ≤ cap) (hsz : 0 < r.sz) (hrow : ∀ i, i < len → ∃ cs, cs.length = r.sz ∧ (∀ j, j < r.sz → w.cell? (a.add (i * r.sz + j)) = cs[j]?) ∧ Dens PN w AN (r.elem i) cs) :
  Den PN w AN (.rsl r) (.slice (some a) len cap) := by
 subst hr
 have : ∀ i, ∃ cs : List Value, i < rlen r → cs.length = r.sz ∧ (∀ j, j < r.sz → w.cell? (a.add (i * r.sz + j)) = cs[j]?) ∧ Dens PN w AN (r.elem i) cs := fun i => by
  by_cases h : i < rlen r
  ·obtain ⟨cs, h⟩ := hrow i h; exact ⟨cs, fun _ => h⟩
  exact ⟨[], fun h' => absurd h' h⟩
 obtain ⟨f, hf⟩ := Classical.axiomOfChoice this
 refine .rsl r (some a) cap (fun i j => ((f i)[j]?).getD undef) hl ?_ ?_ ?_
 ·intro h0
  obtain ⟨h1, h2, h3⟩ := hf 0 h0
  have hc := h2 0 hsz
  rw [Nat.zero_mul, Nat.zero_add, List.getElem?_eq_getElem (by omega)] at hc
  refine ⟨a, rfl, ?_, fun h => h⟩
  have := World.block_lt_of_cell? w _ hc
  rwa [Z5q] at this
 ·intro i j ad e hi hj
  injection e with e; subst e
  obtain ⟨h1, h2, h3⟩ := hf i hi
  have hjl : j < (f i).length := by omega
  rw [Z1l, h2 j hj, List.getElem?_eq_getElem hjl]
  have hle : (r.elem i).length = (f i).length := h3.1.symm
  exact ⟨rfl, by simpa using (h3.2 j (by omega) hjl).2⟩
 intro i j hi hj
 obtain ⟨h1, h2, h3⟩ := hf i hi
 have hjl : j < (f i).length := by rw [h3.1]; exact hj
 have := (h3.2 j hj hjl).1
 simpa [List.getElem?_eq_getElem hjl] using this
theorem den1 {v : SV} {c : Value} (h : Den PN w AN v c) (h1 : c.oneCell' = true) : Dens PN w AN [v] [c] := Dens.cons h h1 Dens.nil
theorem Zrf {t T : TypeId} (hu : P.underlying t = some (.slice T)) (he : P.underlying T = some (.int .u8)) (hc : P.cellsOf T = 1) {fuel : Nat} {cs : List Value} {x : DataW H × List MemPlace} (h : DataW.trod enc P w base spare held fuel t cs = some x) :
  ∃ l : List UInt8, l.length ≤ maxLen ∧ Dens PN w AN [.rsl (.bs T l)] cs := by
 rcases open_slice1 hu hc h with ⟨rfl, _⟩ | ⟨a, len, cap, m, n, V, D, Pl, rfl, hb, hl, hm, hmm, _, hi⟩
 ·exact ⟨[], by simp, den1 (Z1p rfl .nsl) rfl⟩
 have hle : len ≤ m := by rw [hmm]; split <;> omega
 have each : ∀ i, ∃ b : UInt8, i < len → w.cell? (a.add i) = some (.int .u8 b.toNat) := fun i => by
  by_cases h : i < len
  ·obtain ⟨h1, h2⟩ := hi i (by omega)
   obtain ⟨y, e1, _, e2⟩ := DataW.trod_int he h2
   injection e1 with e1 _
   have hy : 0 ≤ y ∧ y ≤ 255 := by simpa [Lit.wf, IntKind.min, IntKind.max, IntKind.signed, IntKind.bits, Int.lt_add_one_iff, Int.le_sub_one_iff] using e2
   refine ⟨UInt8.ofNat y.toNat, fun _ => ?_⟩
   rw [h1, e1]
   have : ((UInt8.ofNat y.toNat).toNat : Int) = y := by simp; omega
   rw [this]
  exact ⟨0, fun h' => absurd h' h⟩
 obtain ⟨f, hf⟩ := Classical.axiomOfChoice each
 refine ⟨(List.range len).map f, by simp; omega, den1 (Z9a (by simp [rlen]) hl (by show 0 < 1; omega) fun i hi => ⟨[.int .u8 (f i).toNat], rfl, ?_, ?_⟩) rfl⟩
 ·intro j hj
  have : j = 0 := by simp [R.sz] at hj; exact hj
  subst this
  simp only [R.sz, Nat.mul_one, Nat.add_zero]
  rw [hf i hi]
  rfl
 have : getB ((List.range len).map f) i = ((f i).toNat : Int) := by simp [getB, hi]
 simp only [R.elem, lock_eq, this]
 exact den1 (.v _) rfl
theorem Zzk {t T : TypeId} {k : IntKind} (hu : P.underlying t = some (.slice T)) (he : P.underlying T = some (.int k)) (hc : P.cellsOf T = 1) {fuel : Nat} {cs : List Value} {x : DataW H × List MemPlace} (h : DataW.trod enc P w base spare held fuel t cs = some x) :
  ∃ l : List Int, l.length ≤ maxLen ∧ (∀ y ∈ l, (Lit.int k y).wf = true) ∧ Dens PN w AN [.rsl (.ints T k l)] cs := by
 rcases open_slice1 hu hc h with ⟨rfl, _⟩ | ⟨a, len, cap, m, n, V, D, Pl, rfl, hb, hl, hm, hmm, _, hi⟩
 ·exact ⟨[], by simp, by simp, den1 (Z1p rfl .nsl) rfl⟩
 have hle : len ≤ m := by rw [hmm]; split <;> omega
 have each : ∀ i, ∃ b : Int, i < len → w.cell? (a.add i) = some (.int k b) ∧ (Lit.int k b).wf = true := fun i => by
  by_cases h : i < len
  ·obtain ⟨h1, h2⟩ := hi i (by omega)
   obtain ⟨y, e1, _, e2⟩ := DataW.trod_int he h2
   injection e1 with e1 _
   exact ⟨y, fun _ => ⟨by rw [h1, e1], e2⟩⟩
  exact ⟨0, fun h' => absurd h' h⟩
 obtain ⟨f, hf⟩ := Classical.axiomOfChoice each
 refine ⟨(List.range len).map f, by simp; omega, ?_, den1 (Z9a (by simp [rlen]) hl (by show 0 < 1; omega) fun i hi => ⟨[.int k (f i)], rfl, ?_, ?_⟩) rfl⟩
 ·intro y hy
  obtain ⟨i, h1, rfl⟩ := List.mem_map.1 hy
  exact (hf i (List.mem_range.1 h1)).2
 ·intro j hj
  have : j = 0 := by simp [R.sz] at hj; exact hj
  subst this
  simp only [R.sz, Nat.mul_one, Nat.add_zero]
  rw [(hf i hi).1]
  rfl
 have : getI ((List.range len).map f) i = f i := by simp [getI, hi]
 simp only [R.elem, lock_eq, this]
 exact den1 (.v _) rfl
theorem Zrz {a b : List SV} {c d : List Value} (h : Dens PN w AN a c) (k : Dens PN w AN b d) : Dens PN w AN (a ++ b) (c ++ d) := by
 refine ⟨by simp [h.1, k.1], fun j h1 h2 => ?_⟩
 by_cases hj : j < a.length
 ·have hc : j < c.length := by rw [h.1]; exact hj
  rw [List.getElem_append_left hj, List.getElem_append_left hc]
  exact h.2 j hj hc
 have hc : ¬ j < c.length := by rw [h.1]; exact hj
 rw [List.getElem_append_right (by omega), List.getElem_append_right (by omega)]
 have e := h.1
 have := k.2 (j - a.length) (by simp at h1; omega) (by simp at h2; omega)
 simpa [e] using this
theorem D.fld_l (l : List D) (j : Nat) : (D.l l).fld j = l.getD j (.i 0) := rfl
theorem Zos : ∀ (e : Ty) (t : TypeId) (fuel : Nat) (cs : List Value) (x : DataW H × List MemPlace), tyChk P e t = true → DataW.trod enc P w base spare held fuel t cs = some x → ∃ d : D, Dens PN w AN (e.leaves d) cs ∧ e.rng d := by
 intro e
 apply Ty.rec (motive_1 := fun e => ∀ (t : TypeId) (fuel : Nat) (cs : List Value) (x : DataW H × List MemPlace), tyChk P e t = true → DataW.trod enc P w base spare held fuel t cs = some x → ∃ d : D, Dens PN w AN (e.leaves d) cs ∧ e.rng d)
  (motive_2 := fun es => ∀ (fl : List Field) (o : Nat) (cs : List Value), tysChk P es fl o = true → (∀ f ∈ fl, ∃ fuel x, DataW.trod enc P w base spare held fuel f.type ((cs.drop f.offset).take (P.cellsOf f.type)) = some x) → cs.length = o + Ty.sizes es →
   ∃ ds : List D, ds.length = es.length ∧ ∀ d j, (∀ i, i < es.length → d.fld (j + i) = ds.getD i (.i 0)) → Dens PN w AN (Ty.leavesL es d j) (cs.drop o) ∧ Ty.rngL es d j)
 ·intro k t fuel cs x hc h
  simp only [tyChk] at hc
  split at hc
  ·rename_i j hu
   have := LawfulBEq.eq_of_beq hc
   subst this
   obtain ⟨y, rfl, _, e2⟩ := DataW.trod_int hu h
   refine ⟨.i y, ?_, e2⟩
   simp only [Ty.leaves, lock_eq]
   exact den1 (.v _) rfl
  cases hc
 ·intro t fuel cs x hc h
  simp only [tyChk] at hc
  split at hc
  ·rename_i hu
   obtain ⟨b, rfl, _⟩ := DataW.trod_bool hu h
   refine ⟨.b b, ?_, trivial⟩
   simp only [Ty.leaves, lock_eq]
   exact den1 (.v _) rfl
  cases hc
 ·intro t fuel cs x hc h
  simp only [tyChk] at hc
  split at hc
  ·rename_i hu
   obtain ⟨b, rfl, _, e2⟩ := DataW.trod_string hu h
   refine ⟨.s b.data.toList, ?_, by
    show b.data.toList.length ≤ maxLen
    have : b.data.toList.length = b.size := by rw [Array.length_toList]; rfl
    rw [this]; exact e2⟩
   simp only [Ty.leaves, lock_eq, D.toS]
   have := Den.str (PL := PN) (w := w) (Av := AN) b.data.toList
   simp at this
   exact den1 this rfl
  cases hc
 ·intro T t fuel cs x hc h
  simp only [tyChk] at hc
  split at hc
  ·rename_i e0 hu he
   simp only [Bool.and_eq_true] at hc
   have e1 := (nbeq _ _).1 hc.1
   have e2 := (nbeq _ _).1 hc.2
   subst e1
   obtain ⟨l, h1, h2⟩ := Zrf hu he e2 h
   exact ⟨.s l, by simp only [Ty.leaves, lock_eq]; exact h2, h1⟩
  cases hc
 ·intro T k t fuel cs x hc h
  simp only [tyChk] at hc
  split at hc
  ·rename_i e0 j hu he
   simp only [Bool.and_eq_true] at hc
   have e1 := (nbeq _ _).1 hc.1.1
   have e2 := (nbeq _ _).1 hc.1.2
   have e3 := LawfulBEq.eq_of_beq hc.2
   subst e1; subst e3
   obtain ⟨l, h1, h2, h3⟩ := Zzk hu he e2 h
   exact ⟨.is l, by simp only [Ty.leaves, lock_eq]; exact h3, h1, h2⟩
  cases hc
 ·intro T e ih t fuel cs x hc h
  simp only [tyChk] at hc
  split at hc
  ·rename_i e0 hu
   simp only [Bool.and_eq_true] at hc
   obtain ⟨⟨⟨c1, c2⟩, c3⟩, c4⟩ := hc
   have e1 := (nbeq _ _).1 c1
   have e2 := (nbeq _ _).1 c2
   have e3 := Nat.le_of_ble_eq_true c3
   subst e1
   rcases open_slice hu h with ⟨rfl, _⟩ | ⟨a, len, cap, m, n, D0, Pl, rfl, hb, hl, hm, hmm, _, hi⟩
   ·refine ⟨.l [], ?_, by simp [Ty.rng, D.toL]⟩
    simp only [Ty.leaves, lock_eq, D.toL]
    exact den1 (Z1p rfl .nsl) rfl
   have hle : len ≤ m := by rw [hmm]; split <;> omega
   have each : ∀ i, ∃ q : D × List Value, i < len → q.2.length = e.size ∧ (∀ j, j < e.size → w.cell? (a.add (i * e.size + j)) = q.2[j]?) ∧ Dens PN w AN (e.leaves q.1) q.2 ∧ e.rng q.1 := fun i => by
    by_cases hil : i < len
    ·obtain ⟨cs', g1, g2⟩ := hi i (by omega)
     obtain ⟨_, g3, g4⟩ := World.cells?_some g1
     obtain ⟨d, g5, g6⟩ := ih _ n cs' _ c4 g2
     refine ⟨(d, cs'), fun _ => ⟨by rw [g3, e2], fun j hj => ?_, g5, g6⟩⟩
     have := g4 j (by omega)
     rw [Z1l, e2] at this
     exact this
    exact ⟨(.i 0, []), fun h' => absurd h' hil⟩
   obtain ⟨f, hf⟩ := Classical.axiomOfChoice each
   refine ⟨.l ((List.range len).map fun i => (f i).1), ?_, ?_, ?_⟩
   ·simp only [Ty.leaves, lock_eq, D.toL]
    refine den1 (Z9a (by simp [rlen]) hl (by show 0 < e.size; omega) fun i hi => ⟨(f i).2, (hf i hi).1, (hf i hi).2.1, ?_⟩) rfl
    have : getD ((List.range len).map fun i => (f i).1) i = (f i).1 := by simp [getD, hi]
    simp only [R.elem, lock_eq, this]
    exact (hf i hi).2.2.1
   ·simp [D.toL]; omega
   intro y hy
   simp only [D.toL] at hy
   obtain ⟨i, h1, rfl⟩ := List.mem_map.1 hy
   exact (hf i (List.mem_range.1 h1)).2.2.2
  cases hc
 ·intro es ih t fuel cs x hc h
  simp only [tyChk] at hc
  split at hc
  ·rename_i fl hu
   simp only [Bool.and_eq_true] at hc
   have e1 := (nbeq _ _).1 hc.1
   obtain ⟨xs, n, _, _, hlen, hxl, hx⟩ := DataW.trod_struct hu h
   obtain ⟨ds, h1, h2⟩ := ih fl.toList 0 cs hc.2 (fun f hf => by
    obtain ⟨i, hi, he⟩ := List.getElem_of_mem hf
    have hi' : i < fl.size := by simpa using hi
    have := hx i f (by rw [Array.getElem?_eq_getElem hi']; simpa using he)
    exact ⟨n, xs[i]'(by omega), by rw [this, List.getElem?_eq_getElem (by omega)]⟩) (by rw [hlen, e1]; omega)
   obtain ⟨g1, g2⟩ := h2 (.l ds) 0 (fun i hi => by rw [D.fld_l, Nat.zero_add])
   exact ⟨.l ds, by simp only [Ty.leaves]; simpa using g1, g2⟩
  cases hc
 ·intro T t fuel cs x hc h; simp [tyChk] at hc
 ·intro n t fuel cs x hc h; simp [tyChk] at hc
 ·intro fl o cs hc hf hl
  cases fl with
  | nil => exact ⟨[], rfl, fun d j _ => ⟨by simp only [Ty.leavesL]; rw [List.drop_of_length_le (by simp [Ty.sizes] at hl; omega)]; exact Dens.nil, trivial⟩⟩
  | cons f fl => simp [tysChk] at hc
 intro e es ih1 ih2 fl o cs hc hf hl
 cases fl with
 | nil => simp [tysChk] at hc
 | cons f fl =>
  simp only [tysChk, Bool.and_eq_true] at hc
  obtain ⟨⟨⟨c1, c2⟩, c3⟩, c4⟩ := hc
  have e1 := (nbeq _ _).1 c1
  have e2 := (nbeq _ _).1 c2
  obtain ⟨fuel, x, hx⟩ := hf f (List.mem_cons_self ..)
  obtain ⟨d1, g1, g2⟩ := ih1 _ _ _ _ c3 hx
  simp only [Ty.sizes] at hl
  obtain ⟨ds, g3, g4⟩ := ih2 fl (o + e.size) cs c4 (fun f hf' => hf f (List.mem_cons_of_mem _ hf')) (by omega)
  refine ⟨d1 :: ds, by simp [g3], fun d j hd => ?_⟩
  have hd0 : d.fld j = d1 := by simpa using hd 0 (by simp)
  obtain ⟨k1, k2⟩ := g4 d (j + 1) (fun i hi => by
   have := hd (i + 1) (by simpa using hi)
   rw [Nat.add_assoc, Nat.add_comm 1 i, this, List.getD_cons_succ])
  rw [e1, e2] at g1
  refine ⟨?_, ?_, k2⟩
  ·simp only [Ty.leavesL, lock_eq, hd0]
   have : cs.drop o = (cs.drop o).take e.size ++ cs.drop (o + e.size) := by
    rw [← List.drop_drop, List.take_append_drop]
   rw [this]
   exact Zrz g1 k1
  rw [hd0]; exact g2
end
end Go.Proofs.Ytojbpjcfdjakkaa
end
section
set_option linter.unusedVariables false
set_option linter.unusedSimpArgs false
namespace Go.Proofs.Ytojbpjcfdjakkaa
theorem pieq {a b : Int} : (ieq a b = true) = (a = b) := by simp [ieq]
theorem pilt {a b : Int} : (ilt a b = true) = (a < b) := by simp [ilt]
theorem pile {a b : Int} : (ile a b = true) = (a ≤ b) := by simp [ile]
theorem pseq {a b : List UInt8} : (seq a b = true) = (a = b) := by simp [seq]
theorem pbeq2 {a b : Bool} : (beq2 a b = true) = (a = b) := by simp [beq2]
theorem pband {a b : Bool} : (band a b = true) = (a = true ∧ b = true) := by simp [band]
def U (x : Int) : Prop := 0 ≤ x ∧ x < 18446744073709551616
theorem U.lo {x : Int} (h : U x) : 0 ≤ x := h.1
theorem U.hi {x : Int} (h : U x) : x < 18446744073709551616 := h.2
theorem pwu64 (x : Int) : IntKind.u64.wrap x = x % 18446744073709551616 := by simp [IntKind.wrap, IntKind.signed, IntKind.bits]
theorem pwi64 {x : Int} (h1 : -9223372036854775808 ≤ x) (h2 : x ≤ 9223372036854775807) : IntKind.i64.wrap x = x := by
 simp only [IntKind.wrap, IntKind.signed, IntKind.bits]
 simp
 omega
theorem pu64 {x : Int} (h1 : 0 ≤ x) (h2 : x < 18446744073709551616) : IntKind.u64.wrap x = x := by rw [pwu64]; omega
theorem ptoN (n : Nat) : toN (n : Int) = n := rfl
theorem pnext {n : Nat} (h : n < 9223372036854775807) : iadd .i64 (n : Int) 1 = ((n + 1 : Nat) : Int) := by
 simp only [iadd]
 rw [pwi64] <;> omega
theorem pgetI {l : List Int} {n : Nat} (h : n < l.length) : getI l n = l[n] := by simp [getI, h]
theorem pgetD {l : List D} {n : Nat} (h : n < l.length) : getD l n = l[n] := by simp [getD, h]
theorem pcopy {α : Type} (l : List α) (x : α) : lspl (lrep l.length x) 0 (lsub l 0 (nmin (xlen (lrep l.length x)) (xlen l))) = l := by
 simp [lspl, lrep, lsub, nmin, xlen]
theorem pimax (a b : Int) : imax a b = max a b := by
 unfold imax
 by_cases h : b > a
 ·rw [if_pos h]; omega
 rw [if_neg h]; omega
theorem pimin (a b : Int) : imin a b = min a b := by
 unfold imin
 by_cases h : b < a
 ·rw [if_pos h]; omega
 rw [if_neg h]; omega
abbrev Pk := Int × Int × Int
def pk (d : D) : Pk := (D.toI (D.fld d 0), D.toI (D.fld d 1), D.toI (D.fld d 2))
def mkP (p : Pk) : D := .l [.i p.1, .i p.2.1, .i p.2.2]
def zP : D := .l [.i 0, .i 0, .i 0]
structure QR (f n : Nat) (r : List D) (l : List Pk) : Prop where
 hn : l.length = n
 le : n ≤ r.length
 hf : f < r.length ∨ (r = [] ∧ f = 0)
 big : r.length ≤ 1000000
 at_ : ∀ i, (hi : i < l.length) → pk (r.getD ((f + i) % r.length) (.i 0)) = l[i]
theorem QR.nil : QR 0 0 [] [] := ⟨rfl, by simp, .inr ⟨rfl, rfl⟩, by simp, fun i h => absurd h (by simp)⟩
theorem QR.zero {r : List D} (h : 0 < r.length) (hb : r.length ≤ 1000000) : QR 0 0 r [] := ⟨rfl, by simp, .inl h, hb, fun i h => absurd h (by simp)⟩
theorem Z89 {i f : Nat} {x y : Int} {r : List D} (hr : 0 < r.length) (hf : f ≤ 1000000) (hi : i ≤ 1000000) : Z1m (i : Int) x (f : Int) y r = some (((f + i) % r.length : Nat) : Int) := by
 unfold Z1m
 have e : iadd .i64 (f : Int) (i : Int) = ((f + i : Nat) : Int) := by simp only [iadd]; rw [pwi64 (by omega) (by omega)]; omega
 have e2 : irem ((f + i : Nat) : Int) (ofN (xlen r)) = (((f + i) % r.length : Nat) : Int) := by
  simp only [irem, ofN, xlen]
  rw [Int.tmod_eq_emod_of_nonneg (by omega)]
  exact (Int.natCast_emod _ _).symm
 rw [if_pos (by simp only [ofN, xlen]; omega), e, e2]
theorem Zpl {f : Nat} {x y : Int} {r : List D} (hf : f ≤ r.length) (hb : r.length ≤ 400000) : ∃ z : List D, Z4g x (f : Int) y r = some (r.drop f ++ r.take f ++ z) ∧ r.length + z.length = max 4 (2 * r.length) := by
 obtain ⟨M, hM⟩ : ∃ M : Nat, M = max 4 (2 * r.length) := ⟨_, rfl⟩
 have hm : imax (4 : Int) (imul .i64 (2 : Int) (ofN (xlen r))) = (M : Int) := by
  have : imul .i64 (2 : Int) (ofN (xlen r)) = ((2 * r.length : Nat) : Int) := by simp only [imul, ofN, xlen]; rw [pwi64 (by omega) (by omega)]; omega
  rw [this, pimax]; omega
 obtain ⟨Z, hZ⟩ : ∃ Z : List D, Z = List.replicate M zP := ⟨_, rfl⟩
 have hZl : Z.length = M := by rw [hZ]; simp
 have e0 : @lrep D (toN (M : Int)) (D.l [(D.i (0 : Int)), (D.i (0 : Int)), (D.i (0 : Int))]) = Z := by rw [hZ]; rfl
 have ea : lsub r (toN (f : Int)) (ndec (xlen r) (toN (f : Int))) = r.drop f := by
  show (r.drop f).take (r.length - f) = _
  exact List.take_of_length_le (by simp)
 have eb : lsub r 0 (toN (f : Int)) = r.take f := by show (r.drop 0).take f = _; rfl
 have hla : (r.drop f).length = r.length - f := by simp
 have hlb : (r.take f).length = f := by simp; omega
 have em1 : nmin (xlen Z) (xlen (r.drop f)) = r.length - f := by simp only [nmin, xlen]; omega
 have el1 : lsub (r.drop f) 0 (r.length - f) = r.drop f := by show ((r.drop f).drop 0).take _ = _; exact List.take_of_length_le (by simp)
 have es1 : lspl Z 0 (r.drop f) = r.drop f ++ Z.drop (r.length - f) := by
  show Z.take 0 ++ r.drop f ++ Z.drop (0 + (r.drop f).length) = _
  rw [hla, Nat.zero_add]; rfl
 have hl1 : xlen (r.drop f ++ Z.drop (r.length - f)) = M := by simp only [xlen, List.length_append, List.length_drop]; omega
 have em2 : nmin (ndec M (toN (ofN (r.length - f)))) (xlen (r.take f)) = f := by simp only [nmin, ndec, xlen, hlb]; show min (M - (r.length - f)) f = f; omega
 have el2 : lsub (r.take f) 0 f = r.take f := by show ((r.take f).drop 0).take _ = _; exact List.take_of_length_le (by rw [List.drop_zero, hlb]; exact Nat.le_refl _)
 have es2 : lspl (r.drop f ++ Z.drop (r.length - f)) (toN (ofN (r.length - f))) (r.take f) = r.drop f ++ r.take f ++ Z.drop r.length := by
  show (r.drop f ++ Z.drop (r.length - f)).take (r.length - f) ++ r.take f ++ (r.drop f ++ Z.drop (r.length - f)).drop (r.length - f + (r.take f).length) = _
  rw [List.take_left' hla, hlb]
  congr 1
  rw [List.drop_append, List.drop_of_length_le (by omega), List.nil_append, List.drop_drop, hla]
  congr 1
  omega
 refine ⟨Z.drop r.length, ?_, by simp only [List.length_drop]; omega⟩
 unfold Z4g
 rw [hm, e0, ea, em1, el1, es1, eb, hl1, em2, el2, es2]
 rw [if_pos (by omega), if_pos (by simp only [ofN, xlen]; omega), if_pos (by simp only [ofN]; omega), if_pos (by simp only [ofN, xlen]; omega)]
theorem Zb8 {l m : List D} {i : Nat} (h : i < l.length) : (l ++ m).getD i (.i 0) = l.getD i (.i 0) := by
 rw [List.getD_eq_getElem?_getD, List.getD_eq_getElem?_getD, List.getElem?_append_left h]
theorem Zv2 {r : List D} {f i : Nat} {z : List D} (hf : f < r.length) (hi : i < r.length) : (r.drop f ++ r.take f ++ z).getD i (.i 0) = r.getD ((f + i) % r.length) (.i 0) := by
 have hl : (r.drop f ++ r.take f).length = r.length := by simp; omega
 rw [Zb8 (by omega)]
 by_cases h : f + i < r.length
 ·rw [Nat.mod_eq_of_lt h, Zb8 (by simp; omega)]
  simp [List.getD_eq_getElem?_getD, List.getElem?_drop]
 have e : (f + i) % r.length = f + i - r.length := by rw [Nat.mod_eq_sub_mod (by omega), Nat.mod_eq_of_lt (by omega)]
 rw [e, List.getD_eq_getElem?_getD, List.getElem?_append_right (by simp; omega), List.getD_eq_getElem?_getD]
 simp only [List.length_drop]
 rw [List.getElem?_take_of_lt (by omega)]
 congr 2
 omega
theorem getD_set_ne {r : List D} {i j : Nat} {d : D} (h : i ≠ j) : (r.set i d).getD j (.i 0) = r.getD j (.i 0) := by
 rw [List.getD_eq_getElem?_getD, List.getD_eq_getElem?_getD, List.getElem?_set_ne h]
theorem Zem {r : List D} {i : Nat} {d : D} (h : i < r.length) : (r.set i d).getD i (.i 0) = d := by
 rw [List.getD_eq_getElem?_getD, List.getElem?_set_self h]
 rfl
theorem Zyt {L f n i : Nat} (hn : n < L) (hi : i < n) : (f + n) % L ≠ (f + i) % L := by
 intro e
 have h1 : (f + n) % L = (f + i + (n - i)) % L := by congr 1; omega
 rw [h1] at e
 have h2 : (f + i + (n - i)) % L = ((f + i) % L + (n - i)) % L := by rw [Nat.mod_add_mod]
 rw [h2] at e
 have hL : (f + i) % L < L := Nat.mod_lt _ (by omega)
 by_cases h : (f + i) % L + (n - i) < L
 ·rw [Nat.mod_eq_of_lt h] at e; omega
 rw [Nat.mod_eq_sub_mod (by omega), Nat.mod_eq_of_lt (by omega)] at e; omega
theorem QR.put {f n : Nat} {r : List D} {l : List Pk} (h : QR f n r l) (hn : n < r.length) (d : D) : QR f (n + 1) (r.set ((f + n) % r.length) d) (l ++ [pk d]) := by
 have hf : f < r.length := by rcases h.hf with hf | ⟨rfl, _⟩; exact hf; simp at hn
 have hL : (f + n) % r.length < r.length := Nat.mod_lt _ (by omega)
 refine ⟨by simp [h.hn], by simp; omega, .inl (by simpa using hf), by simpa using h.big, fun i hi => ?_⟩
 simp only [List.length_set]
 have hl := h.hn
 by_cases hin : i < l.length
 ·rw [getD_set_ne (Zyt hn (by omega)), h.at_ i hin, List.getElem_append_left hin]
 have : i = n := by simp at hi; omega
 subst this
 rw [Zem hL]
 simp [h.hn]
theorem Zo7 {a b c x : Int} {f n : Nat} {r : List D} {l : List Pk} (h : QR f n r l) (hn : n ≤ 400000) :
  ∃ (f' : Nat) (r' : List D), Z2j a b c x (f : Int) (n : Int) r = some ((f' : Int), ((n + 1 : Nat) : Int), r') ∧ QR f' (n + 1) r' (l ++ [(a, b, c)]) := by
 have hle := h.le
 have hbig := h.big
 have hfl : f ≤ r.length := by rcases h.hf with hf | ⟨rfl, rfl⟩ <;> omega
 unfold Z2j
 by_cases c1 : n = r.length
 ·rw [if_pos (by rw [pieq]; simp only [ofN, xlen]; omega)]
  obtain ⟨z, hz, hzl⟩ := Zpl (x := x) (f := f) (y := (n : Int)) (r := r) hfl (by omega)
  rw [hz]
  dsimp only [bindO]
  generalize hq : r.drop f ++ r.take f ++ z = q
  have hql : q.length = max 4 (2 * r.length) := by rw [← hq]; simp only [List.length_append, List.length_drop, List.length_take]; omega
  have hQ : QR 0 n q l := by
   refine ⟨h.hn, by omega, .inl (by omega), by omega, fun i hi => ?_⟩
   have hi' : i < r.length := by have := h.hn; omega
   have hf : f < r.length := by rcases h.hf with hf | ⟨rfl, _⟩; exact hf; simp at hi'
   rw [Nat.zero_add, Nat.mod_eq_of_lt (by omega), ← hq, Zv2 hf hi']
   exact h.at_ i hi
  have ha := Z89 (i := n) (f := 0) (x := x) (y := (n : Int)) (r := q) (by omega) (by omega) (by omega)
  rw [show ((0 : Nat) : Int) = 0 from rfl] at ha
  rw [ha]
  dsimp only [bindO]
  have hlt : (0 + n) % q.length < q.length := Nat.mod_lt _ (by omega)
  rw [if_pos (by simp only [ofN, xlen]; omega), pnext (by omega)]
  exact ⟨0, _, rfl, hQ.put (by omega) (D.l [D.i a, D.i b, D.i c])⟩
 rw [if_neg (by rw [pieq]; simp only [ofN, xlen]; omega), Z89 (by omega) (by omega) (by omega)]
 dsimp only [bindO]
 have hlt : (f + n) % r.length < r.length := Nat.mod_lt _ (by omega)
 rw [if_pos (by simp only [ofN, xlen]; omega), pnext (by omega)]
 exact ⟨f, _, rfl, h.put (by omega) (D.l [D.i a, D.i b, D.i c])⟩
theorem Zse {a b c lim : Int} {f n : Nat} {r : List D} {l : List Pk} (h : QR f n r l) (hn : n ≤ 400000) :
  (lim ≤ (n : Int) ∧ Z1j a b c lim (f : Int) (n : Int) r = some (false, (f : Int), (n : Int), r)) ∨
  ((n : Int) < lim ∧ ∃ (f' : Nat) (r' : List D), Z1j a b c lim (f : Int) (n : Int) r = some (true, (f' : Int), ((n + 1 : Nat) : Int), r') ∧ QR f' (n + 1) r' (l ++ [(a, b, c)])) := by
 unfold Z1j
 by_cases c1 : lim ≤ (n : Int)
 ·exact .inl ⟨c1, by rw [if_pos (by rw [pile]; exact c1)]⟩
 refine .inr ⟨by omega, ?_⟩
 rw [if_neg (by rw [pile]; exact c1)]
 obtain ⟨f', r', h1, h2⟩ := Zo7 (a := a) (b := b) (c := c) (x := lim) h hn
 rw [h1]
 exact ⟨f', r', rfl, h2⟩
def headOf : List Pk → Int × Int × Int × Bool
 | [] => (0, 0, 0, false)
 | p :: _ => (p.1, p.2.1, p.2.2, true)
theorem Zoe {lim : Int} {f n : Nat} {r : List D} {l : List Pk} (h : QR f n r l) : Z2a lim (f : Int) (n : Int) r = some (headOf l) := by
 unfold Z2a Z1g
 dsimp only [bindO]
 have hl := h.hn
 cases l with
 | nil =>
  have : n = 0 := by simpa using hl.symm
  subst this
  rw [if_pos (by rw [pieq]; rfl)]
  rfl
 | cons p l =>
  simp only [List.length_cons] at hl
  have hle := h.le
  have hf : f < r.length := by rcases h.hf with hf | ⟨rfl, _⟩; exact hf; simp at hle; omega
  rw [if_neg (by rw [pieq]; omega), if_pos (by simp only [ofN, xlen]; omega)]
  have := h.at_ 0 (by simp)
  rw [Nat.add_zero, Nat.mod_eq_of_lt hf] at this
  have e : pk (getD r (toN (f : Int))) = p := this
  rw [← e]
  rfl
theorem QR.pop {f n : Nat} {r : List D} {p : Pk} {l : List Pk} (h : QR f n r (p :: l)) : QR ((f + 1) % r.length) (n - 1) r l := by
 have hl := h.hn
 have hle := h.le
 simp only [List.length_cons] at hl
 refine ⟨by omega, by omega, .inl (Nat.mod_lt _ (by omega)), h.big, fun i hi => ?_⟩
 have := h.at_ (i + 1) (by simpa using hi)
 rw [Nat.mod_add_mod, show f + 1 + i = f + (i + 1) by omega, this]
 simp
theorem Zvf {lim : Int} {f n : Nat} {r : List D} {l : List Pk} (h : QR f n r l) (hn : n ≤ 400000) :
  (l = [] ∧ Z1v lim (f : Int) (n : Int) r = some (0, 0, 0, false, (f : Int), (n : Int))) ∨
  ∃ p l' f', l = p :: l' ∧ Z1v lim (f : Int) (n : Int) r = some (p.1, p.2.1, p.2.2, true, ((f' : Nat) : Int), ((n - 1 : Nat) : Int)) ∧ QR f' (n - 1) r l' := by
 unfold Z1v
 rw [Zoe h]
 cases l with
 | nil => exact .inl ⟨rfl, rfl⟩
 | cons p l =>
  refine .inr ⟨p, l, (f + 1) % r.length, rfl, ?_, h.pop⟩
  have hl := h.hn
  simp only [List.length_cons] at hl
  have hle := h.le
  have hbig := h.big
  have hf : f < r.length := by rcases h.hf with hf | ⟨rfl, _⟩; exact hf; simp at hle; omega
  dsimp only [bindO]
  have ha := Z89 (i := 1) (f := f) (x := lim) (y := (n : Int)) (r := r) (by omega) (by omega) (by omega)
  rw [show ((1 : Nat) : Int) = 1 from rfl] at ha
  rw [show headOf (p :: l) = (p.1, p.2.1, p.2.2, true) from rfl]
  dsimp only [bindO]
  rw [if_pos rfl, ha]
  dsimp only [bindO]
  have : isub .i64 (n : Int) 1 = ((n - 1 : Nat) : Int) := by simp only [isub]; rw [pwi64 (by omega) (by omega)]; omega
  rw [this]
def sadd (a b : Int) : Int := if a + b < 18446744073709551616 then a + b else 18446744073709551615
theorem Zgz {a b : Int} (ha : U a) (hb : U b) : U (sadd a b) := by
 have := ha.lo; have := hb.lo
 unfold sadd U
 split <;> omega
theorem Zk7 {x y : Int} (hx : U x) (hy : U y) : Z1w x y = some (sadd x y) := by
 have := hx.lo; have := hx.hi; have := hy.lo; have := hy.hi
 unfold Z1w sadd
 simp only [pile, iadd, pwu64]
 split <;> split <;> first | rfl | (congr 1; omega) | (exfalso; omega)
def turnF (t : Int) (n : Nat) : Int := if t + 1 < (n : Int) then t + 1 else 0
structure RingOk (q : List Int) (t : Int) (d : List Int) : Prop where
 t0 : 0 ≤ t
 tn : t < (q.length : Int)
 n : q.length ≤ 1000
 l : d.length = q.length
 q : ∀ x ∈ q, U x
 d : ∀ x ∈ d, U x
theorem Z6q {q : List Int} {t : Int} {d l : List Int} {ad : Bool} (h : RingOk q t d) : Z1q t ad q l = some (turnF t q.length) := by
 have := h.t0; have := h.tn; have := h.n
 unfold Z1q turnF
 rw [if_pos (by simp only [ofN, xlen]; omega)]
 congr 1
 simp only [irem, iadd, ofN, xlen]
 rw [pwi64 (by omega) (by omega), Int.tmod_eq_emod_of_nonneg (by omega)]
 split
 ·exact Int.emod_eq_of_lt (by omega) (by omega)
 have : t + 1 = (q.length : Int) := by omega
 rw [this, Int.emod_self]
def visL (q : List Int) (t : Int) (ad : Bool) (d : List Int) : Int := if ad = false then sadd (d.getD t.toNat 0) (q.getD t.toNat 0) else d.getD t.toNat 0
def visF (q : List Int) (t : Int) (ad : Bool) (d : List Int) (sz : Int) (may : Bool) : Bool × Int × Bool × List Int :=
 if sz = 0 ∨ may = false then (false, turnF t q.length, false, d.set t.toNat 0)
 else if visL q t ad d < sz then (false, turnF t q.length, false, d.set t.toNat (visL q t ad d)) else (true, t, true, d.set t.toNat (visL q t ad d - sz))
theorem Z5y {l : List Int} {n : Nat} (h : ∀ x ∈ l, U x) (hn : n < l.length) : U (l.getD n 0) := by
 have : l.getD n 0 = l[n] := by simp [hn]
 rw [this]
 exact h _ (List.getElem_mem hn)
theorem RingOk.on {q : List Int} {t : Int} {d : List Int} (h : RingOk q t d) {x : Int} (hx : U x) : RingOk q t (d.set t.toNat x) :=
 ⟨h.t0, h.tn, h.n, by simpa using h.l, h.q, fun y hy => by
  rcases List.mem_or_eq_of_mem_set hy with hy | rfl
  ·exact h.d _ hy
  exact hx⟩
theorem Zqt {t : Int} {n : Nat} (h0 : 0 ≤ t) (h : t < (n : Int)) : 0 ≤ turnF t n ∧ turnF t n < (n : Int) := by
 unfold turnF; split <;> omega
theorem Zlq {q : List Int} {t : Int} {d : List Int} {ad : Bool} (h : RingOk q t d) : U (visL q t ad d) := by
 have := h.t0; have := h.tn; have := h.l
 unfold visL
 split
 ·exact Zgz (Z5y h.d (by omega)) (Z5y h.q (by omega))
 exact Z5y h.d (by omega)
theorem Zud {q : List Int} {t : Int} {d : List Int} {ad may : Bool} {sz : Int} (h : RingOk q t d) (hs : U sz) : Z2x sz may t ad q d = some (visF q t ad d sz may) := by
 have h0 := h.t0; have h1 := h.tn; have h2 := h.n; have h3 := h.l
 have hd : t.toNat < d.length := by omega
 have hq : t.toNat < q.length := by omega
 have hL := Zlq (ad := ad) h
 have z : U 0 := by unfold U; omega
 unfold Z2x
 rw [if_pos (by simp only [ofN, xlen]; omega)]
 simp only [pieq, pilt, Z6q (h.on z), Z6q h]
 unfold visF
 by_cases e1 : sz = 0
 ·rw [if_pos e1, if_pos (.inl e1)]; simp [setI, toN, Z6q (h.on z), Z7]
 rw [if_neg e1]
 cases may with
 | false => simp [setI, toN, Z6q (h.on z), Z7]
 | true =>
  have e0 : ¬ (sz = 0 ∨ true = false) := by simp [e1]
  rw [if_neg e0]
  simp only [if_true]
  cases ad with
  | true =>
   have e2 : visL q t true d = getI d (toN t) := by unfold visL; rfl
   simp only [if_true]
   rw [e2]
   rw [e2] at hL
   have e5 : d.set t.toNat (getI d (toN t)) = d := by simp [getI, toN, hd]
   split
   ·rw [e5]; rfl
   simp only [setI, isub]
   rw [pu64 (by omega) (by have := hL.hi; have := hs.lo; omega)]
   rfl
  | false =>
   simp only [Bool.false_eq_true, if_false]
   have e2 : visL q t false d = sadd (getI d (toN t)) (getI q (toN t)) := by unfold visL; rfl
   rw [if_pos (by simp only [ofN, xlen]; omega)]
   have e6 : Z1w (getI d (toN t)) (getI q (toN t)) = some (visL q t false d) := by rw [e2]; exact Zk7 (Z5y h.d hd) (Z5y h.q hq)
   have e3 : getI (setI d (toN t) (visL q t false d)) (toN t) = visL q t false d := by simp [getI, setI, toN, hd]
   have e4 := Z6q (ad := true) (l := setI d (toN t) (visL q t false d)) (h.on hL)
   rw [e6]
   simp only [Z7, e3, e4]
   split
   ·rfl
   simp only [setI, isub]
   rw [pu64 (by omega) (by have := hL.hi; have := hs.lo; omega)]
   simp [toN]
def vSz (v : D) : Int := (v.fld 0).toI
def vMay (v : D) : Bool := (v.fld 1).toB
def nextGo (q : List Int) (L : List D) : Nat → Int → Bool → List Int → Int × Int × Bool × List Int
 | 0, t, ad, d => (-1, t, ad, d)
 | n + 1, t, ad, d => match visF q t ad d (vSz (L.getD t.toNat (.i 0))) (vMay (L.getD t.toNat (.i 0))) with
  | (true, t', ad', d') => (t', t', ad', d')
  | (false, t', ad', d') => nextGo q L n t' ad' d'
def nextF (q : List Int) (L : List D) (t : Int) (ad : Bool) (d : List Int) : Int × Int × Bool × List Int :=
 if L.length = q.length then if L.length = 0 then (-1, t, ad, d) else nextGo q L (L.length + 1) t ad d else (-1, t, ad, d)
theorem Zhj {q : List Int} {t : Int} {d : List Int} {ad : Bool} {sz : Int} {may : Bool} (h : RingOk q t d) (hs : U sz) : RingOk q (visF q t ad d sz may).2.1 (visF q t ad d sz may).2.2.2 := by
 have hL := Zlq (ad := ad) h
 have hT := Zqt h.t0 h.tn
 have z : U 0 := by unfold U; omega
 have go : ∀ x, U x → RingOk q (turnF t q.length) (d.set t.toNat x) := fun x hx => ⟨hT.1, hT.2, h.n, (h.on hx).l, h.q, (h.on hx).d⟩
 unfold visF
 split
 ·exact go 0 z
 split
 ·exact go _ hL
 exact h.on (by have := hL.lo; have := hL.hi; have := hs.lo; unfold U; omega)
theorem Zqb {q : List Int} {L : List D} {t : Int} {d : List Int} {ad : Bool} (h : L.length = q.length → L.length ≠ 0 → RingOk q t d) (hv : ∀ x ∈ L, U (vSz x)) : Z32 L t ad q d = some (nextF q L t ad d) := by
 unfold Z32 nextF
 simp only [pieq, ofN, xlen]
 by_cases e1 : L.length = q.length
 ·rw [if_pos (by omega), if_pos e1]
  by_cases e2 : L.length = 0
  ·rw [if_pos (by omega), if_pos e2]
  rw [if_neg (by omega), if_neg e2]
  have key : ∀ (n i : Nat) (t : Int) (ad : Bool) (d : List Int), RingOk q t d → i + n = L.length + 1 → iter (Z56 L q) ((i : Int), t, ad, d) = some (nextGo q L n t ad d) := by
   intro n
   induction n with
   | zero =>
    intro i t ad d ok hi
    apply Zb
    unfold Z56
    have := ok.n
    have e : iadd .i64 (ofN (xlen L)) 1 = ((L.length + 1 : Nat) : Int) := pnext (n := L.length) (by omega)
    dsimp only [bindO]
    rw [if_neg (by rw [pilt, e]; omega)]
    rfl
   | succ n ih =>
    intro i t ad d ok hi
    have h0 := ok.t0; have h1 := ok.tn; have h2 := ok.n
    have e : iadd .i64 (ofN (xlen L)) 1 = ((L.length + 1 : Nat) : Int) := pnext (n := L.length) (by omega)
    have hl : t.toNat < L.length := by omega
    have hU : U (vSz (L.getD t.toNat (.i 0))) := by
     have : L.getD t.toNat (.i 0) = L[t.toNat] := by simp [hl]
     rw [this]; exact hv _ (List.getElem_mem hl)
    have hB : Z56 L q ((i : Int), t, ad, d) = match visF q t ad d (vSz (L.getD t.toNat (.i 0))) (vMay (L.getD t.toNat (.i 0))) with
      | (true, t', ad', d') => some (.inr (t', t', ad', d'))
      | (false, t', ad', d') => some (.inl (((i + 1 : Nat) : Int), t', ad', d')) := by
     unfold Z56
     dsimp only [bindO]
     rw [if_pos (by rw [pilt, e]; omega), if_pos (by simp only [ofN, xlen]; omega)]
     have : Z2x (D.toI (D.fld (getD L (toN t)) 0)) (D.toB (D.fld (getD L (toN t)) 1)) t ad q d = some (visF q t ad d (vSz (L.getD t.toNat (.i 0))) (vMay (L.getD t.toNat (.i 0)))) := Zud ok hU
     rw [this]
     rcases visF q t ad d (vSz (L.getD t.toNat (.i 0))) (vMay (L.getD t.toNat (.i 0))) with ⟨b, t', ad', d'⟩
     cases b with
     | true => rfl
     | false => simp only [Bool.false_eq_true, if_false, pnext (show i < 9223372036854775807 by omega)]
    have hok := Zhj (ad := ad) (may := vMay (L.getD t.toNat (.i 0))) ok hU
    unfold nextGo
    revert hB hok
    rcases visF q t ad d (vSz (L.getD t.toNat (.i 0))) (vMay (L.getD t.toNat (.i 0))) with ⟨b, t', ad', d'⟩
    cases b with
    | true => intro hB hok; exact Zb hB
    | false => intro hB hok; rw [Ze hB]; exact ih (i + 1) t' ad' d' hok (by omega)
  exact key (L.length + 1) 0 t ad d (h e1 e2) (by omega)
 rw [if_neg (by omega), if_neg e1]
theorem Zkg {t : Int} {ad : Bool} {l : List Int} (h : l.length ≤ 1000) : Z2k t ad l = some l := by
 unfold Z2k
 rw [if_pos (by simp only [ofN, xlen]; refine ⟨by omega, by omega, by simp; omega, by omega⟩)]
 congr 1
 exact pcopy l 0
theorem Zyl {l : List Int} (h : l.length ≤ 1000) : cloneU64 l = some l := by
 unfold cloneU64
 rw [if_pos (by simp only [xlen]; simp; omega)]
theorem Zzb {l : List Int} (h : l.length ≤ 1000) : Z1x l = some (l, List.replicate l.length 0) := by
 unfold Z1x
 rw [Zyl h]
 dsimp only [bindO]
 rw [if_pos (by simp only [ofN, xlen]; refine ⟨by omega, by omega, by simp; omega, by omega⟩)]
 rfl
theorem Zps {t : Int} {ad : Bool} {q l : List Int} (h : l.length ≤ 1000) : Z3b t ad q l = some l := by
 unfold Z3b
 rw [Zkg h]
 rfl
def smul (a b : Int) : Int := if a * b < 18446744073709551616 then a * b else 18446744073709551615
theorem Zkp {a b : Int} (ha : U a) (hb : U b) : U (smul a b) := by
 have := Int.mul_nonneg ha.lo hb.lo
 unfold smul U
 split <;> omega
theorem Zu8 {x y : Int} (hx : U x) (hy : U y) : Z4i x y = some (smul x y) := by
 have h0 := hx.lo; have h1 := hx.hi; have h2 := hy.lo; have h3 := hy.hi
 have hm := Int.mul_nonneg h0 h2
 unfold Z4i smul
 simp only [pilt, imul, pwu64]
 by_cases c : 0 < x
 ·rw [if_pos c, if_pos (by omega)]
  have e : iquo .u64 (18446744073709551615 : Int) x = 18446744073709551615 / x := by
   simp only [iquo]
   rw [Int.tdiv_eq_ediv_of_nonneg (by omega)]
   have q0 : 0 ≤ (18446744073709551615 : Int) / x := Int.ediv_nonneg (by omega) h0
   have q1 : (18446744073709551615 : Int) / x ≤ 18446744073709551615 := Int.ediv_le_self _ (by omega)
   exact pu64 q0 (by omega)
  rw [e]
  have k : (18446744073709551615 / x < y) ↔ (18446744073709551615 < y * x) := Int.ediv_lt_iff_lt_mul c
  rw [Int.mul_comm y x] at k
  by_cases d : x * y < 18446744073709551616
  ·rw [if_neg (by rw [k]; omega), if_pos d]; congr 1; omega
  rw [if_pos (by rw [k]; omega), if_neg d]
 have : x = 0 := by omega
 subst this
 rw [if_neg c, Int.zero_mul, if_pos (by omega)]; rfl
def fillA (x by_ n most : Int) : Int := max x (min most (sadd x (smul by_ n)))
theorem Zvy {x y n m : Int} (hx : U x) (hy : U y) (hn : U n) : Z3j x y n m = some (fillA x y n m) := by
 unfold Z3j
 rw [Zu8 hy hn, Z7]
 dsimp only
 rw [Zk7 hx (Zkp hy hn), Z7]
 rw [pimax, pimin]
 rfl
theorem Zvz {x y n m : Int} (hx : U x) (hy : U y) (hn : U n) (hm : U m) : U (fillA x y n m) := by
 have h := Zgz hx (Zkp hy hn)
 have := hx.lo; have := hx.hi; have := hm.lo; have := hm.hi; have := h.lo; have := h.hi
 unfold fillA U
 omega
structure A where
 key : List UInt8
 q : Int
 r : Int
 b : Int
 lim : Int
 sh : Bool
 br : Int
 bb : Int
 bt : Int
 ql : Int
 l : List Pk
deriving Inhabited
def encA (a : A) (ring : List D) (f : Nat) : D :=
 .l [.l [.s a.key, .i a.q, .i a.r, .i a.b, .i a.lim, .b a.sh], .l [.i a.br, .i a.bb, .i a.bt], .l [.i a.ql, .l ring, .i (f : Int), .i (a.l.length : Int)]]
def RC (d : D) (a : A) : Prop := ∃ ring f, d = encA a ring f ∧ QR f a.l.length ring a.l
structure AOk (a : A) : Prop where
 q : U a.q
 br : U a.br
 bb : U a.bb
 bt : U a.bt
 n : a.l.length ≤ 100000
 sz : ∀ p ∈ a.l, 1 ≤ p.2.2 ∧ p.2.2 ≤ 1500
structure Rep (r : List D) (n : Nat) (g : Nat → A) : Prop where
 len : r.length = n
 at_ : ∀ i, i < n → RC (r.getD i (.i 0)) (g i)
theorem Z6l {r : List D} {i : Nat} {d : D} (h : getD r i = d) : setD r i d = r := by
 subst h
 unfold setD getD
 apply List.ext_getElem (by simp)
 intro j h1 h2
 rw [List.getElem_set]
 split
 ·rename_i e; subst e; simp [List.getD_eq_getElem?_getD, h2]
 rfl
theorem Rep.set {r : List D} {n : Nat} {g g' : Nat → A} {i : Nat} {d : D} (h : Rep r n g) (hi : i < n) (hd : RC d (g' i)) (ho : ∀ j, j < n → j ≠ i → g' j = g j) : Rep (setD r i d) n g' := by
 refine ⟨by simp [setD, h.len], fun j hj => ?_⟩
 by_cases e : j = i
 ·subst e
  unfold setD
  rw [Zem (by rw [h.len]; exact hj)]
  exact hd
 unfold setD
 rw [getD_set_ne (Ne.symm e), ho j hj e]
 exact h.at_ j hj
theorem Rep.congr {r : List D} {n : Nat} {g g' : Nat → A} (h : Rep r n g) (ho : ∀ j, j < n → g' j = g j) : Rep r n g' :=
 ⟨h.len, fun j hj => by rw [ho j hj]; exact h.at_ j hj⟩
def clsIn (d : D) (x : Int) : Bool := decide ((d.fld 0).toI ≤ x) && decide (x ≤ (d.fld 1).toI)
def clsA (rules : List D) (df x : Int) : Int := match rules.find? fun d => clsIn d x with
 | some d => (d.fld 2).toI
 | none => df
theorem Zo2 {a b c x : Int} : Z3g a b c x = some (decide (a ≤ x) && decide (x ≤ b)) := by
 unfold Z3g
 simp only [pile]
 by_cases h : a ≤ x
 ·rw [if_pos h]; simp [h, ile]
 rw [if_neg h]; simp [h]
theorem Zxz {r : List D} {x : Int} (hr : r.length ≤ 1000000) : Z2i r x = some (match r.findIdx? fun d => clsIn d x with | some i => (i : Int) | none => -1) := by
 unfold Z2i
 have key : ∀ (m i : Nat), i + m = r.length → (∀ j, j < i → (h : j < r.length) → clsIn r[j] x = false) → iter (Z5g r x) (i : Int) = some (match r.findIdx? fun d => clsIn d x with | some i => (i : Int) | none => -1) := by
  intro m
  induction m with
  | zero =>
   intro i hi hp
   apply Zb
   unfold Z5g
   dsimp only
   rw [if_neg (by rw [pilt]; simp only [ofN, xlen]; omega)]
   have : r.findIdx? (fun d => clsIn d x) = none := by
    rw [List.findIdx?_eq_none_iff]
    intro d hd
    obtain ⟨j, hj, rfl⟩ := List.getElem_of_mem hd
    exact hp j (by omega) hj
   rw [this]
  | succ m ih =>
   intro i hi hp
   have hl : i < r.length := by omega
   by_cases c : clsIn r[i] x = true
   ·apply Zb
    unfold Z5g
    dsimp only
    rw [if_pos (by rw [pilt]; simp only [ofN, xlen]; omega), if_pos (by simp only [ofN, xlen]; omega), Zo2, Z7, ptoN, pgetD hl]
    have c' : (decide ((r[i].fld 0).toI ≤ x) && decide (x ≤ (r[i].fld 1).toI)) = true := c
    rw [if_pos c']
    have : r.findIdx? (fun d => clsIn d x) = some i := by
     rw [List.findIdx?_eq_some_iff_getElem]
     exact ⟨hl, c, fun j hj => by rw [hp j hj (by omega)]; simp⟩
    rw [this]
   rw [Ze (y := ((i + 1 : Nat) : Int))]
   ·exact ih (i + 1) (by omega) fun j hj h => by
     by_cases e : j = i
     ·subst e; simpa using c
     exact hp j (by omega) h
   unfold Z5g
   dsimp only
   rw [if_pos (by rw [pilt]; simp only [ofN, xlen]; omega), if_pos (by simp only [ofN, xlen]; omega), Zo2, Z7, ptoN, pgetD hl]
   have c' : ¬ (decide ((r[i].fld 0).toI ≤ x) && decide (x ≤ (r[i].fld 1).toI)) = true := c
   rw [if_neg c', pnext (by omega)]
 exact key r.length 0 (by omega) fun j hj => by omega
theorem Znc {r : List D} {df x : Int} (hr : r.length ≤ 1000000) : Z35 df x r = some (clsA r df x) := by
 unfold Z35
 rw [Zxz hr, Z7]
 unfold clsA
 cases h : r.findIdx? (fun d => clsIn d x) with
 | none =>
  have : r.find? (fun d => clsIn d x) = none := by
   rw [List.findIdx?_eq_none_iff] at h
   rw [List.find?_eq_none]
   intro d hd; rw [h d hd]; simp
  rw [this]
  dsimp only
  rw [if_pos (by rw [pilt]; omega)]
 | some i =>
  obtain ⟨hi, h1, h2⟩ := List.findIdx?_eq_some_iff_getElem.1 h
  have : r.find? (fun d => clsIn d x) = some r[i] := by
   rw [List.find?_eq_some_iff_getElem]
   exact ⟨h1, i, hi, rfl, fun j hj => by have := h2 j hj; simpa using this⟩
  rw [this]
  dsimp only
  rw [if_neg (by rw [pilt]; omega), if_pos (by simp only [ofN, xlen]; omega), ptoN, pgetD hi]
theorem Z7r {r : List D} {df x n : Int} (h0 : 0 ≤ df ∧ df < n) (hr : ∀ d ∈ r, 0 ≤ (d.fld 2).toI ∧ (d.fld 2).toI < n) : 0 ≤ clsA r df x ∧ clsA r df x < n := by
 unfold clsA
 cases h : r.find? (fun d => clsIn d x) with
 | none => exact h0
 | some d => exact hr d (List.mem_of_find?_eq_some h)
def badP (flow size : Int) : Bool := decide (flow < 0) || decide (65535 < flow) || decide (size < 1) || decide (1500 < size)
def putA (a : A) (p : Pk) : A := { a with l := a.l ++ [p] }
def updA (g : Nat → A) (i : Nat) (a : A) : Nat → A := fun j => if j = i then a else g j
def arrS (g : Nat → A) (seq : Int) (c : Nat) (flow size : Int) : Pk × Int × Int × (Nat → A) :=
 if badP flow size = true then ((0, 0, 0), 1, seq, g)
 else if (g c).ql ≤ ((g c).l.length : Int) then ((0, 0, 0), 35, seq, g)
 else ((seq + 1, flow, size), 0, seq + 1, updA g c (putA (g c) (seq + 1, flow, size)))
theorem Z7u {flow size df seq x5 : Int} {s : List UInt8} {b1 b2 : Bool} {r1 r2 r : List D} {n : Nat} {l1 l2 : List Int} {g : Nat → A}
  (hR : Rep r n g) (hr : r2.length ≤ 1000000) (hc : 0 ≤ clsA r2 df flow ∧ clsA r2 df flow < (n : Int)) (hg : ∀ i, i < n → AOk (g i)) (hs : 0 ≤ seq ∧ seq ≤ 1000000) :
  ∃ r', Z10 flow size s b1 df seq r1 r2 n x5 b2 r l1 l2 = some ((arrS g seq (clsA r2 df flow).toNat flow size).1.1, (arrS g seq (clsA r2 df flow).toNat flow size).1.2.1, (arrS g seq (clsA r2 df flow).toNat flow size).1.2.2,
   (arrS g seq (clsA r2 df flow).toNat flow size).2.1, (arrS g seq (clsA r2 df flow).toNat flow size).2.2.1, r') ∧ Rep r' n (arrS g seq (clsA r2 df flow).toNat flow size).2.2.2 := by
 unfold Z10 arrS badP
 simp only [pilt]
 by_cases c1 : flow < 0
 ·rw [if_pos c1]; simp only [c1, decide_true, Bool.true_or, if_true]; exact ⟨r, rfl, hR⟩
 rw [if_neg c1]
 by_cases c2 : 65535 < flow
 ·rw [if_pos c2]; simp only [c2, decide_true, Bool.or_true, Bool.true_or, if_true]; exact ⟨r, rfl, hR⟩
 rw [if_neg c2]
 by_cases c3 : size < 1
 ·rw [if_pos c3]; simp only [c3, decide_true, Bool.or_true, Bool.true_or, if_true]; exact ⟨r, rfl, hR⟩
 rw [if_neg c3]
 by_cases c4 : 1500 < size
 ·rw [if_pos c4]; simp only [c4, decide_true, Bool.or_true, Bool.true_or, if_true]; exact ⟨r, rfl, hR⟩
 rw [if_neg c4]
 simp only [c1, c2, c3, c4, decide_false, Bool.or_false, Bool.false_eq_true, if_false]
 rw [Znc hr, Z7]
 obtain ⟨k, hk⟩ : ∃ k : Nat, clsA r2 df flow = (k : Int) := ⟨(clsA r2 df flow).toNat, by omega⟩
 rw [hk] at hc ⊢
 have hkn : k < n := by omega
 rw [if_pos (by simp only [ofN]; omega), ptoN]
 simp only [Int.toNat_natCast]
 obtain ⟨ring, f, he, hq⟩ := hR.at_ k hkn
 have he' : getD r k = encA (g k) ring f := he
 rw [he']
 have e1 : iadd .u64 seq 1 = seq + 1 := by simp only [iadd]; exact pu64 (by omega) (by omega)
 rw [e1]
 have hn := (hg k hkn).n
 rcases Zse (a := seq + 1) (b := flow) (c := size) (lim := (g k).ql) hq (by omega) with ⟨h1, h2⟩ | ⟨h1, f', r', h2, h3⟩
 ·rw [if_pos h1]
  show ∃ r', bindO (Z1j (seq + 1) flow size (g k).ql (f : Int) ((g k).l.length : Int) ring) _ = _ ∧ _
  rw [h2, Z7]
  dsimp only
  rw [if_neg (by simp)]
  refine ⟨_, rfl, ?_⟩
  exact hR.set hkn ⟨ring, f, rfl, hq⟩ fun j _ _ => rfl
 rw [if_neg (by omega)]
 show ∃ r', bindO (Z1j (seq + 1) flow size (g k).ql (f : Int) ((g k).l.length : Int) ring) _ = _ ∧ _
 rw [h2, Z7]
 dsimp only
 rw [if_pos rfl]
 refine ⟨_, rfl, ?_⟩
 refine hR.set hkn (d := D.l [_, _, _]) ⟨r', f', ?_, ?_⟩ fun j _ hj => by simp [updA, hj]
 ·simp only [updA, if_true, encA, putA, List.length_append, List.length_cons, List.length_nil]
  rfl
 simpa [updA, putA] using h3
def tickA (x : Int) (a : A) : A := { a with bt := fillA a.bt a.br x a.bb }
theorem Z10b {x : Int} {a : A} (hx : U x) (h : AOk a) : AOk (tickA x a) := ⟨h.q, h.br, h.bb, Zvz h.bt h.br hx h.bb, h.n, h.sz⟩
theorem Zmr {x df seq x5 : Int} {s : List UInt8} {b1 b2 : Bool} {r1 r2 r : List D} {n : Nat} {l1 l2 : List Int} {g : Nat → A} (hR : Rep r n g) (hx : U x) (hn : n ≤ 1000000) (hg : ∀ i, i < n → AOk (g i)) :
  ∃ r', Z2p x s b1 df seq r1 r2 n x5 b2 r l1 l2 = some r' ∧ Rep r' n fun i => tickA x (g i) := by
 unfold Z2p
 have key : ∀ (m i : Nat) (r4 : List D), i + m = n → Rep r4 n (fun j => if j < i then tickA x (g j) else g j) → ∃ r', iter (Z6r n x) ((i : Int), r4) = some r' ∧ Rep r' n fun i => tickA x (g i) := by
  intro m
  induction m with
  | zero =>
   intro i r4 hi h4
   refine ⟨r4, ?_, h4.congr fun j hj => by simp [show j < i by omega]⟩
   apply Zb
   unfold Z6r
   dsimp only
   rw [if_neg (by rw [pilt]; simp only [ofN]; omega)]
  | succ m ih =>
   intro i r4 hi h4
   have hin : i < n := by omega
   obtain ⟨ring, f, he, hq⟩ := h4.at_ i hin
   simp only [Nat.lt_irrefl, if_false] at he hq
   have he' : getD r4 i = encA (g i) ring f := he
   have hA := hg i hin
   have ht : Z2r (g i).br (g i).bb (g i).bt x = some (fillA (g i).bt (g i).br x (g i).bb) := by
    unfold Z2r
    rw [Zvy hA.bt hA.br hx, Z7]
   obtain ⟨r', h1, h2⟩ := ih (i + 1) (setD r4 i (encA (tickA x (g i)) ring f)) (by omega) (h4.set hin ⟨ring, f, by simp, by simpa [tickA] using hq⟩ fun j _ hj => by
    by_cases c : j < i
    ·simp [c, show j < i + 1 by omega]
    simp [c, show ¬ j < i + 1 by omega])
   refine ⟨r', ?_, h2⟩
   rw [← h1]
   apply Ze
   unfold Z6r
   dsimp only
   rw [if_pos (by rw [pilt]; simp only [ofN]; omega), if_pos (by simp only [ofN]; omega), ptoN, he']
   show bindO (Z2r (g i).br (g i).bb (g i).bt x) _ = _
   rw [ht, Z7, pnext (by omega)]
   rfl
 exact key n 0 r (by omega) (hR.congr fun j _ => by simp)
def viewA (up : Bool) (a : A) : Int × Bool := match a.l with
 | [] => (0, false)
 | p :: _ => (p.2.2, up && (!a.sh || decide (p.2.2 ≤ a.bt)))
def vD (v : Int × Bool) : D := .l [.i v.1, .b v.2]
theorem Zs4 {up : Bool} {a : A} (h : AOk a) : U (viewA up a).1 := by
 unfold viewA U
 cases hl : a.l with
 | nil => simp
 | cons p l => have := h.sz p (by rw [hl]; simp); simp; omega
theorem Zzt {s s2 : List UInt8} {up b3 : Bool} {df seq x3 x4 x5 x6 x7 x8 x10 : Int} {r1 r2 r3 ring : List D} {n n2 f : Nat} {l1 l2 : List Int} {a : A} (hA : AOk a) (hq : QR f a.l.length ring a.l) :
  Z4c s up df seq s2 x3 x4 x5 x6 a.sh x7 x8 a.bt r1 r2 n x10 b3 a.ql (f : Int) (a.l.length : Int) r3 n2 l1 l2 ring = some (viewA up a) := by
 unfold Z4c viewA
 rw [Zoe hq, Z7]
 cases hl : a.l with
 | nil => rfl
 | cons p l =>
  have hp := hA.sz p (by rw [hl]; simp)
  simp only [headOf, if_true]
  have e : iconv .u64 p.2.2 = p.2.2 := by simp only [iconv]; exact pu64 (by omega) (by omega)
  rw [e]
  cases up <;> cases a.sh <;> simp [ile]
def viewsS (up : Bool) (n : Nat) (g : Nat → A) : List D := (List.range n).map fun i => vD (viewA up (g i))
def popA (a : A) (p : Pk) (l : List Pk) : A := { a with l := l, bt := if a.sh = true then (if a.bt < p.2.2 then a.bt else a.bt - p.2.2) else a.bt }
def goS (g : Nat → A) (i : Nat) : Pk × (Nat → A) := match (g i).l with
 | [] => ((0, 0, 0), g)
 | p :: l => (p, updA g i (popA (g i) p l))
def nextS (up : Bool) (n : Nat) (g : Nat → A) (q : List Int) (t : Int) (ad : Bool) (d : List Int) : (Pk × List UInt8 × Bool) × (Int × Bool × List Int) × (Nat → A) :=
 let v := nextF q (viewsS up n g) t ad d
 if v.1 < 0 then (((0, 0, 0), [], false), v.2, g)
 else (((goS g v.1.toNat).1, (g v.1.toNat).key, true), v.2, (goS g v.1.toNat).2)
theorem Zy0 {q : List Int} {t : Int} {d : List Int} {ad : Bool} {sz : Int} {may : Bool} (h : (visF q t ad d sz may).1 = true) : sz ≠ 0 ∧ may = true ∧ (visF q t ad d sz may).2.1 = t := by
 unfold visF at h ⊢
 by_cases c : sz = 0 ∨ may = false
 ·rw [if_pos c] at h; cases h
 rw [if_neg c] at h ⊢
 by_cases c2 : visL q t ad d < sz
 ·rw [if_pos c2] at h; cases h
 rw [if_neg c2]
 refine ⟨fun e => c (.inl e), ?_, rfl⟩
 cases may with
 | true => rfl
 | false => exact absurd (.inr rfl) c
theorem Zm0 {q : List Int} {L : List D} (hv : ∀ x ∈ L, U (vSz x)) (hL : L.length = q.length) : ∀ (n : Nat) (t : Int) (ad : Bool) (d : List Int), RingOk q t d →
  RingOk q (nextGo q L n t ad d).2.1 (nextGo q L n t ad d).2.2.2 ∧ ((nextGo q L n t ad d).1 = -1 ∨ (0 ≤ (nextGo q L n t ad d).1 ∧ (nextGo q L n t ad d).1 < q.length ∧ vSz (L.getD (nextGo q L n t ad d).1.toNat (.i 0)) ≠ 0 ∧ vMay (L.getD (nextGo q L n t ad d).1.toNat (.i 0)) = true))
 | 0, t, ad, d, h => ⟨h, .inl rfl⟩
 | n + 1, t, ad, d, h => by
  have h0 := h.t0; have h1 := h.tn
  have hl : t.toNat < L.length := by omega
  have hU : U (vSz (L.getD t.toNat (.i 0))) := by
   have : L.getD t.toNat (.i 0) = L[t.toNat] := by simp [hl]
   rw [this]; exact hv _ (List.getElem_mem hl)
  have hok := Zhj (ad := ad) (may := vMay (L.getD t.toNat (.i 0))) h hU
  have hgo := Zy0 (q := q) (t := t) (ad := ad) (d := d) (sz := vSz (L.getD t.toNat (.i 0))) (may := vMay (L.getD t.toNat (.i 0)))
  unfold nextGo
  revert hok hgo
  rcases visF q t ad d (vSz (L.getD t.toNat (.i 0))) (vMay (L.getD t.toNat (.i 0))) with ⟨b, t', ad', d'⟩
  cases b with
  | true =>
   intro hok hgo
   obtain ⟨g1, g2, g3⟩ := hgo rfl
   dsimp only at g3 ⊢
   subst g3
   exact ⟨hok, .inr ⟨h0, h1, g1, g2⟩⟩
  | false =>
   intro hok _
   exact Zm0 hv hL n t' ad' d' hok
theorem Z8c {up : Bool} {n : Nat} {g : Nat → A} : (viewsS up n g).length = n := by simp [viewsS]
theorem Zs2 {up : Bool} {n i : Nat} {g : Nat → A} (h : i < n) : (viewsS up n g).getD i (.i 0) = vD (viewA up (g i)) := by simp [viewsS, h]
theorem Znv {up : Bool} {n : Nat} {g : Nat → A} (hg : ∀ i, i < n → AOk (g i)) : ∀ x ∈ viewsS up n g, U (vSz x) := by
 intro x hx
 obtain ⟨i, hi, rfl⟩ := List.mem_map.1 hx
 exact Zs4 (hg i (by simpa using hi))
theorem Zit {up : Bool} {n : Nat} {g : Nat → A} {q : List Int} {t : Int} {ad : Bool} {d : List Int} (hg : ∀ i, i < n → AOk (g i)) (hq : q.length = n) (h : RingOk q t d) :
  RingOk q (nextF q (viewsS up n g) t ad d).2.1 (nextF q (viewsS up n g) t ad d).2.2.2 ∧ ((nextF q (viewsS up n g) t ad d).1 = -1 ∨ ∃ (i : Nat) (p : Pk) (l : List Pk), (nextF q (viewsS up n g) t ad d).1 = (i : Int) ∧ i < n ∧ (g i).l = p :: l ∧ up = true ∧ ((g i).sh = true → p.2.2 ≤ (g i).bt)) := by
 have hv := Znv (up := up) hg
 unfold nextF
 rw [if_pos (by rw [Z8c, hq])]
 have h0 := h.t0; have h1 := h.tn
 rw [if_neg (by rw [Z8c]; omega)]
 obtain ⟨h2, h3⟩ := Zm0 hv (by rw [Z8c, hq]) ((viewsS up n g).length + 1) t ad d h
 refine ⟨h2, h3.imp id ?_⟩
 rintro ⟨h4, h5, h6, h7⟩
 generalize (nextGo q (viewsS up n g) ((viewsS up n g).length + 1) t ad d).1 = y at *
 obtain ⟨i, rfl⟩ := Int.eq_ofNat_of_zero_le h4
 have hin : i < n := by omega
 rw [Int.toNat_natCast, Zs2 hin] at h6 h7
 cases hl : (g i).l with
 | nil => exact absurd (by simp [viewA, hl, vD, vSz, D.fld, D.toL, D.toI]) h6
 | cons p l =>
  have h8 : (up && (!(g i).sh || decide (p.2.2 ≤ (g i).bt))) = true := by
   have : vMay (vD (viewA up (g i))) = (viewA up (g i)).2 := rfl
   rw [this] at h7
   simpa [viewA, hl] using h7
  simp only [Bool.and_eq_true, Bool.or_eq_true, Bool.not_eq_true', decide_eq_true_eq] at h8
  refine ⟨i, p, l, rfl, hin, hl, h8.1, fun hs => ?_⟩
  rcases h8.2 with h9 | h9
  ·rw [hs] at h9; cases h9
  exact h9
theorem Z7c {s : List UInt8} {up ad : Bool} {df seq t : Int} {r1 r2 r : List D} {n : Nat} {q d : List Int} {g : Nat → A} (hR : Rep r n g) (hn : n ≤ 1000) (hg : ∀ i, i < n → AOk (g i)) (hq : q.length = n) (h : RingOk q t d) :
  ∃ r', Z13 s up df seq r1 r2 n t ad r q d = some ((nextS up n g q t ad d).1.1.1, (nextS up n g q t ad d).1.1.2.1, (nextS up n g q t ad d).1.1.2.2, (nextS up n g q t ad d).1.2.1, (nextS up n g q t ad d).1.2.2,
   (nextS up n g q t ad d).2.1.1, (nextS up n g q t ad d).2.1.2.1, (nextS up n g q t ad d).2.1.2.2, r') ∧ Rep r' n (nextS up n g q t ad d).2.2 := by
 unfold Z13
 have key : ∀ (m i : Nat), i + m = n → iter (Z22 n s up df seq r1 r2 t ad q d) ((i : Int), viewsS up i g, r) = iter (Z22 n s up df seq r1 r2 t ad q d) ((n : Int), viewsS up n g, r) := by
  intro m
  induction m with
  | zero =>
   intro i hi
   have : i = n := by omega
   subst this
   rfl
  | succ m ih =>
   intro i hi
   have hin : i < n := by omega
   rw [← ih (i + 1) (by omega)]
   apply Ze
   obtain ⟨ring, f, he, hqr⟩ := hR.at_ i hin
   have he' : getD r i = encA (g i) ring f := he
   unfold Z22
   dsimp only
   rw [if_pos (by rw [pilt]; simp only [ofN]; omega), if_pos (by simp only [ofN]; omega), ptoN, he']
   have hv := Zzt (s := s) (s2 := (g i).key) (up := up) (b3 := ad) (df := df) (seq := seq) (x3 := (g i).q) (x4 := (g i).r) (x5 := (g i).b) (x6 := (g i).lim) (x7 := (g i).br) (x8 := (g i).bb) (x10 := t) (r1 := r1) (r2 := r2) (r3 := r) (n := n) (n2 := i) (l1 := q) (l2 := d) (hg i hin) hqr
   refine (congrArg (fun o => bindO o _) hv).trans ?_
   rw [Z7]
   have hb : viewsS up (i + 1) g = viewsS up i g ++ [vD (viewA up (g i))] := by simp [viewsS, List.range_succ]
   have hl : (viewsS up i g).length = i := Z8c
   rw [hb]
   generalize viewsS up i g = V at *
   generalize hw : viewA up (g i) = w
   obtain ⟨w1, w2⟩ := w
   dsimp only
   rw [if_pos (by simp only [xlen, List.length_cons, List.length_nil]; omega), pnext (by omega)]
   have hset : setD r i (encA (g i) ring f) = r := Z6l he'
   exact congrArg (fun z => some (Sum.inl (((i + 1 : Nat) : Int), V ++ [vD (w1, w2)], z))) hset
 have k0 := key n 0 (by omega)
 rw [show viewsS up 0 g = [] from rfl] at k0
 have k1 : iter (Z22 n s up df seq r1 r2 t ad q d) ((0 : Int), ([] : List D), r) = iter (Z22 n s up df seq r1 r2 t ad q d) ((n : Int), viewsS up n g, r) := k0
 rw [k1]
 obtain ⟨hok, hgo⟩ := Zit (up := up) (ad := ad) hg hq h
 have hF : Z32 (viewsS up n g) t ad q d = some (nextF q (viewsS up n g) t ad d) := Zqb (fun _ _ => h) (Znv hg)
 unfold nextS
 generalize hNF : nextF q (viewsS up n g) t ad d = v at *
 obtain ⟨v1, v2, v3, v4⟩ := v
 dsimp only at hok hgo ⊢
 have main : ∃ r', Z22 n s up df seq r1 r2 t ad q d ((n : Int), viewsS up n g, r) = some (.inr ((if v1 < 0 then (((0, 0, 0), [], false), (v2, v3, v4), g) else (((goS g v1.toNat).1, (g v1.toNat).key, true), (v2, v3, v4), (goS g v1.toNat).2)).1.1.1, (if v1 < 0 then ((((0, 0, 0) : Pk), ([] : List UInt8), false), (v2, v3, v4), g) else (((goS g v1.toNat).1, (g v1.toNat).key, true), (v2, v3, v4), (goS g v1.toNat).2)).1.1.2.1, (if v1 < 0 then ((((0, 0, 0) : Pk), ([] : List UInt8), false), (v2, v3, v4), g) else (((goS g v1.toNat).1, (g v1.toNat).key, true), (v2, v3, v4), (goS g v1.toNat).2)).1.1.2.2, (if v1 < 0 then ((((0, 0, 0) : Pk), ([] : List UInt8), false), (v2, v3, v4), g) else (((goS g v1.toNat).1, (g v1.toNat).key, true), (v2, v3, v4), (goS g v1.toNat).2)).1.2.1, (if v1 < 0 then ((((0, 0, 0) : Pk), ([] : List UInt8), false), (v2, v3, v4), g) else (((goS g v1.toNat).1, (g v1.toNat).key, true), (v2, v3, v4), (goS g v1.toNat).2)).1.2.2, v2, v3, v4, r')) ∧ Rep r' n (if v1 < 0 then g else (goS g v1.toNat).2) := by
  unfold Z22
  dsimp only
  rw [if_neg (by rw [pilt]; simp only [ofN]; omega), hF, Z7]
  dsimp only
  rcases hgo with rfl | ⟨i, p, l, rfl, hin, hl, hup, hsh⟩
  ·exact ⟨r, by rw [if_pos (by rw [pilt]; omega)]; rfl, hR⟩
  have hneg : ¬ ((i : Int) < 0) := by omega
  simp only [if_neg hneg]
  rw [if_neg (by rw [pilt]; omega), if_pos (by simp only [ofN]; omega), ptoN]
  simp only [Int.toNat_natCast]
  obtain ⟨ring, f, he, hqr⟩ := hR.at_ i hin
  have he' : getD r i = encA (g i) ring f := he
  rw [he']
  have hA := hg i hin
  have hnn := hA.n
  rcases Zvf (lim := (g i).ql) hqr (by omega) with ⟨e, _⟩ | ⟨p', l', f', e, hp, hQ⟩
  ·rw [hl] at e; cases e
  rw [hl] at e
  obtain ⟨rfl, rfl⟩ := List.cons.inj e
  have hp2 := hA.sz p (by rw [hl]; simp)
  have ec : iconv .u64 p.2.2 = p.2.2 := by simp only [iconv]; exact pu64 (by omega) (by omega)
  have hgS : goS g i = (p, updA g i (popA (g i) p l)) := by unfold goS; rw [hl]
  rw [hgS]
  have hlen : (g i).l.length - 1 = l.length := by rw [hl]; simp
  rw [hlen] at hp hQ
  show ∃ r', bindO (Z1v (g i).ql (f : Int) ((g i).l.length : Int) ring) _ = _ ∧ _
  rw [hp, Z7]
  dsimp only
  have fin : ∀ bt', bt' = (popA (g i) p l).bt → Rep (setD r i (encA { g i with bt := bt', l := l } ring f')) n (updA g i (popA (g i) p l)) := by
   rintro _ rfl
   refine hR.set hin ⟨ring, f', by simp only [updA, if_true]; rfl, by simpa [updA, popA] using hQ⟩ fun j _ hj => by simp [updA, hj]
  by_cases cs : (g i).sh = true
  ·have ht : Z3x (g i).br (g i).bb (g i).bt p.2.2 = some ((g i).bt - p.2.2, true) := by
    have := hsh cs
    have := hA.bt.hi
    unfold Z3x
    rw [if_neg (by rw [pilt]; omega)]
    have e5 : isub .u64 (g i).bt p.2.2 = (g i).bt - p.2.2 := by simp only [isub]; exact pu64 (by omega) (by omega)
    rw [e5]
   refine ⟨_, ?_, fin ((g i).bt - p.2.2) (by have := hsh cs; simp only [popA]; rw [if_pos cs, if_neg (by omega)])⟩
   refine (if_pos (show (g i).sh = true from cs)).trans ?_
   rw [ec]
   refine (congrArg (fun o => bindO o _) ht).trans ?_
   rfl
  refine ⟨_, ?_, fin (g i).bt (by simp only [popA]; rw [if_neg cs])⟩
  refine (if_neg (show ¬ (g i).sh = true from cs)).trans ?_
  rfl
 obtain ⟨r', h1, h2⟩ := main
 refine ⟨r', Zb ?_, ?_⟩
 ·rw [h1]
  by_cases c : v1 < 0
  ·simp only [if_pos c]
  simp only [if_neg c]
 by_cases c : v1 < 0
 ·simp only [if_pos c] at h2 ⊢; exact h2
 simp only [if_neg c] at h2 ⊢; exact h2
def allN (n : Nat) (P : Nat → Bool) : Bool := (List.range n).all P
theorem Z1c {n : Nat} {P : Nat → Bool} : allN n P = true ↔ ∀ i, i < n → P i = true := by
 simp [allN, List.all_eq_true]
theorem Z15 {B : Int → Option (Int ⊕ Bool)} {P : Nat → Bool} {n : Nat} {e : Bool} (hs : ∀ i, i < n → B (i : Int) = if P i = true then some (.inl ((i + 1 : Nat) : Int)) else some (.inr false))
  (he : B (n : Int) = some (.inr e)) : iter B (0 : Int) = some (allN n P && e) := by
 have key : ∀ (m i : Nat), i + m = n → (∀ j, j < i → P j = true) → iter B (i : Int) = some (allN n P && e) := by
  intro m
  induction m with
  | zero =>
   intro i hi hp
   have : i = n := by omega
   subst this
   rw [Zb he, Z1c.2 hp, Bool.true_and]
  | succ m ih =>
   intro i hi hp
   by_cases c : P i = true
   ·rw [Ze ((hs i (by omega)).trans (if_pos c))]
    exact ih (i + 1) (by omega) fun j hj => by
     by_cases e : j = i
     ·subst e; exact c
     exact hp j (by omega)
   rw [Zb ((hs i (by omega)).trans (if_neg c))]
   have : allN n P = false := by
    cases h : allN n P with
    | false => rfl
    | true => exact absurd (Z1c.1 h i (by omega)) c
   rw [this, Bool.false_and]
 exact key n 0 (by omega) fun j hj => by omega
def cKey (d : D) : List UInt8 := (d.fld 0).toS
def cQ (d : D) : Int := (d.fld 1).toI
def cLim (d : D) : Int := (d.fld 4).toI
def clsOk (r1 : List D) (i : Nat) : Bool :=
 !decide (cQ (getD r1 i) < 1500) && !decide (cLim (getD r1 i) < 1) && !decide (64 < cLim (getD r1 i)) && (decide (i = 0) || slt (cKey (getD r1 (i - 1))) (cKey (getD r1 i)))
def inN (n : Nat) (x : Int) : Bool := decide (0 ≤ x) && decide (x < (n : Int))
def rightB (r1 r2 : List D) (df : Int) : Bool :=
 !decide (r1.length < 1) && !decide (8 < r1.length) && inN r1.length df && (allN r1.length (clsOk r1) && (allN r2.length (fun i => inN r1.length ((getD r2 i).fld 2).toI) && true))
theorem Zhe {x : Int} {n : Nat} : Z14 x (ofN n) = some (inN n x) := by
 unfold Z14 inN
 simp only [pile]
 by_cases h : 0 ≤ x
 ·rw [if_pos h]; show some (decide (x < (n : Int))) = _; simp [h]
 rw [if_neg h]; simp [h]
theorem Zy6 {r1 r2 : List D} (hn : r1.length ≤ 1000000) (i : Nat) (hi : i < r1.length) : Z45 r1 r2 (i : Int) = if clsOk r1 i = true then some (.inl ((i + 1 : Nat) : Int)) else some (.inr false) := by
 unfold Z45
 dsimp only
 rw [if_pos (by rw [pilt]; simp only [ofN, xlen]; omega), if_pos (by simp only [ofN, xlen]; omega), ptoN]
 unfold clsOk
 have e1 : D.toI (D.fld (getD r1 i) 1) = cQ (getD r1 i) := rfl
 have e2 : D.toI (D.fld (getD r1 i) 4) = cLim (getD r1 i) := rfl
 rw [e1, e2]
 simp only [pilt]
 by_cases c1 : cQ (getD r1 i) < 1500
 ·rw [if_pos c1]; simp [c1]
 rw [if_neg c1]
 by_cases c2 : cLim (getD r1 i) < 1
 ·rw [if_pos c2]; simp [c2]
 rw [if_neg c2]
 by_cases c3 : 64 < cLim (getD r1 i)
 ·rw [if_pos c3]; simp [c3]
 rw [if_neg c3]
 simp only [c1, c2, c3, decide_false, Bool.not_false, Bool.true_and]
 by_cases c4 : i = 0
 ·subst c4
  rw [if_neg (by omega), pnext (by omega)]
  simp
 rw [if_pos (by omega)]
 have e3 : isub .i64 (i : Int) 1 = ((i - 1 : Nat) : Int) := by simp only [isub]; rw [pwi64 (by omega) (by omega)]; omega
 rw [e3, if_pos (by simp only [ofN, xlen]; omega), ptoN, pnext (by omega)]
 simp only [c4, decide_false, Bool.false_or]
 rfl
theorem Z5h {s : List UInt8} {b : Bool} {r1 r2 : List D} {df : Int} (hn : r1.length ≤ 1000000) (hr : r2.length ≤ 1000000) : Zz s b r1 r2 df = some (rightB r1 r2 df) := by
 unfold Zz rightB
 simp only [pilt, ofN, xlen]
 by_cases c1 : r1.length < 1
 ·rw [if_pos (by omega)]; simp [c1]
 rw [if_neg (by omega)]
 by_cases c2 : 8 < r1.length
 ·rw [if_pos (by omega)]; simp [c2]
 rw [if_neg (by omega)]
 have hin : Z14 df (r1.length : Int) = some (inN r1.length df) := Zhe
 rw [hin, Z7]
 by_cases c3 : inN r1.length df = true
 ·rw [if_pos c3]
  simp only [c1, c2, c3, decide_false, Bool.not_false, Bool.true_and]
  refine Z15 (P := clsOk r1) (n := r1.length) (fun i hi => Zy6 hn i hi) ?_
  unfold Z45
  dsimp only
  rw [if_neg (by rw [pilt]; simp only [ofN, xlen]; omega)]
  have := Z15 (B := Z41 r2 r1) (P := fun i => inN r1.length ((getD r2 i).fld 2).toI) (n := r2.length) (e := true) (fun i hi => by
   unfold Z41
   dsimp only
   rw [if_pos (by rw [pilt]; simp only [ofN, xlen]; omega), if_pos (by simp only [ofN, xlen]; omega), ptoN]
   have h2 : Z14 (D.toI (D.fld (getD r2 i) 2)) (ofN (xlen r1)) = some (inN r1.length ((getD r2 i).fld 2).toI) := Zhe
   rw [h2, Z7, pnext (by omega)]) (by
   unfold Z41
   dsimp only
   rw [if_neg (by rw [pilt]; simp only [ofN, xlen]; omega)])
  rw [this]
  rfl
 rw [if_neg c3]
 simp [c3]
structure RightP (r1 r2 : List D) (df : Int) : Prop where
 n1 : 1 ≤ r1.length
 n8 : r1.length ≤ 8
 df : 0 ≤ df ∧ df < (r1.length : Int)
 q : ∀ i, i < r1.length → 1500 ≤ cQ (getD r1 i)
 lim : ∀ i, i < r1.length → 1 ≤ cLim (getD r1 i) ∧ cLim (getD r1 i) ≤ 64
 keys : ∀ i, i + 1 < r1.length → slt (cKey (getD r1 i)) (cKey (getD r1 (i + 1))) = true
 rules : ∀ d ∈ r2, 0 ≤ (d.fld 2).toI ∧ (d.fld 2).toI < (r1.length : Int)
theorem Z24 {r1 r2 : List D} {df : Int} (h : rightB r1 r2 df = true) : RightP r1 r2 df := by
 unfold rightB at h
 simp only [Bool.and_eq_true, Bool.not_eq_true', decide_eq_false_iff_not, Z1c, and_true, inN, decide_eq_true_eq] at h
 obtain ⟨⟨⟨h1, h2⟩, h3⟩, h4, h5⟩ := h
 have h6 : ∀ i, i < r1.length → (¬ cQ (getD r1 i) < 1500) ∧ (¬ cLim (getD r1 i) < 1) ∧ (¬ 64 < cLim (getD r1 i)) ∧ (i = 0 ∨ slt (cKey (getD r1 (i - 1))) (cKey (getD r1 i)) = true) := fun i hi => by
  have := h4 i hi
  simp only [clsOk, Bool.and_eq_true, Bool.or_eq_true, Bool.not_eq_true', decide_eq_false_iff_not, decide_eq_true_eq] at this
  obtain ⟨⟨⟨a, b⟩, c⟩, d⟩ := this
  exact ⟨a, b, c, d⟩
 refine ⟨by omega, by omega, h3, fun i hi => ?_, fun i hi => ?_, fun i hi => ?_, fun d hd => ?_⟩
 ·obtain ⟨a, b, c, d⟩ := h6 i hi; omega
 ·obtain ⟨a, b, c, d⟩ := h6 i hi; omega
 ·obtain ⟨a, b, c, d⟩ := h6 (i + 1) hi
  rcases d with d | d
  ·omega
  simpa using d
 obtain ⟨j, hj, rfl⟩ := List.getElem_of_mem hd
 have := h5 j hj
 rw [pgetD hj] at this
 exact this
theorem Zmh {s : List UInt8} {b : Bool} {x : Int} {r1 : List D} : Z1i s b x r1 = Zz s b r1 [] x := by
 have hL : Z7i r1 = Z45 r1 [] := by
  funext i
  unfold Z7i Z45
  have e1 : iter Z7v () = some true := Zb (by unfold Z7v; rw [if_neg (by rw [pilt]; simp only [ofN]; omega)])
  have e2 : iter (Z41 [] r1) (0 : Int) = some true := Zb (by unfold Z41; dsimp only; rw [if_neg (by rw [pilt]; simp [ofN, xlen])])
  dsimp only
  rw [e1, e2]
 unfold Z1i Zz
 rw [hL]
def freshA (d : D) : A := { key := cKey d, q := cQ d, r := (d.fld 2).toI, b := (d.fld 3).toI, lim := cLim d, sh := (d.fld 5).toB, br := (d.fld 2).toI, bb := (d.fld 3).toI, bt := (d.fld 3).toI, ql := cLim d, l := [] }
theorem Z7p {l : List D} (h : l.length ≤ 1000000) : cloneC l = some l := by
 unfold cloneC
 rw [if_pos (by simp only [xlen]; simp; omega)]
theorem Z86 {l : List D} (h : l.length ≤ 1000000) : cloneR l = some l := by
 unfold cloneR
 rw [if_pos (by simp only [xlen]; simp; omega)]
theorem Zkj {s : List UInt8} {b : Bool} {r1 r2 : List D} {x : Int} (hn : r1.length ≤ 1000000) (hr : r2.length ≤ 1000000) : Z2m s b r1 r2 x = some (r1, r2) := by
 unfold Z2m
 rw [Z7p hn, Z7]
 dsimp only
 rw [Z86 hr]
 rfl
theorem Zbt {r1 q1 q2 : List D} (hn : r1.length ≤ 1000) : ∃ r', iter (Z2u r1 q1 q2) ((0 : Int), ([] : List Int), 0, ([] : List D)) = some (q1, q2, r1.length, r', r1.map cQ, List.replicate r1.length 0) ∧ Rep r' r1.length fun i => freshA (getD r1 i) := by
 have key : ∀ (m i : Nat) (r3 : List D), i + m = r1.length → r3.length = i → (∀ j, j < i → RC (r3.getD j (.i 0)) (freshA (getD r1 j))) →
   ∃ r', iter (Z2u r1 q1 q2) ((i : Int), (r1.take i).map cQ, i, r3) = some (q1, q2, r1.length, r', r1.map cQ, List.replicate r1.length 0) ∧ Rep r' r1.length fun i => freshA (getD r1 i) := by
  intro m
  induction m with
  | zero =>
   intro i r3 hi h3 hp
   have hi' : i = r1.length := by omega
   subst hi'
   refine ⟨r3, Zb ?_, h3, hp⟩
   unfold Z2u
   dsimp only
   rw [if_neg (by rw [pilt]; simp only [ofN, xlen]; omega), List.take_length, Zzb (by simpa using hn), Z7]
   simp
  | succ m ih =>
   intro i r3 hi h3 hp
   have hl : i < r1.length := by omega
   obtain ⟨r', h1, h2⟩ := ih (i + 1) (r3 ++ [encA (freshA (getD r1 i)) [] 0]) (by omega) (by simp [h3]) (fun j hj => by
    by_cases e : j < i
    ·rw [Zb8 (by omega)]; exact hp j e
    have : j = i := by omega
    subst this
    have : (r3 ++ [encA (freshA (getD r1 j)) [] 0]).getD j (.i 0) = encA (freshA (getD r1 j)) [] 0 := by
     rw [List.getD_eq_getElem?_getD, List.getElem?_append_right (by omega)]; simp [h3]
    rw [this]
    exact ⟨[], 0, rfl, QR.nil⟩)
   refine ⟨r', ?_, h2⟩
   rw [← h1]
   apply Ze
   unfold Z2u
   dsimp only
   rw [if_pos (by rw [pilt]; simp only [ofN, xlen]; omega), if_pos (by simp only [ofN, xlen]; omega), ptoN]
   unfold Z2h
   rw [Z7]
   unfold Z2n
   rw [Z7]
   rw [if_pos (by omega), if_pos (by simp only [xlen, List.length_map, List.length_take, List.length_cons, List.length_nil]; omega), pnext (by omega)]
   have e : (r1.take (i + 1)).map cQ = cat ((r1.take i).map cQ) [D.toI (D.fld (getD r1 i) 1)] := by
    rw [List.take_succ_eq_append_getElem hl, List.map_append, pgetD hl]; rfl
   rw [e]
   rfl
 exact key r1.length 0 [] (by omega) rfl fun j hj => by omega
theorem Zvh {s s2 : List UInt8} {b b2 : Bool} {r1 r2 : List D} {df x2 x3 : Int} (hn : r1.length ≤ 1000) (hr : r2.length ≤ 1000000) : ∃ r', Z49 s b r1 r2 df s2 b2 x2 x3 = some (r1, r2, r1.length, r', r1.map cQ, List.replicate r1.length 0) ∧ Rep r' r1.length fun i => freshA (getD r1 i) := by
 unfold Z49
 rw [Zkj (by omega) hr, Z7]
 exact Zbt hn
theorem Zu6 {s : List UInt8} {b : Bool} {r1 r2 : List D} {df : Int} (hn : r1.length ≤ 1000000) (hr : r2.length ≤ 1000000) :
  (rightB r1 r2 df = false ∧ Z2q s b r1 r2 df = some (.inl ())) ∨
  (rightB r1 r2 df = true ∧ ∃ r', Z2q s b r1 r2 df = some (.inr (r1, r2, r1.length, r', r1.map cQ, List.replicate r1.length 0)) ∧ Rep r' r1.length fun i => freshA (getD r1 i)) := by
 unfold Z2q
 rw [Z5h hn hr, Z7]
 cases c : rightB r1 r2 df with
 | false => exact .inl ⟨rfl, rfl⟩
 | true =>
  have := (Z24 c).n8
  obtain ⟨r', h1, h2⟩ := Zvh (s := s) (s2 := []) (b := b) (b2 := false) (r1 := r1) (r2 := r2) (df := df) (x2 := 0) (x3 := 0) (by omega) hr
  refine .inr ⟨rfl, r', ?_, h2⟩
  rw [h1]
  rfl
theorem Zvx {s : List UInt8} {b : Bool} {r1 : List D} {df : Int} (hn : r1.length ≤ 1000000) (hb : rightB r1 [] df = true) :
  ∃ r', Z3y s b df r1 = some (.inr (r1, [], r1.length, r', r1.map cQ, List.replicate r1.length 0)) ∧ Rep r' r1.length fun i => freshA (getD r1 i) := by
 unfold Z3y
 rw [Zmh, Z5h hn (by simp), Z7, hb]
 have := (Z24 hb).n8
 have hL : Zf5 r1 = Z2u r1 := rfl
 obtain ⟨r', h1, h2⟩ := Zbt (q1 := r1) (q2 := []) (r1 := r1) (by omega)
 refine ⟨r', ?_, h2⟩
 dsimp only
 rw [if_pos rfl]
 unfold Z4r Z5b
 rw [Z7p hn, Z7]
 dsimp only
 rw [Z86 (by simp), Z7]
 dsimp only [bindO]
 rw [hL, h1]
def cntS : Nat → (Nat → A) → Nat
 | 0, _ => 0
 | n + 1, g => cntS n g + (g n).l.length
theorem Zjx {s : List UInt8} {b b2 : Bool} {df seq x : Int} {r1 r2 r : List D} {n : Nat} {l1 l2 : List Int} {g : Nat → A} (hR : Rep r n g) (hn : n ≤ 1000) (hg : ∀ i, i < n → AOk (g i)) :
  Z1o s b df seq r1 r2 n x b2 r l1 l2 = some ((cntS n g : Int), r) := by
 unfold Z1o
 have hle : ∀ i, i ≤ n → cntS i g ≤ 100000 * i := by
  intro i
  induction i with
  | zero => intro _; simp [cntS]
  | succ i ih => intro h; have := ih (by omega); have := (hg i (by omega)).n; simp only [cntS]; omega
 have key : ∀ (m i : Nat), i + m = n → iter (Z6y n) ((cntS i g : Int), (i : Int), r) = some ((cntS n g : Int), r) := by
  intro m
  induction m with
  | zero =>
   intro i hi
   have : i = n := by omega
   subst this
   apply Zb
   unfold Z6y
   dsimp only
   rw [if_neg (by rw [pilt]; simp only [ofN]; omega)]
  | succ m ih =>
   intro i hi
   have hin : i < n := by omega
   rw [← ih (i + 1) (by omega)]
   obtain ⟨ring, f, he, hq⟩ := hR.at_ i hin
   have he' : getD r i = encA (g i) ring f := he
   have := hle i (by omega)
   have := (hg i hin).n
   apply Ze
   unfold Z6y Z1g
   dsimp only [bindO]
   rw [if_pos (by rw [pilt]; simp only [ofN]; omega), if_pos (by simp only [ofN]; omega), ptoN, he', pnext (by omega)]
   have e : iadd .i64 (cntS i g : Int) ((g i).l.length : Int) = ((cntS (i + 1) g : Nat) : Int) := by simp only [iadd, cntS]; rw [pwi64 (by omega) (by omega)]; omega
   have hset : setD r i (encA (g i) ring f) = r := Z6l he'
   rw [← e]
   exact congrArg (fun z => some (Sum.inl (_, _, z))) hset
 exact key n 0 (by omega)
theorem Z10a {lim : Int} {f n : Nat} {r : List D} {l : List Pk} (h : QR f n r l) (hn : n ≤ 400000) : Z4d lim (f : Int) (n : Int) r = some (l.map mkP) := by
 unfold Z4d Z1g
 dsimp only [bindO]
 have hle := h.le
 have hbig := h.big
 have hl := h.hn
 have key : ∀ (m i : Nat), i + m = n → iter (Z6m (n : Int) lim (f : Int) r) ((i : Int), (l.take i).map mkP) = some (l.map mkP) := by
  intro m
  induction m with
  | zero =>
   intro i hi
   apply Zb
   unfold Z6m
   dsimp only
   rw [if_neg (by rw [pilt]; omega), List.take_of_length_le (by omega)]
  | succ m ih =>
   intro i hi
   have hf : f < r.length := by rcases h.hf with hf | ⟨rfl, _⟩; exact hf; simp at hle; omega
   have hlt : (f + i) % r.length < r.length := Nat.mod_lt _ (by omega)
   rw [← ih (i + 1) (by omega)]
   apply Ze
   unfold Z6m
   dsimp only
   rw [if_pos (by rw [pilt]; omega), Z89 (by omega) (by omega) (by omega), Z7]
   rw [if_pos (by simp only [ofN, xlen]; omega), if_pos (by simp only [xlen, List.length_map, List.length_take, List.length_cons, List.length_nil]; omega), pnext (by omega), ptoN]
   have e : (l.take (i + 1)).map mkP = cat ((l.take i).map mkP) [mkP (pk (getD r ((f + i) % r.length)))] := by
    have h3 : pk (getD r ((f + i) % r.length)) = l[i]'(by omega) := h.at_ i (by omega)
    rw [List.take_succ_eq_append_getElem (by omega), List.map_append, h3]; rfl
   rw [e]
   rfl
 exact key n 0 (by omega)
def queuesS (n : Nat) (g : Nat → A) : List D := (List.range n).map fun i => .l ((g i).l.map mkP)
theorem Zkl {s : List UInt8} {b b2 : Bool} {df seq x : Int} {r1 r2 r : List D} {n : Nat} {l1 l2 : List Int} {g : Nat → A} (hR : Rep r n g) (hn : n ≤ 1000) (hg : ∀ i, i < n → AOk (g i)) :
  Z33 s b df seq r1 r2 n x b2 r l1 l2 = some (queuesS n g, r) := by
 unfold Z33
 have key : ∀ (m i : Nat), i + m = n → iter (Z60 n) ((i : Int), queuesS i g, r) = some (queuesS n g, r) := by
  intro m
  induction m with
  | zero =>
   intro i hi
   have : i = n := by omega
   subst this
   apply Zb
   unfold Z60
   dsimp only
   rw [if_neg (by rw [pilt]; simp only [ofN]; omega)]
  | succ m ih =>
   intro i hi
   have hin : i < n := by omega
   rw [← ih (i + 1) (by omega)]
   obtain ⟨ring, f, he, hq⟩ := hR.at_ i hin
   have he' : getD r i = encA (g i) ring f := he
   have := (hg i hin).n
   have hb : queuesS (i + 1) g = cat (queuesS i g) [.l ((g i).l.map mkP)] := by simp [queuesS, List.range_succ, cat]
   have hl : (queuesS i g).length = i := by simp [queuesS]
   apply Ze
   unfold Z60
   dsimp only
   rw [if_pos (by rw [pilt]; simp only [ofN]; omega), if_pos (by simp only [ofN]; omega), ptoN, he']
   refine (congrArg (fun o => bindO o _) (Z10a (lim := (g i).ql) hq (by omega))).trans ?_
   rw [Z7]
   rw [if_pos (by simp only [xlen, List.length_cons, List.length_nil]; omega), pnext (by omega), hb]
   have hset : setD r i (encA (g i) ring f) = r := Z6l he'
   exact congrArg (fun z => some (Sum.inl (_, _, z))) hset
 exact key n 0 (by omega)
def tokensS (n : Nat) (g : Nat → A) : List Int := (List.range n).map fun i => (g i).bt
theorem Zgp {s : List UInt8} {b b2 : Bool} {df seq x : Int} {r1 r2 r : List D} {n : Nat} {l1 l2 : List Int} {g : Nat → A} (hR : Rep r n g) (hn : n ≤ 1000) (h2 : l2.length ≤ 1000) (hg : ∀ i, i < n → AOk (g i)) :
  Zr s b df seq r1 r2 n x b2 r l1 l2 = some (tokensS n g, l2, queuesS n g, r) := by
 unfold Zr
 rw [Zps h2, Z7]
 dsimp only
 rw [Zkl hR hn hg, Z7]
 dsimp only
 have key : ∀ (m i : Nat), i + m = n → iter (Z5t n l2 (queuesS n g)) ((i : Int), r, tokensS i g) = some (tokensS n g, l2, queuesS n g, r) := by
  intro m
  induction m with
  | zero =>
   intro i hi
   have : i = n := by omega
   subst this
   apply Zb
   unfold Z5t
   dsimp only
   rw [if_neg (by rw [pilt]; simp only [ofN]; omega)]
  | succ m ih =>
   intro i hi
   have hin : i < n := by omega
   rw [← ih (i + 1) (by omega)]
   obtain ⟨ring, f, he, hq⟩ := hR.at_ i hin
   have he' : getD r i = encA (g i) ring f := he
   have hb : tokensS (i + 1) g = cat (tokensS i g) [(g i).bt] := by simp [tokensS, List.range_succ, cat]
   have hl : (tokensS i g).length = i := by simp [tokensS]
   apply Ze
   unfold Z5t
   dsimp only
   rw [if_pos (by rw [pilt]; simp only [ofN]; omega), if_pos (by simp only [ofN]; omega), ptoN, he']
   rw [if_pos (by simp only [xlen, List.length_cons, List.length_nil]; omega), pnext (by omega), hb]
   have hset : setD r i (encA (g i) ring f) = r := Z6l he'
   exact congrArg (fun z => some (Sum.inl (_, z, _))) hset
 exact key n 0 (by omega)
theorem Znz {x y z : List D} (h : x.length + y.length + z.length ≤ 1000000) : Z2d [(D.l x), (D.l y), (D.l z)] = some (x ++ y ++ z) := by
 have g0 : getD [(D.l x), (D.l y), (D.l z)] (toN 0) = .l x := rfl
 have g1 : getD [(D.l x), (D.l y), (D.l z)] (toN 1) = .l y := rfl
 have g2 : getD [(D.l x), (D.l y), (D.l z)] (toN 2) = .l z := rfl
 have t : ∀ l, D.toL (.l l) = l := fun l => rfl
 have i0 : iadd .i64 (0 : Int) 1 = 1 := by decide
 have i1 : iadd .i64 (1 : Int) 1 = 2 := by decide
 have i2 : iadd .i64 (2 : Int) 1 = 3 := by decide
 have hx : ofN (xlen [(D.l x), (D.l y), (D.l z)]) = 3 := rfl
 have s0 : iadd .i64 (0 : Int) (ofN (xlen x)) = ((x.length : Nat) : Int) := by simp only [iadd, ofN, xlen]; rw [pwi64 (by omega) (by omega)]; omega
 have s1 : iadd .i64 ((x.length : Nat) : Int) (ofN (xlen y)) = ((x.length + y.length : Nat) : Int) := by simp only [iadd, ofN, xlen]; rw [pwi64 (by omega) (by omega)]; omega
 have s2 : iadd .i64 ((x.length + y.length : Nat) : Int) (ofN (xlen z)) = ((x.length + y.length + z.length : Nat) : Int) := by simp only [iadd, ofN, xlen]; rw [pwi64 (by omega) (by omega)]; omega
 have l0 : cat ([] : List D) x = x := by simp [cat]
 have l1 : cat x y = x ++ y := rfl
 have l2 : cat (x ++ y) z = x ++ y ++ z := rfl
 have body2 : iter (Z2v [(D.l x), (D.l y), (D.l z)]) ((0 : Int), ([] : List D)) = some (x ++ y ++ z) := by
  rw [Ze (y := ((1 : Int), x)), Ze (y := ((2 : Int), x ++ y)), Ze (y := ((3 : Int), x ++ y ++ z))]
  ·apply Zb
   unfold Z2v
   dsimp only
   rw [hx, if_neg (by rw [pilt]; omega)]
  ·unfold Z2v
   dsimp only
   rw [hx, if_pos (by rw [pilt]; omega), if_pos (by omega), g2, t, if_pos (by simp only [xlen, List.length_append]; omega), i2, l2]
  ·unfold Z2v
   dsimp only
   rw [hx, if_pos (by rw [pilt]; omega), if_pos (by omega), g1, t, if_pos (by simp only [xlen]; omega), i1, l1]
  unfold Z2v
  dsimp only
  rw [hx, if_pos (by rw [pilt]; omega), if_pos (by omega), g0, t, if_pos (by simp only [xlen, List.length_nil]; omega), i0, l0]
 have e3 : Zeu [(D.l x), (D.l y), (D.l z)] = Z2v [(D.l x), (D.l y), (D.l z)] := funext fun v => rfl
 unfold Z2d
 rw [Ze (y := (((x.length : Nat) : Int), (1 : Int))), Ze (y := (((x.length + y.length : Nat) : Int), (2 : Int))), Ze (y := (((x.length + y.length + z.length : Nat) : Int), (3 : Int)))]
 ·apply Zb
  unfold Z51
  dsimp only
  rw [hx, if_neg (by rw [pilt]; omega), e3, body2]
  unfold growP
  rw [if_neg (by omega)]
  by_cases h0 : ((x.length + y.length + z.length : Nat) : Int) = 0
  ·rw [if_pos h0]; rfl
  rw [if_neg h0, if_pos (by omega)]; rfl
 ·unfold Z51
  dsimp only
  rw [hx, if_pos (by rw [pilt]; omega), if_pos (by omega), g2, t, s2, if_neg (by rw [pilt]; omega), i2]
 ·unfold Z51
  dsimp only
  rw [hx, if_pos (by rw [pilt]; omega), if_pos (by omega), g1, t, s1, if_neg (by rw [pilt]; omega), i1]
 unfold Z51
 dsimp only
 rw [hx, if_pos (by rw [pilt]; omega), if_pos (by omega), g0, t, s0, if_neg (by rw [pilt]; omega), i0]
def mrg : List Pk → List Pk → List Pk
 | [], b => b
 | x :: a, [] => x :: a
 | x :: a, y :: b => if y.1 < x.1 then y :: mrg (x :: a) b else x :: mrg a (y :: b)
termination_by a b => a.length + b.length
theorem Z7n : ∀ (n : Nat) (a b : List Pk), a.length + b.length ≤ n → (mrg a b).length = a.length + b.length
 | n, [], b, h => by simp [mrg]
 | n, x :: a, [], h => by simp [mrg]
 | 0, x :: a, y :: b, h => by simp at h
 | n + 1, x :: a, y :: b, h => by
  simp only [List.length_cons] at h
  unfold mrg
  split
  ·simp only [List.length_cons, Z7n n (x :: a) b (by simp only [List.length_cons]; omega)]; omega
  simp only [List.length_cons, Z7n n a (y :: b) (by simp only [List.length_cons]; omega)]; omega
theorem tail1 (d : D) (t : List D) : lsub (d :: t) (toN (1 : Int)) (ndec (xlen (d :: t)) (toN (1 : Int))) = t := by
 show ((d :: t).drop 1).take ((d :: t).length - 1) = t
 simp
theorem getD0 (d : D) (t : List D) : getD (d :: t) (toN (0 : Int)) = d := rfl
theorem lenc (d : D) (t : List D) : ofN (xlen (d :: t)) = (t.length : Int) + 1 := by simp [ofN, xlen]
theorem len0 : ofN (xlen ([] : List D)) = 0 := rfl
theorem Zbe : ∀ (n : Nat) (a b out : List D), a.length + b.length ≤ n → out.length + a.length + b.length ≤ 1000000 → ∃ q, iter Z44 (a, b, out) = some q ∧ q.map pk = out.map pk ++ mrg (a.map pk) (b.map pk)
 | n, [], b, out, h, hb => by
  refine ⟨out ++ [] ++ b, ?_, by simp [mrg]⟩
  apply Zb
  unfold Z44
  dsimp only
  rw [len0, if_neg (by rw [pilt]; omega), Znz (by omega), Z7]
 | n, d :: a, [], out, h, hb => by
  refine ⟨out ++ (d :: a) ++ [], ?_, by simp [mrg]⟩
  apply Zb
  unfold Z44
  dsimp only
  rw [lenc, if_pos (by rw [pilt]; omega), len0, if_neg (by rw [pilt]; omega), Znz (by omega), Z7]
 | 0, d :: a, e :: b, out, h, hb => by simp at h
 | n + 1, d :: a, e :: b, out, h, hb => by
  simp only [List.length_cons] at h hb
  by_cases c : (pk e).1 < (pk d).1
  ·obtain ⟨q, h1, h2⟩ := Zbe n (d :: a) b (out ++ [D.l [D.i (D.toI (D.fld e 0)), D.i (D.toI (D.fld e 1)), D.i (D.toI (D.fld e 2))]]) (by simp only [List.length_cons]; omega) (by simp only [List.length_cons, List.length_append, List.length_nil]; omega)
   refine ⟨q, ?_, ?_⟩
   ·rw [← h1]
    apply Ze
    unfold Z44
    dsimp only
    have c' : (D.toI (D.fld e 0)) < (D.toI (D.fld d 0)) := c
    rw [tail1, getD0, getD0, lenc, lenc, if_pos (by rw [pilt]; omega), if_pos (by rw [pilt]; omega), if_pos (by omega), if_pos (by omega), if_pos (by rw [pilt]; exact c'), if_pos (by omega), if_pos (by simp only [xlen, List.length_cons, List.length_nil]; omega), if_pos (by omega)]
    rfl
   rw [h2]
   simp only [List.map_cons, List.map_append, List.map_nil, List.append_assoc]
   congr 1
   rw [mrg, if_pos c]
   rfl
  obtain ⟨q, h1, h2⟩ := Zbe n a (e :: b) (out ++ [D.l [D.i (D.toI (D.fld d 0)), D.i (D.toI (D.fld d 1)), D.i (D.toI (D.fld d 2))]]) (by simp only [List.length_cons]; omega) (by simp only [List.length_cons, List.length_append, List.length_nil]; omega)
  refine ⟨q, ?_, ?_⟩
  ·rw [← h1]
   apply Ze
   unfold Z44
   dsimp only
   have c' : ¬ (D.toI (D.fld e 0)) < (D.toI (D.fld d 0)) := c
   rw [tail1, getD0, getD0, lenc, lenc, if_pos (by rw [pilt]; omega), if_pos (by rw [pilt]; omega), if_pos (by omega), if_pos (by omega), if_neg (by rw [pilt]; exact c'), if_pos (by omega), if_pos (by simp only [xlen, List.length_cons, List.length_nil]; omega), if_pos (by omega), tail1]
   rfl
  rw [h2]
  simp only [List.map_cons, List.map_append, List.map_nil, List.append_assoc]
  congr 1
  rw [mrg, if_neg c]
  rfl
theorem Z10r {a b : List D} (h : a.length + b.length ≤ 1000000) : ∃ q, Z4w a b = some q ∧ q.map pk = mrg (a.map pk) (b.map pk) := by
 obtain ⟨q, h1, h2⟩ := Zbe _ a b [] (Nat.le_refl _) (by simpa using h)
 exact ⟨q, h1, by simpa using h2⟩
theorem Zow {x : Int} {s : List D} (hs : s.length ≤ 400000) : ∀ (m i f : Nat) (r : List D), i + m = s.length → QR f i r ((s.map pk).take i) →
  ∃ (f' : Nat) (r' : List D), iter (Z6g s x) ((i : Int), (f : Int), (i : Int), r) = some ((f' : Int), (s.length : Int), r') ∧ QR f' s.length r' (s.map pk)
 | 0, i, f, r, hi, hq => by
  have : i = s.length := by omega
  subst this
  rw [List.take_of_length_le (by simp)] at hq
  refine ⟨f, r, ?_, hq⟩
  apply Zb
  unfold Z6g
  dsimp only
  rw [if_neg (by rw [pilt]; simp only [ofN, xlen]; omega)]
 | m + 1, i, f, r, hi, hq => by
  obtain ⟨f', r', h1, h2⟩ := Zo7 (a := D.toI (D.fld (getD s (toN (i : Int))) 0)) (b := D.toI (D.fld (getD s (toN (i : Int))) 1)) (c := D.toI (D.fld (getD s (toN (i : Int))) 2)) (x := x) hq (by omega)
  have e : (s.map pk).take (i + 1) = (s.map pk).take i ++ [(D.toI (D.fld (getD s (toN (i : Int))) 0), D.toI (D.fld (getD s (toN (i : Int))) 1), D.toI (D.fld (getD s (toN (i : Int))) 2))] := by
   rw [List.take_succ_eq_append_getElem (by simp; omega)]
   congr 1
   rw [ptoN, pgetD (by omega)]
   simp [pk]
  rw [← e] at h2
  obtain ⟨f2, r2, h3, h4⟩ := Zow hs m (i + 1) f' r' (by omega) h2
  refine ⟨f2, r2, ?_, h4⟩
  rw [← h3]
  apply Ze
  unfold Z6g
  dsimp only
  rw [if_pos (by rw [pilt]; simp only [ofN, xlen]; omega), if_pos (by simp only [ofN, xlen]; omega), h1, Z7]
  dsimp only
  rw [pnext (by omega)]
theorem Zn4 {x y z : Int} {s r : List D} (hs : s.length ≤ 400000) (hr : r.length ≤ 1000000) : ∃ (f' : Nat) (r' : List D), Z1d s x y z r = some ((f' : Int), (s.length : Int), r') ∧ QR f' s.length r' (s.map pk) := by
 unfold Z1d
 have := Zow (x := x) hs s.length 0 0 (@lrep D (xlen r) (D.l [(D.i (0 : Int)), (D.i (0 : Int)), (D.i (0 : Int))])) (by omega) (by
  rw [List.take_zero]
  by_cases h0 : r.length = 0
  ·have : @lrep D (xlen r) (D.l [(D.i (0 : Int)), (D.i (0 : Int)), (D.i (0 : Int))]) = [] := by simp [lrep, xlen, h0]
   rw [this]
   exact QR.nil
  exact QR.zero (by simp [lrep, xlen]; omega) (by simpa [lrep, xlen] using hr))
 exact this
theorem Z8 {α β : Type} {o : Option α} {k : α → Option β} {r : β} {a : α} (e : o = some a) (h : k a = some r) : bindO o k = some r := by
 rw [e]; exact h
theorem Zie {r : List D} {i j : Nat} {d : D} (h : i < r.length) : getD (setD r i d) j = if i = j then d else getD r j := by
 by_cases e : i = j
 ·subst e; rw [if_pos rfl]; exact Zem h
 rw [if_neg e]; exact getD_set_ne e
theorem Z7d {r : List D} {i : Nat} {d : D} : (setD r i d).length = r.length := by simp [setD]
def pks (r : List D) (c : Nat) : List Pk := (D.toL (getD r c)).map pk
theorem Z3o {r : List D} {c : Nat} : (D.toL (getD r c)).length = (pks r c).length := by simp [pks]
theorem Zbc {r : List D} {i j : Nat} {l : List D} (h : i < r.length) : pks (setD r i (.l l)) j = if i = j then l.map pk else pks r j := by
 unfold pks
 rw [Zie h]
 split
 ·rfl
 rfl
theorem Zpd {n c : Nat} : pks (@lrep D n (.l [])) c = [] := by
 unfold pks
 by_cases h : c < n
 ·rw [pgetD (by simpa [lrep] using h)]; simp [lrep, D.toL]
 have : getD (@lrep D n (.l [])) c = .i 0 := by simp [getD, lrep, h]
 rw [this]; rfl
def selQ (cls : Int → Int) (c : Nat) (l : List Pk) : List Pk := l.filter fun p => cls p.2.1 == (c : Int)
theorem Zah {cls : Int → Int} {c : Nat} {l : List Pk} : (selQ cls c l).length ≤ l.length := List.length_filter_le _ _
theorem Zv0 {r : List D} {df x : Int} (hr : r.length ≤ 1000000) : Z36 r df x = some (clsA r df x) := by
 have : Z36 r df x = Z35 df x r := rfl
 rw [this, Znc hr]
theorem Zob {C' R' C r5 r10 r11 : List D} {df' : Int} {i : Nat} {l : List Pk} (hi : i < r5.length) (hq : D.toL (getD r5 i) = l.map mkP) (hl : l.length ≤ 100000) (hR : R'.length ≤ 1000000)
  (hc : ∀ x, 0 ≤ clsA R' df' x ∧ clsA R' df' x < (C'.length : Int)) : ∀ (m k : Nat) (r : List D), k + m = l.length → r.length = C'.length → (∀ c, c < C'.length → pks r c = selQ (clsA R' df') c (l.take k)) →
  ∃ r', iter (Z3d r5 (i : Int) R' df' C' C r10 r11) ((k : Int), r) = iter (Z1b C' (i : Int) C) ((0 : Int), r10, r11, r') ∧ r'.length = C'.length ∧ ∀ c, c < C'.length → pks r' c = selQ (clsA R' df') c l
 | 0, k, r, hk, hr, hp => by
  refine ⟨r, ?_, hr, fun c h => ?_⟩
  ·have hB : Z3d r5 (i : Int) R' df' C' C r10 r11 ((k : Int), r) = Option.map (fun t => (.inr t)) (iter (Z1b C' (i : Int) C) ((0 : Int), r10, r11, r)) := by
    unfold Z3d
    dsimp only
    rw [ptoN, hq, if_neg (by rw [pilt]; simp only [ofN, xlen, List.length_map]; omega)]
   rw [Zgk, hB]
   cases iter (Z1b C' (i : Int) C) ((0 : Int), r10, r11, r) with
   | none => rfl
   | some x => rfl
  rw [hp c h, List.take_of_length_le (by omega)]
 | m + 1, k, r, hk, hr, hp => by
  have hkl : k < l.length := by omega
  have hcc := hc l[k].2.1
  obtain ⟨c, hce⟩ : ∃ c : Nat, clsA R' df' l[k].2.1 = (c : Int) := ⟨(clsA R' df' l[k].2.1).toNat, by omega⟩
  rw [hce] at hcc
  have hcl : c < r.length := by omega
  have hlen : (D.toL (getD r c)).length ≤ k := by
   rw [Z3o, hp c (by omega)]
   have := Zah (cls := clsA R' df') (c := c) (l := l.take k)
   simp at this; omega
  obtain ⟨r', h1, h2, h3⟩ := Zob (C := C) (r10 := r10) (r11 := r11) hi hq hl hR hc m (k + 1) (setD r c (.l (cat (D.toL (getD r c)) [mkP l[k]]))) (by omega) (by rw [Z7d]; exact hr) (fun j hj => by
   have e : selQ (clsA R' df') j (l.take (k + 1)) = selQ (clsA R' df') j (l.take k) ++ (if c = j then [l[k]] else []) := by
    unfold selQ
    rw [List.take_succ_eq_append_getElem hkl, List.filter_append]
    congr 1
    by_cases e : c = j
    ·subst e; simp [hce]
    rw [if_neg e, List.filter_cons_of_neg (by rw [hce]; simp; omega)]; rfl
   rw [Zbc hcl, e]
   by_cases e : c = j
   ·subst e
    rw [if_pos rfl, if_pos rfl]
    simp only [cat, List.map_append, List.map_cons, List.map_nil]
    rw [show (D.toL (getD r c)).map pk = pks r c from rfl, hp c hj]
    rfl
   rw [if_neg e, if_neg e, hp j hj, List.append_nil])
  refine ⟨r', ?_, h2, h3⟩
  rw [← h1]
  apply Ze
  have hg : getD (D.toL (getD r5 i)) k = mkP l[k] := by rw [hq, pgetD (by simpa using hkl)]; simp
  unfold Z3d
  dsimp only
  rw [ptoN, ptoN, hg]
  have hcls : Z36 R' df' (D.toI (D.fld (mkP l[k]) 1)) = some (c : Int) := by
   have := Zv0 (r := R') (df := df') (x := l[k].2.1) hR
   rw [hce] at this; exact this
  rw [if_pos (by rw [pilt, hq]; simp only [ofN, xlen, List.length_map]; omega), if_pos (by rw [hq]; simp only [ofN, xlen, List.length_map]; omega), hcls, Z7]
  rw [ptoN, if_pos (by rw [pile]; omega), if_pos (by rw [pilt]; simp only [ofN, xlen, toN]; omega), if_pos (by simp only [ofN, xlen, toN]; omega), if_pos (by simp only [xlen, List.length_cons, List.length_nil]; omega), if_pos (by simp only [ofN, xlen, toN]; omega), pnext (by omega)]
  rfl
def mv1 (C C' : List D) (i : Nat) (row : List Pk) (c : Nat) : Bool := decide (0 < row.length) && bnot (seq (cKey (getD C i)) (cKey (getD C' c)))
theorem Zn3 {C' C : List D} {i : Nat} {old row : Nat → List Pk} {mv : Nat → Bool} (hi : i < C.length) (hC : C.length ≤ 1000) (hn : C'.length ≤ 1000) (hb : ∀ j, j < C'.length → (old j).length + (row j).length ≤ 1000000) : ∀ (m c : Nat) (r17 r18 r19 : List D), c + m = C'.length → r17.length = C'.length → r18.length = C'.length → r19.length = C'.length →
  (∀ j, j < C'.length → pks r17 j = if j < c then mrg (old j) (row j) else old j) → (∀ j, j < C'.length → D.toB (getD r18 j) = if j < c then (mv j || mv1 C C' i (row j) j) else mv j) → (∀ j, j < C'.length → pks r19 j = row j) →
  ∃ r17' r18', iter (Z1b C' (i : Int) C) ((c : Int), r17, r18, r19) = some (.inl (((i + 1 : Nat) : Int), r17', r18')) ∧ r17'.length = C'.length ∧ r18'.length = C'.length ∧ (∀ j, j < C'.length → pks r17' j = mrg (old j) (row j)) ∧ ∀ j, j < C'.length → D.toB (getD r18' j) = (mv j || mv1 C C' i (row j) j)
 | 0, c, r17, r18, r19, hc, h17, h18, h19, hp, hv, hq => by
  refine ⟨r17, r18, ?_, h17, h18, fun j hj => by rw [hp j hj, if_pos (by omega)], fun j hj => by rw [hv j hj, if_pos (by omega)]⟩
  apply Zb
  unfold Z1b
  dsimp only
  rw [if_neg (by rw [pilt]; simp only [ofN, xlen, toN]; omega), pnext (by omega)]
 | m + 1, c, r17, r18, r19, hc, h17, h18, h19, hp, hv, hq => by
  have hcl : c < C'.length := by omega
  obtain ⟨q, h1, h2⟩ := Z10r (a := D.toL (getD r17 c)) (b := D.toL (getD r19 c)) (by
   rw [Z3o, Z3o, hp c hcl, hq c hcl, if_neg (by omega)]; exact hb c hcl)
  have h2' : q.map pk = mrg (old c) (row c) := by
   rw [h2]
   have e1 : (D.toL (getD r17 c)).map pk = old c := by have := hp c hcl; rw [if_neg (by omega)] at this; exact this
   have e2 : (D.toL (getD r19 c)).map pk = row c := hq c hcl
   rw [e1, e2]
  have next : ∃ r17' r18', iter (Z1b C' (i : Int) C) (((c + 1 : Nat) : Int), setD r17 c (.l q), setD r18 c (.b (mv c || mv1 C C' i (row c) c)), setD r19 c (.l (D.toL (getD r19 c)))) = some (.inl (((i + 1 : Nat) : Int), r17', r18')) ∧ r17'.length = C'.length ∧ r18'.length = C'.length ∧ (∀ j, j < C'.length → pks r17' j = mrg (old j) (row j)) ∧ ∀ j, j < C'.length → D.toB (getD r18' j) = (mv j || mv1 C C' i (row j) j) :=
   Zn3 hi hC hn hb m (c + 1) _ _ _ (by omega) (by rw [Z7d]; exact h17) (by rw [Z7d]; exact h18) (by rw [Z7d]; exact h19) (fun j hj => by
    rw [Zbc (by omega)]
    by_cases e : c = j
    ·subst e; rw [if_pos rfl, if_pos (by omega), h2']
    ·rw [if_neg e, hp j hj]
     by_cases e2 : j < c
     ·rw [if_pos e2, if_pos (by omega)]
     rw [if_neg e2, if_neg (by omega)]) (fun j hj => by
    rw [Zie (by omega)]
    by_cases e : c = j
    ·subst e; rw [if_pos rfl, if_pos (by omega)]; rfl
    ·rw [if_neg e, hv j hj]
     by_cases e2 : j < c
     ·rw [if_pos e2, if_pos (by omega)]
     rw [if_neg e2, if_neg (by omega)]) (fun j hj => by
    rw [Zbc (by omega)]
    by_cases e : c = j
    ·subst e; rw [if_pos rfl]; exact hq c hcl
    rw [if_neg e, hq j hj])
  have hvc := hv c hcl
  rw [if_neg (Nat.lt_irrefl _)] at hvc
  have hlen : (D.toL (getD r19 c)).length = (row c).length := by rw [Z3o, hq c hcl]
  have hB : Z1b C' (i : Int) C ((c : Int), r17, r18, r19) = some (.inl (((c + 1 : Nat) : Int), setD r17 c (.l q), setD r18 c (.b (mv c || mv1 C C' i (row c) c)), setD r19 c (.l (D.toL (getD r19 c))))) := by
   unfold Z1b
   dsimp only
   rw [ptoN, ptoN, pnext (by omega), if_pos (by rw [pilt]; simp only [ofN, xlen, toN]; omega), if_pos (by simp only [ofN, xlen, toN]; omega), if_pos (by simp only [ofN, xlen]; omega), h1, Z7]
   rw [if_pos (by simp only [ofN, xlen]; omega), if_pos (by simp only [ofN, xlen]; omega), hvc]
   cases hm : mv c with
   | true => rw [if_pos rfl, if_pos (by simp only [ofN, xlen]; omega), Bool.true_or]
   | false =>
    rw [if_neg (by simp), Bool.false_or]
    unfold mv1
    by_cases c2 : 0 < (row c).length
    ·rw [if_pos (by rw [pilt]; simp only [ofN, xlen]; omega), if_pos (by simp only [ofN, xlen]; omega), if_pos (by simp only [ofN, xlen]; omega), if_pos (by simp only [ofN, xlen]; omega), decide_eq_true c2, Bool.true_and]
     rfl
    rw [if_neg (by rw [pilt]; simp only [ofN, xlen]; omega), if_pos (by simp only [ofN, xlen]; omega), decide_eq_false c2, Bool.false_and]
  obtain ⟨r17', r18', k1, k2⟩ := next
  exact ⟨r17', r18', by rw [← k1]; exact Ze hB, k2⟩
def accQ (cls : Int → Int) (qs : Nat → List Pk) (c : Nat) : Nat → List Pk
 | 0 => []
 | i + 1 => mrg (accQ cls qs c i) (selQ cls c (qs i))
def mvB (cls : Int → Int) (qs : Nat → List Pk) (C C' : List D) (c : Nat) : Nat → Bool
 | 0 => false
 | i + 1 => mvB cls qs C C' c i || mv1 C C' i (selQ cls c (qs i)) c
def fitsB (cls : Int → Int) (qs : Nat → List Pk) (C C' : List D) : Bool := allN C'.length fun c => !(mvB cls qs C C' c C.length && decide (cLim (getD C' c) < ((accQ cls qs c C.length).length : Int)))
theorem Zzw {T : Type} {B : Int → Option (Int ⊕ T)} {P : Nat → Bool} {n : Nat} {a b : T} (hs : ∀ i, i < n → B (i : Int) = if P i = true then some (.inl ((i + 1 : Nat) : Int)) else some (.inr a))
  (he : B (n : Int) = some (.inr b)) : iter B (0 : Int) = some (if allN n P = true then b else a) := by
 have key : ∀ (m i : Nat), i + m = n → (∀ j, j < i → P j = true) → iter B (i : Int) = some (if allN n P = true then b else a) := by
  intro m
  induction m with
  | zero =>
   intro i hi hp
   have : i = n := by omega
   subst this
   rw [Zb he, if_pos (Z1c.2 hp)]
  | succ m ih =>
   intro i hi hp
   by_cases c : P i = true
   ·rw [Ze ((hs i (by omega)).trans (if_pos c))]
    exact ih (i + 1) (by omega) fun j hj => by
     by_cases e : j = i
     ·subst e; exact c
     exact hp j (by omega)
   rw [Zb ((hs i (by omega)).trans (if_neg c)), if_neg (fun h => c (Z1c.1 h i (by omega)))]
 exact key n 0 (by omega) fun j hj => by omega
def sumL (qs : Nat → List Pk) : Nat → Nat
 | 0 => 0
 | i + 1 => sumL qs i + (qs i).length
theorem Z7s {cls : Int → Int} {qs : Nat → List Pk} {c : Nat} : ∀ i, (accQ cls qs c i).length ≤ sumL qs i
 | 0 => by simp [accQ, sumL]
 | i + 1 => by
  simp only [accQ, sumL]
  rw [Z7n _ _ _ (Nat.le_refl _)]
  have := Z7s (cls := cls) (qs := qs) (c := c) i
  have := Zah (cls := cls) (c := c) (l := qs i)
  omega
theorem Z6j {qs : Nat → List Pk} : ∀ {i j : Nat}, i ≤ j → sumL qs i ≤ sumL qs j
 | i, 0, h => by
  have : i = 0 := by omega
  subst this
  exact Nat.le_refl _
 | i, j + 1, h => by
  by_cases e : i = j + 1
  ·subst e; exact Nat.le_refl _
  have := Z6j (qs := qs) (i := i) (j := j) (by omega)
  simp only [sumL]; omega
theorem Zpx {C' r10 r11 : List D} {mv : Nat → Bool} {ac : Nat → List Pk} (hn : C'.length ≤ 1000) (h10 : r10.length = C'.length) (h11 : r11.length = C'.length) (hv : ∀ j, j < C'.length → D.toB (getD r11 j) = mv j) (hp : ∀ j, j < C'.length → pks r10 j = ac j) :
  iter (Z5n r11 r10 C') (0 : Int) = some (allN C'.length (fun c => !(mv c && decide (cLim (getD C' c) < ((ac c).length : Int)))), r10) := by
 have := Zzw (B := Z5n r11 r10 C') (P := fun c => !(mv c && decide (cLim (getD C' c) < ((ac c).length : Int)))) (n := C'.length) (a := (false, r10)) (b := (true, r10)) (fun i hi => by
  have hl : (D.toL (getD r10 i)).length = (ac i).length := by rw [Z3o, hp i hi]
  unfold Z5n
  dsimp only
  rw [ptoN, pnext (by omega), if_pos (by rw [pilt]; simp only [ofN, xlen]; omega), if_pos (by simp only [ofN, xlen]; omega), hv i hi]
  cases mv i with
  | false => rw [if_neg (by simp)]; simp
  | true =>
   rw [if_pos rfl, if_pos (by simp only [ofN, xlen]; omega), if_pos (by simp only [ofN, xlen]; omega)]
   by_cases c2 : cLim (getD C' i) < ((ac i).length : Int)
   ·rw [if_pos (by rw [pilt]; simp only [ofN, xlen, hl]; exact c2)]; simp [c2]
   rw [if_neg (by rw [pilt]; simp only [ofN, xlen, hl]; exact c2)]; simp [c2]) (by
  unfold Z5n
  dsimp only
  rw [if_neg (by rw [pilt]; simp only [ofN, xlen]; omega)])
 rw [this]
 cases allN C'.length (fun c => !(mv c && decide (cLim (getD C' c) < ((ac c).length : Int)))) <;> rfl
theorem Zhd {C' R' C r5 : List D} {df' : Int} {qs : Nat → List Pk} (hn : C'.length ≤ 1000) (hC : C.length ≤ 1000) (h5 : r5.length = C.length) (hq : ∀ i, i < C.length → D.toL (getD r5 i) = (qs i).map mkP) (hl : sumL qs C.length ≤ 100000) (hR : R'.length ≤ 1000000)
  (hc : ∀ x, 0 ≤ clsA R' df' x ∧ clsA R' df' x < (C'.length : Int)) : ∀ (m i : Nat) (r10 r11 : List D), i + m = C.length → r10.length = C'.length → r11.length = C'.length → (∀ c, c < C'.length → pks r10 c = accQ (clsA R' df') qs c i) → (∀ c, c < C'.length → D.toB (getD r11 c) = mvB (clsA R' df') qs C C' c i) →
  ∃ out, iter (Z6c r5 C' R' df' C) ((i : Int), r10, r11) = some (fitsB (clsA R' df') qs C C', out) ∧ out.length = C'.length ∧ ∀ c, c < C'.length → pks out c = accQ (clsA R' df') qs c C.length
 | 0, i, r10, r11, hi, h10, h11, hp, hv => by
  have hi' : i = C.length := by omega
  subst hi'
  have h' := Zpx hn h10 h11 hv hp
  refine ⟨r10, ?_, h10, hp⟩
  apply Zb
  unfold Z6c
  dsimp only
  rw [if_neg (by rw [pilt]; simp only [ofN, xlen]; omega)]
  rw [h']; rfl
 | m + 1, i, r10, r11, hi, h10, h11, hp, hv => by
  have hiC : i < C.length := by omega
  have hql : (qs i).length ≤ 100000 := by
   have := Z6j (qs := qs) (i := i + 1) (j := C.length) (by omega)
   simp only [sumL] at this; omega
  obtain ⟨rows, h1, h2, h3⟩ := Zob (C := C) (r10 := r10) (r11 := r11) (by omega) (hq i hiC) hql hR hc (qs i).length 0 (@lrep D C'.length (.l [])) (by omega) (by simp [lrep]) (fun c _ => by rw [Zpd]; rfl)
  obtain ⟨r17, r18, k1, k2, k3, k4, k5⟩ := Zn3 (C' := C') (C := C) (i := i) (mv := fun c => mvB (clsA R' df') qs C C' c i) (old := fun c => accQ (clsA R' df') qs c i) (row := fun c => selQ (clsA R' df') c (qs i)) hiC hC hn (fun j hj => by
   have a := Z7s (cls := clsA R' df') (qs := qs) (c := j) i
   have b := Zah (cls := clsA R' df') (c := j) (l := qs i)
   have := Z6j (qs := qs) (i := i + 1) (j := C.length) (by omega)
   simp only [sumL] at this; omega) C'.length 0 r10 r11 rows (by omega) h10 h11 h2 (fun j hj => by rw [if_neg (by omega), hp j hj]) (fun j hj => by rw [if_neg (by omega), hv j hj]) h3
  obtain ⟨out, g1, g2, g3⟩ := Zhd hn hC h5 hq hl hR hc m (i + 1) r17 r18 (by omega) k2 k3 (fun c hc' => by rw [k4 c hc']; rfl) (fun c hc' => by rw [k5 c hc']; rfl)
  refine ⟨out, ?_, g2, g3⟩
  rw [← g1]
  apply Ze
  unfold Z6c
  dsimp only
  rw [if_pos (by rw [pilt]; simp only [ofN, xlen]; omega), if_pos (by simp only [ofN, xlen]; omega), if_pos (by simp only [ofN, xlen]; omega)]
  have h1' : iter (Z3d r5 (i : Int) R' df' C' C r10 r11) ((0 : Int), (@lrep D (toN (ofN (xlen C'))) (D.l ([] : List D)))) = _ := h1
  rw [h1']
  have k1' : iter (Z1b C' (i : Int) C) ((0 : Int), r10, r11, rows) = _ := k1
  rw [k1']
theorem Zqz {s1 s2 : List UInt8} {b1 b2 : Bool} {x1 : Int} {C' R' C R r5 : List D} {df' : Int} {qs : Nat → List Pk} (hn : C'.length ≤ 1000) (hC : C.length ≤ 1000) (h5 : r5.length = C.length) (hq : ∀ i, i < C.length → D.toL (getD r5 i) = (qs i).map mkP) (hl : sumL qs C.length ≤ 100000) (hR : R'.length ≤ 1000000)
  (hc : ∀ x, 0 ≤ clsA R' df' x ∧ clsA R' df' x < (C'.length : Int)) :
  ∃ out, Z3k s1 b1 x1 s2 b2 C' R' df' C R r5 = some (fitsB (clsA R' df') qs C C', out) ∧ out.length = C'.length ∧ ∀ c, c < C'.length → pks out c = accQ (clsA R' df') qs c C.length := by
 unfold Z3k
 rw [if_pos (by rw [pieq]; simp only [ofN, xlen]; omega), if_pos (by simp only [ofN, xlen]; omega), if_pos (by simp only [ofN, xlen]; omega)]
 exact Zhd hn hC h5 hq hl hR hc C.length 0 _ _ (by omega) (by simp [lrep, toN, ofN, xlen]) (by simp [lrep, toN, ofN, xlen]) (fun c _ => by
  have : pks (@lrep D C'.length (.l [])) c = [] := Zpd
  exact this) (fun c hc' => by
  have : getD (@lrep D C'.length (.b false)) c = .b false := by rw [pgetD (by simpa [lrep] using hc')]; simp [lrep]
  show D.toB (getD (@lrep D C'.length (.b false)) c) = false
  rw [this]; rfl)
end Go.Proofs.Ytojbpjcfdjakkaa
end
