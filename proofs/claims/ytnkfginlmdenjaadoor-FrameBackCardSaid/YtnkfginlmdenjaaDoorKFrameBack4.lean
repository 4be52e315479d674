/-
  Texts that the row of this claim stands on, one behind the other.
-/
import Derived.Below
import Derived.Deep.Slices
import Derived.ChangeArms
import Derived.Test.YtnkfginlmdenjaaDoorRows
import Derived.ProofKit
import Derived.LaidMore
import Derived.OpenShut
import Derived.Stop.Joined
import Derived.Test.YtnkfginlmdenjaaDoorKFrameBack1
import Derived.Test.YtnkfginlmdenjaaDoorKFrameBack2
import Derived.Test.YtnkfginlmdenjaaDoorKFrameBack3
section
/-
  The walk of tollbar/varint.Get (printed by a program of ours).
-/
set_option linter.unusedVariables false
set_option linter.unusedSimpArgs false
namespace Go.Proofs.YtnkfginlmdenjaaDoor
open Go.RowKit

noncomputable def tab_varint_Get : Nat → Option Con := look []
set_option maxHeartbeats 4000000 in
set_option maxRecDepth 100000 in
theorem vc_varint_Get (P : Program) (T : Tab P tab_varint_Get) (hm : P.follows .mixedOrders = true) : FnVC P tab_varint_Get ic_24 [.t 2, .t 3, .t 4] 55 con_varint_Get := by
  intro cargs ccks ce hce hob C hk
  apply Hidden.out
  replace hce : con_varint_Get_1 cargs ccks = some ce := hce
  · unfold con_varint_Get_1 at hce
    split at hce
    rotate_left
    · cases hce
    obtain rfl := Option.some.inj hce
    rename_i s1
    have hb1 := hob _ (List.mem_singleton.2 rfl)
    have hb2 := obl.1 hb1
    clear hb1 hob hce
    refine hb2.elim fun r hF => ?_
    clear hb2
    simp only [List.length_cons, List.length_nil, Nat.zero_add, Nat.reduceAdd] at hk
    have hr : F_varint_Get s1 = some r := by rw [lock_eq] at hF; exact hF
    unfold F_varint_Get at hr
    constructor
    (try cbv)
    have gg := guard_inv hr
    have g := gg.1
    replace hr := gg.2
    clear gg
    refine ⟨obl.2 (by first | (simp only [choice_lk, lock_eq, R.len, R.sub]; exact g) | exact g), ?_⟩
    refine LoopOK.iter T (drawOK T hm) (B := (F_varint_Get_L1 s1)) hr (fun | (i1, i2) => ⟨mkFr [(0, (.rsl (.bs 5 s1))), (5, (.v (.int .u64 i1))), (13, (.rsl (.bs 5 (lock (@lsub UInt8) s1 0 (lock toN (lock imin (lock ofN (lock (@xlen UInt8) s1)) (10 : Int))))))), (14, (.v (.int .i64 (lock ofN (lock (@xlen UInt8) (lock (@lsub UInt8) s1 0 (lock toN (lock imin (lock ofN (lock (@xlen UInt8) s1)) (10 : Int))))))))), (15, (.v (.int .i64 i2)))] 55 0, [], 0⟩) ?_ ?_
    · rintro ⟨u0, u1⟩ e
      simp only [Prod.mk.injEq] at e
      obtain ⟨e0, e1⟩ := e
      refine le_auto hk ?_
      (try cbv); (try simp only [choice_lk, lock_eq, and_self, and_true, true_and]); (try first | exact e | exact e.symm | (and_intros <;> first | assumption | rfl | exact Eq.symm (by assumption)))
    · clear hr
      intro x bb1 hr ht1
      obtain ⟨i1, i2⟩ := x
      constructor
      unfold F_varint_Get_L1 at hr
      (try dsimp only at hr)
      (try cbv)
      refine sel_intro (fun h => ?_) (fun h => ?_)
      · have h1 : (ilt i2 (ofN (xlen (lsub s1 0 (toN (imin (ofN (xlen s1)) (10 : Int))))))) = true := by first | exact h | (have h2 := h; simp only [choice_lk, lock_eq] at h2; exact h2) | (simp only [choice_lk, lock_eq] at h; exact h)
        rw [if_pos h1] at hr
        (try cbv)
        have gg := guard_inv hr
        have g := gg.1
        replace hr := gg.2
        clear gg
        refine ⟨obl.2 (by first | (simp only [choice_lk, lock_eq, R.len, R.sub]; exact g) | exact g), ?_⟩
        have gg := guard_inv hr
        have g := gg.1
        replace hr := gg.2
        clear gg
        refine ⟨obl.2 (by first | (simp only [choice_lk, lock_eq, R.len, R.sub]; exact g) | exact g), ?_⟩
        have gg := guard_inv hr
        have g := gg.1
        replace hr := gg.2
        clear gg
        refine ⟨obl.2 (by first | (simp only [choice_lk, lock_eq, R.len, R.sub]; exact g) | exact g), ?_⟩
        refine sel_intro (fun h => ?_) (fun h => ?_)
        · have h1 : (ieq (ishr .u64 (ishl .u64 (iconv .u64 (irem (getB (lsub s1 0 (toN (imin (ofN (xlen s1)) (10 : Int)))) (toN i2)) (128 : Int))) (imul .i64 (7 : Int) i2)) (imul .i64 (7 : Int) i2)) (iconv .u64 (irem (getB (lsub s1 0 (toN (imin (ofN (xlen s1)) (10 : Int)))) (toN i2)) (128 : Int)))) = false := by first | exact (bnot_t.1 h) | (have h2 := (bnot_t.1 h); simp only [choice_lk, lock_eq] at h2; exact h2) | (simp only [choice_lk, lock_eq] at h; exact (bnot_t.1 h))
          rw [if_neg (by rw [h1]; exact Bool.false_ne_true)] at hr
          (try cbv)
          apply Hidden.out
          obtain rfl := Option.some.inj hr
          have e := ht1 _ rfl
          obtain ⟨u0, u1, u2⟩ := r
          simp only [Prod.mk.injEq] at e
          obtain ⟨e0, e1, e2⟩ := e
          constructor
          refine ⟨_, hF, ?_⟩
          (try cbv); (try simp only [choice_lk, lock_eq, and_self, and_true, true_and]); (try first | exact e | exact e.symm | (and_intros <;> first | assumption | rfl | exact Eq.symm (by assumption)))
        · have h1 : (ieq (ishr .u64 (ishl .u64 (iconv .u64 (irem (getB (lsub s1 0 (toN (imin (ofN (xlen s1)) (10 : Int)))) (toN i2)) (128 : Int))) (imul .i64 (7 : Int) i2)) (imul .i64 (7 : Int) i2)) (iconv .u64 (irem (getB (lsub s1 0 (toN (imin (ofN (xlen s1)) (10 : Int)))) (toN i2)) (128 : Int)))) = true := by first | exact (bnot_f.1 h) | (have h2 := (bnot_f.1 h); simp only [choice_lk, lock_eq] at h2; exact h2) | (simp only [choice_lk, lock_eq] at h; exact (bnot_f.1 h))
          rw [if_pos h1] at hr
          (try cbv)
          have gg := guard_inv hr
          have g := gg.1
          replace hr := gg.2
          clear gg
          refine ⟨obl.2 (by first | (simp only [choice_lk, lock_eq, R.len, R.sub]; exact g) | exact g), ?_⟩
          refine sel_intro (fun h => ?_) (fun h => ?_)
          · have h1 : (ile (128 : Int) (getB (lsub s1 0 (toN (imin (ofN (xlen s1)) (10 : Int)))) (toN i2))) = true := by first | exact h | (have h2 := h; simp only [choice_lk, lock_eq] at h2; exact h2) | (simp only [choice_lk, lock_eq] at h; exact h)
            rw [if_pos h1] at hr
            (try cbv)
            apply Hidden.out
            obtain rfl := Option.some.inj hr
            constructor
            refine ⟨⟨_, rfl⟩, ?_⟩
            rintro ⟨u0, u1⟩ e
            replace e := Sum.inl.inj e
            simp only [Prod.mk.injEq] at e
            obtain ⟨e0, e1⟩ := e
            refine le_auto hk ?_
            (try cbv); (try simp only [choice_lk, lock_eq, and_self, and_true, true_and]); (try first | exact e | exact e.symm | (and_intros <;> first | assumption | rfl | exact Eq.symm (by assumption)))
          · have h1 : (ile (128 : Int) (getB (lsub s1 0 (toN (imin (ofN (xlen s1)) (10 : Int)))) (toN i2))) = false := by first | exact h | (have h2 := h; simp only [choice_lk, lock_eq] at h2; exact h2) | (simp only [choice_lk, lock_eq] at h; exact h)
            rw [if_neg (by rw [h1]; exact Bool.false_ne_true)] at hr
            (try cbv)
            refine sel_intro (fun h => ?_) (fun h => ?_)
            · have h1 : (ieq (getB (lsub s1 0 (toN (imin (ofN (xlen s1)) (10 : Int)))) (toN i2)) (0 : Int)) = true := by first | exact h | (have h2 := h; simp only [choice_lk, lock_eq] at h2; exact h2) | (simp only [choice_lk, lock_eq] at h; exact h)
              rw [if_pos h1] at hr
              (try cbv)
              refine sel_intro (fun h => ?_) (fun h => ?_)
              · have h1 : (ilt (0 : Int) i2) = true := by first | exact h | (have h2 := h; simp only [choice_lk, lock_eq] at h2; exact h2) | (simp only [choice_lk, lock_eq] at h; exact h)
                rw [if_pos h1] at hr
                (try cbv)
                apply Hidden.out
                obtain rfl := Option.some.inj hr
                have e := ht1 _ rfl
                obtain ⟨u0, u1, u2⟩ := r
                simp only [Prod.mk.injEq] at e
                obtain ⟨e0, e1, e2⟩ := e
                constructor
                refine ⟨_, hF, ?_⟩
                (try cbv); (try simp only [choice_lk, lock_eq, and_self, and_true, true_and]); (try first | exact e | exact e.symm | (and_intros <;> first | assumption | rfl | exact Eq.symm (by assumption)))
              · have h1 : (ilt (0 : Int) i2) = false := by first | exact h | (have h2 := h; simp only [choice_lk, lock_eq] at h2; exact h2) | (simp only [choice_lk, lock_eq] at h; exact h)
                rw [if_neg (by rw [h1]; exact Bool.false_ne_true)] at hr
                (try cbv)
                apply Hidden.out
                obtain rfl := Option.some.inj hr
                have e := ht1 _ rfl
                obtain ⟨u0, u1, u2⟩ := r
                simp only [Prod.mk.injEq] at e
                obtain ⟨e0, e1, e2⟩ := e
                constructor
                refine ⟨_, hF, ?_⟩
                (try cbv); (try simp only [choice_lk, lock_eq, and_self, and_true, true_and]); (try first | exact e | exact e.symm | (and_intros <;> first | assumption | rfl | exact Eq.symm (by assumption)))
            · have h1 : (ieq (getB (lsub s1 0 (toN (imin (ofN (xlen s1)) (10 : Int)))) (toN i2)) (0 : Int)) = false := by first | exact h | (have h2 := h; simp only [choice_lk, lock_eq] at h2; exact h2) | (simp only [choice_lk, lock_eq] at h; exact h)
              rw [if_neg (by rw [h1]; exact Bool.false_ne_true)] at hr
              (try cbv)
              apply Hidden.out
              obtain rfl := Option.some.inj hr
              have e := ht1 _ rfl
              obtain ⟨u0, u1, u2⟩ := r
              simp only [Prod.mk.injEq] at e
              obtain ⟨e0, e1, e2⟩ := e
              constructor
              refine ⟨_, hF, ?_⟩
              (try cbv); (try simp only [choice_lk, lock_eq, and_self, and_true, true_and]); (try first | exact e | exact e.symm | (and_intros <;> first | assumption | rfl | exact Eq.symm (by assumption)))
      · have h1 : (ilt i2 (ofN (xlen (lsub s1 0 (toN (imin (ofN (xlen s1)) (10 : Int))))))) = false := by first | exact h | (have h2 := h; simp only [choice_lk, lock_eq] at h2; exact h2) | (simp only [choice_lk, lock_eq] at h; exact h)
        rw [if_neg (by rw [h1]; exact Bool.false_ne_true)] at hr
        (try cbv)
        refine sel_intro (fun h => ?_) (fun h => ?_)
        · have h1 : (ile (10 : Int) (ofN (xlen s1))) = true := by first | exact h | (have h2 := h; simp only [choice_lk, lock_eq] at h2; exact h2) | (simp only [choice_lk, lock_eq] at h; exact h)
          rw [if_pos h1] at hr
          (try cbv)
          apply Hidden.out
          obtain rfl := Option.some.inj hr
          have e := ht1 _ rfl
          obtain ⟨u0, u1, u2⟩ := r
          simp only [Prod.mk.injEq] at e
          obtain ⟨e0, e1, e2⟩ := e
          constructor
          refine ⟨_, hF, ?_⟩
          (try cbv); (try simp only [choice_lk, lock_eq, and_self, and_true, true_and]); (try first | exact e | exact e.symm | (and_intros <;> first | assumption | rfl | exact Eq.symm (by assumption)))
        · have h1 : (ile (10 : Int) (ofN (xlen s1))) = false := by first | exact h | (have h2 := h; simp only [choice_lk, lock_eq] at h2; exact h2) | (simp only [choice_lk, lock_eq] at h; exact h)
          rw [if_neg (by rw [h1]; exact Bool.false_ne_true)] at hr
          (try cbv)
          apply Hidden.out
          obtain rfl := Option.some.inj hr
          have e := ht1 _ rfl
          obtain ⟨u0, u1, u2⟩ := r
          simp only [Prod.mk.injEq] at e
          obtain ⟨e0, e1, e2⟩ := e
          constructor
          refine ⟨_, hF, ?_⟩
          (try cbv); (try simp only [choice_lk, lock_eq, and_self, and_true, true_and]); (try first | exact e | exact e.symm | (and_intros <;> first | assumption | rfl | exact Eq.symm (by assumption)))
end Go.Proofs.YtnkfginlmdenjaaDoor
end
section
/-
  The walk of bytes.Equal (printed by a program of ours).
-/
set_option linter.unusedVariables false
set_option linter.unusedSimpArgs false
namespace Go.Proofs.YtnkfginlmdenjaaDoor
open Go.RowKit

noncomputable def tab_bytes_Equal : Nat → Option Con := look []
set_option maxHeartbeats 4000000 in
set_option maxRecDepth 100000 in
theorem vc_bytes_Equal (P : Program) (T : Tab P tab_bytes_Equal) (hm : P.follows .mixedOrders = true) : FnVC P tab_bytes_Equal ic_25 [.t 4] 10 con_bytes_Equal := by
  intro cargs ccks ce hce hob C hk
  apply Hidden.out
  replace hce : con_bytes_Equal_1 cargs ccks = some ce := hce
  · unfold con_bytes_Equal_1 at hce
    split at hce
    rotate_left
    · cases hce
    obtain rfl := Option.some.inj hce
    rename_i s1 s2
    have hb1 := hob _ (List.mem_singleton.2 rfl)
    have hb2 := obl.1 hb1
    clear hb1 hob hce
    refine hb2.elim fun r hF => ?_
    clear hb2
    simp only [List.length_cons, List.length_nil, Nat.zero_add, Nat.reduceAdd] at hk
    have hr : F_bytes_Equal s1 s2 = some r := by rw [lock_eq] at hF; exact hF
    unfold F_bytes_Equal at hr
    constructor
    (try cbv)
    apply Hidden.out
    have e := Option.some.inj hr
    constructor
    refine ⟨_, hF, ?_⟩
    (try cbv); (try simp only [choice_lk, lock_eq, and_self, and_true, true_and]); (try first | exact e | exact e.symm | (and_intros <;> first | assumption | rfl | exact Eq.symm (by assumption)))
end Go.Proofs.YtnkfginlmdenjaaDoor
end
section
/-
  The walk of bytes.Clone (printed by a program of ours).
-/
set_option linter.unusedVariables false
set_option linter.unusedSimpArgs false
namespace Go.Proofs.YtnkfginlmdenjaaDoor
open Go.RowKit

noncomputable def tab_bytes_Clone : Nat → Option Con := look []
set_option maxRecDepth 100000 in
theorem vc_bytes_Clone (P : Program) (T : Tab P tab_bytes_Clone) (hm : P.follows .mixedOrders = true) : FnVC P tab_bytes_Clone ic_26 [.t 2] 8 con_bytes_Clone := by
  intro cargs ccks ce hce hob C hk
  apply Hidden.out
  replace hce : con_bytes_Clone_1 cargs ccks = some ce := hce
  · unfold con_bytes_Clone_1 at hce
    split at hce
    rotate_left
    · cases hce
    obtain rfl := Option.some.inj hce
    rename_i s1
    have hb1 := hob _ (List.mem_singleton.2 rfl)
    have hb2 := obl.1 hb1
    clear hb1 hob hce
    refine hb2.elim fun r hF => ?_
    clear hb2
    simp only [List.length_cons, List.length_nil, Nat.zero_add, Nat.reduceAdd] at hk
    have hr : cloneB s1 = some r := by rw [lock_eq] at hF; exact hF
    unfold cloneB at hr
    obtain ⟨g, hr⟩ := guard_inv hr
    obtain rfl := Option.some.inj hr
    constructor
    cbv
    intro b hb
    cases b with
    | true =>
      constructor
      have hb : lock (@xlen UInt8) s1 = 0 := hb rfl
      simp only [lock_eq, xlen] at hb
      have e : s1 = [] := List.length_eq_zero_iff.1 hb
      refine ⟨_, hF, ?_⟩
      cbv
      exact e
    | false =>
      constructor
      cbv
      refine ⟨obl.2 (by simp only [R.len, lock_eq, choice_lk, xlen, List.length_nil]; simp only [xlen] at g; simp at g ⊢; omega), ?_⟩
      refine ⟨_, hF, ?_⟩
      cbv
      simp only [choice_lk]
      rfl
end Go.Proofs.YtnkfginlmdenjaaDoor
end
section
/-
  The walk of tollbar/frame.Get (printed by a program of ours).
-/
set_option linter.unusedVariables false
set_option linter.unusedSimpArgs false
namespace Go.Proofs.YtnkfginlmdenjaaDoor
open Go.RowKit

noncomputable def tab_frame_Get : Nat → Option Con := look [(24, con_varint_Get), (14, con_frame_Sum), (21, con_octet_Big), (25, con_bytes_Equal), (26, con_bytes_Clone)]
set_option maxHeartbeats 4000000 in
set_option maxRecDepth 100000 in
theorem vc_frame_Get (P : Program) (T : Tab P tab_frame_Get) (hm : P.follows .mixedOrders = true) : FnVC P tab_frame_Get ic_12 [.t 2, .t 3, .t 4] 55 con_frame_Get := by
  intro cargs ccks ce hce hob C hk
  apply Hidden.out
  replace hce : con_frame_Get_1 cargs ccks = some ce := hce
  · unfold con_frame_Get_1 at hce
    split at hce
    rotate_left
    · cases hce
    obtain rfl := Option.some.inj hce
    rename_i s1
    have hb1 := hob _ (List.mem_singleton.2 rfl)
    have hb2 := obl.1 hb1
    clear hb1 hob hce
    refine hb2.elim fun r hF => ?_
    clear hb2
    simp only [List.length_cons, List.length_nil, Nat.zero_add, Nat.reduceAdd] at hk
    have hr : F_frame_Get s1 = some r := by rw [lock_eq] at hF; exact hF
    unfold F_frame_Get at hr
    constructor
    (try cbv)
    have hqe : ∃ qq, F_varint_Get s1 = some qq := by
      cases hq : F_varint_Get s1 with
      | none => rw [hq] at hr; cases hr
      | some qq => exact ⟨qq, rfl⟩
    refine ⟨obl.2 (by simp only [choice_lk, lock_eq]; exact hqe), (by rintro (⟨_, _, _⟩) _ <;> cbv), ?_⟩
    clear hqe
    intro qq hx1
    simp only [choice_lk, lock_eq] at hx1
    rcases qq with ⟨y1, y2, y3⟩
    all_goals (rw [hx1] at hr; dsimp only at hr; constructor; (try cbv))
    refine sel_intro (fun h => ?_) (fun h => ?_)
    · have h1 : (ieq y3 (0 : Int)) = false := by first | exact (bnot_t.1 h) | (have h2 := (bnot_t.1 h); simp only [choice_lk, lock_eq] at h2; exact h2) | (simp only [choice_lk, lock_eq] at h; exact (bnot_t.1 h))
      rw [if_neg (by rw [h1]; exact Bool.false_ne_true)] at hr
      (try cbv)
      apply Hidden.out
      have e := Option.some.inj hr
      obtain ⟨u0, u1, u2⟩ := r
      simp only [Prod.mk.injEq] at e
      obtain ⟨e0, e1, e2⟩ := e
      constructor
      refine ⟨_, hF, ?_⟩
      (try cbv); (try simp only [choice_lk, lock_eq, and_self, and_true, true_and]); (try first | exact e | exact e.symm | (and_intros <;> first | assumption | rfl | exact Eq.symm (by assumption)))
    · have h1 : (ieq y3 (0 : Int)) = true := by first | exact (bnot_f.1 h) | (have h2 := (bnot_f.1 h); simp only [choice_lk, lock_eq] at h2; exact h2) | (simp only [choice_lk, lock_eq] at h; exact (bnot_f.1 h))
      rw [if_pos h1] at hr
      (try cbv)
      refine sel_intro (fun h => ?_) (fun h => ?_)
      · have h1 : (ilt (8192 : Int) y1) = true := by first | exact h | (have h2 := h; simp only [choice_lk, lock_eq] at h2; exact h2) | (simp only [choice_lk, lock_eq] at h; exact h)
        rw [if_pos h1] at hr
        (try cbv)
        apply Hidden.out
        have e := Option.some.inj hr
        obtain ⟨u0, u1, u2⟩ := r
        simp only [Prod.mk.injEq] at e
        obtain ⟨e0, e1, e2⟩ := e
        constructor
        refine ⟨_, hF, ?_⟩
        (try cbv); (try simp only [choice_lk, lock_eq, and_self, and_true, true_and]); (try first | exact e | exact e.symm | (and_intros <;> first | assumption | rfl | exact Eq.symm (by assumption)))
      · have h1 : (ilt (8192 : Int) y1) = false := by first | exact h | (have h2 := h; simp only [choice_lk, lock_eq] at h2; exact h2) | (simp only [choice_lk, lock_eq] at h; exact h)
        rw [if_neg (by rw [h1]; exact Bool.false_ne_true)] at hr
        (try cbv)
        refine sel_intro (fun h => ?_) (fun h => ?_)
        · have h1 : (ilt (ofN (xlen s1)) (iadd .i64 (iadd .i64 y2 (iconv .i64 y1)) (4 : Int))) = true := by first | exact h | (have h2 := h; simp only [choice_lk, lock_eq] at h2; exact h2) | (simp only [choice_lk, lock_eq] at h; exact h)
          rw [if_pos h1] at hr
          (try cbv)
          apply Hidden.out
          have e := Option.some.inj hr
          obtain ⟨u0, u1, u2⟩ := r
          simp only [Prod.mk.injEq] at e
          obtain ⟨e0, e1, e2⟩ := e
          constructor
          refine ⟨_, hF, ?_⟩
          (try cbv); (try simp only [choice_lk, lock_eq, and_self, and_true, true_and]); (try first | exact e | exact e.symm | (and_intros <;> first | assumption | rfl | exact Eq.symm (by assumption)))
        · have h1 : (ilt (ofN (xlen s1)) (iadd .i64 (iadd .i64 y2 (iconv .i64 y1)) (4 : Int))) = false := by first | exact h | (have h2 := h; simp only [choice_lk, lock_eq] at h2; exact h2) | (simp only [choice_lk, lock_eq] at h; exact h)
          rw [if_neg (by rw [h1]; exact Bool.false_ne_true)] at hr
          (try cbv)
          have gg := guard_inv hr
          have g := gg.1
          replace hr := gg.2
          clear gg
          refine ⟨obl.2 (by first | (simp only [choice_lk, lock_eq, R.len, R.sub]; exact g) | exact g), ?_⟩
          have hqe : ∃ qq, F_frame_Sum (lsub s1 0 (toN (iadd .i64 y2 (iconv .i64 y1)))) = some qq := by
            cases hq : F_frame_Sum (lsub s1 0 (toN (iadd .i64 y2 (iconv .i64 y1)))) with
            | none => rw [hq] at hr; cases hr
            | some qq => exact ⟨qq, rfl⟩
          refine ⟨(by simp only [choice_lk, lock_eq]; exact hqe), obl.2 (by simp only [choice_lk, lock_eq]; exact hqe), (by rintro (_) _ <;> cbv), ?_⟩
          clear hqe
          intro y4 hx2
          simp only [choice_lk, lock_eq] at hx2
          all_goals (rw [hx2] at hr; dsimp only at hr; constructor; (try cbv))
          have hqe : ∃ qq, F_octet_Big (iconv .u64 y4) (4 : Int) = some qq := by
            cases hq : F_octet_Big (iconv .u64 y4) (4 : Int) with
            | none => rw [hq] at hr; cases hr
            | some qq => exact ⟨qq, rfl⟩
          refine ⟨(by simp only [choice_lk, lock_eq]; exact hqe), obl.2 (by simp only [choice_lk, lock_eq]; exact hqe), (by rintro (_) _ <;> cbv), ?_⟩
          clear hqe
          intro t1 hx3
          simp only [choice_lk, lock_eq] at hx3
          all_goals (rw [hx3] at hr; dsimp only at hr; constructor; (try cbv))
          have gg := guard_inv hr
          have g := gg.1
          replace hr := gg.2
          clear gg
          refine ⟨obl.2 (by first | (simp only [choice_lk, lock_eq, R.len, R.sub]; exact g) | exact g), ?_⟩
          have hqe : ∃ qq, F_bytes_Equal t1 (lsub s1 (toN (iadd .i64 y2 (iconv .i64 y1))) (ndec (toN (iadd .i64 (iadd .i64 y2 (iconv .i64 y1)) (4 : Int))) (toN (iadd .i64 y2 (iconv .i64 y1))))) = some qq := by
            cases hq : F_bytes_Equal t1 (lsub s1 (toN (iadd .i64 y2 (iconv .i64 y1))) (ndec (toN (iadd .i64 (iadd .i64 y2 (iconv .i64 y1)) (4 : Int))) (toN (iadd .i64 y2 (iconv .i64 y1))))) with
            | none => rw [hq] at hr; cases hr
            | some qq => exact ⟨qq, rfl⟩
          refine ⟨(by simp only [choice_lk, lock_eq]; exact hqe), obl.2 (by simp only [choice_lk, lock_eq]; exact hqe), (by rintro (_) _ <;> cbv), ?_⟩
          clear hqe
          intro c1 hx4
          simp only [choice_lk, lock_eq] at hx4
          all_goals (rw [hx4] at hr; dsimp only at hr; constructor; (try cbv))
          refine sel_intro (fun h => ?_) (fun h => ?_)
          · have h1 : c1 = false := by first | exact (bnot_t.1 h) | (have h2 := (bnot_t.1 h); simp only [choice_lk, lock_eq] at h2; exact h2) | (simp only [choice_lk, lock_eq] at h; exact (bnot_t.1 h))
            rw [if_neg (by rw [h1]; exact Bool.false_ne_true)] at hr
            (try cbv)
            apply Hidden.out
            have e := Option.some.inj hr
            obtain ⟨u0, u1, u2⟩ := r
            simp only [Prod.mk.injEq] at e
            obtain ⟨e0, e1, e2⟩ := e
            constructor
            refine ⟨_, hF, ?_⟩
            (try cbv); (try simp only [choice_lk, lock_eq, and_self, and_true, true_and]); (try first | exact e | exact e.symm | (and_intros <;> first | assumption | rfl | exact Eq.symm (by assumption)))
          · have h1 : c1 = true := by first | exact (bnot_f.1 h) | (have h2 := (bnot_f.1 h); simp only [choice_lk, lock_eq] at h2; exact h2) | (simp only [choice_lk, lock_eq] at h; exact (bnot_f.1 h))
            rw [if_pos h1] at hr
            (try cbv)
            have gg := guard_inv hr
            have g := gg.1
            replace hr := gg.2
            clear gg
            refine ⟨obl.2 (by first | (simp only [choice_lk, lock_eq, R.len, R.sub]; exact g) | exact g), ?_⟩
            have hqe : ∃ qq, cloneB (lsub s1 (toN y2) (ndec (toN (iadd .i64 y2 (iconv .i64 y1))) (toN y2))) = some qq := by
              cases hq : cloneB (lsub s1 (toN y2) (ndec (toN (iadd .i64 y2 (iconv .i64 y1))) (toN y2))) with
              | none => rw [hq] at hr; cases hr
              | some qq => exact ⟨qq, rfl⟩
            refine ⟨obl.2 (by simp only [choice_lk, lock_eq]; exact hqe), (by rintro (_) _ <;> cbv), ?_⟩
            clear hqe
            intro t2 hx5
            simp only [choice_lk, lock_eq] at hx5
            all_goals (rw [hx5] at hr; dsimp only at hr; constructor; (try cbv))
            apply Hidden.out
            have e := Option.some.inj hr
            obtain ⟨u0, u1, u2⟩ := r
            simp only [Prod.mk.injEq] at e
            obtain ⟨e0, e1, e2⟩ := e
            constructor
            refine ⟨_, hF, ?_⟩
            (try cbv); (try simp only [choice_lk, lock_eq, and_self, and_true, true_and]); (try first | exact e | exact e.symm | (and_intros <;> first | assumption | rfl | exact Eq.symm (by assumption)))
end Go.Proofs.YtnkfginlmdenjaaDoor
end
section
/-
  The walk of tollbar/frame.records (printed by a program of ours).
-/
set_option linter.unusedVariables false
set_option linter.unusedSimpArgs false
namespace Go.Proofs.YtnkfginlmdenjaaDoor
open Go.RowKit

noncomputable def tab_frame_records : Nat → Option Con := look []
set_option maxHeartbeats 4000000 in
set_option maxRecDepth 100000 in
theorem vc_frame_records (P : Program) (T : Tab P tab_frame_records) (hm : P.follows .mixedOrders = true) : FnVC P tab_frame_records ic_28 [.t 4] 6 con_frame_records := by
  intro cargs ccks ce hce hob C hk
  apply Hidden.out
  replace hce : con_frame_records_1 cargs ccks = some ce := hce
  · unfold con_frame_records_1 at hce
    split at hce
    rotate_left
    · cases hce
    obtain rfl := Option.some.inj hce
    rename_i s1 x1
    have hb1 := hob _ (List.mem_singleton.2 rfl)
    have hb2 := obl.1 hb1
    clear hb1 hob hce
    refine hb2.elim fun r hF => ?_
    clear hb2
    simp only [List.length_cons, List.length_nil, Nat.zero_add, Nat.reduceAdd] at hk
    have hr : F_frame_records s1 x1 = some r := by rw [lock_eq] at hF; exact hF
    unfold F_frame_records at hr
    constructor
    (try cbv)
    apply Hidden.out
    have e := Option.some.inj hr
    constructor
    refine ⟨_, hF, ?_⟩
    (try cbv); (try simp only [choice_lk, lock_eq, and_self, and_true, true_and]); (try first | exact e | exact e.symm | (and_intros <;> first | assumption | rfl | exact Eq.symm (by assumption)))
end Go.Proofs.YtnkfginlmdenjaaDoor
end
section
/-
  The walk of tollbar/frame.All (printed by a program of ours).
-/
set_option linter.unusedVariables false
set_option linter.unusedSimpArgs false
namespace Go.Proofs.YtnkfginlmdenjaaDoor
open Go.RowKit

noncomputable def tab_frame_All : Nat → Option Con := look [(28, con_frame_records), (12, con_frame_Get)]
set_option maxHeartbeats 4000000 in
set_option maxRecDepth 100000 in
theorem vc_frame_All (P : Program) (T : Tab P tab_frame_All) (hm : P.follows .mixedOrders = true) (hI31 : ItOK P 31 ic_31 33) : FnVC P tab_frame_All ic_16 [.t 2, .t 3, .t 4] 22 con_frame_All := by
  intro cargs ccks ce hce hob C hk
  apply Hidden.out
  replace hce : con_frame_All_1 cargs ccks = some ce := hce
  · unfold con_frame_All_1 at hce
    split at hce
    rotate_left
    · cases hce
    obtain rfl := Option.some.inj hce
    rename_i s1
    have hb1 := hob _ (List.mem_singleton.2 rfl)
    have hb2 := obl.1 hb1
    clear hb1 hob hce
    refine hb2.elim fun r hF => ?_
    clear hb2
    simp only [List.length_cons, List.length_nil, Nat.zero_add, Nat.reduceAdd] at hk
    have hr : F_frame_All s1 = some r := by rw [lock_eq] at hF; exact hF
    unfold F_frame_All at hr
    constructor
    (try cbv)
    have hqe : ∃ qq, F_frame_records s1 (0 : Int) = some qq := by
      cases hq : F_frame_records s1 (0 : Int) with
      | none => rw [hq] at hr; cases hr
      | some qq => exact ⟨qq, rfl⟩
    refine ⟨obl.2 (by simp only [choice_lk, lock_eq]; exact hqe), (by rintro (_) _ <;> cbv), ?_⟩
    clear hqe
    intro qq hx1
    simp only [choice_lk, lock_eq] at hx1
    rcases qq with _
    all_goals (rw [hx1] at hr; dsimp only at hr; constructor; (try cbv))
    refine LoopOK.rfn T hI31 (s0 := ⟨mkFr [(5, (.ptr 0 0)), (6, (.ptr 1 0)), (7, (.ptr 2 0)), (11, (.fn 31 [(.ptr 3 0), (.ptr 4 0)]))] 22 0, [(0, .blk 37 [.nsl]), (1, .blk 24 [(.v (.int .i64 (0 : Int)))]), (2, .blk 3 [(.v (.int .i64 (0 : Int)))]), (3, .blk 22 [(.rsl (.bs 5 s1))]), (4, .blk 65 [(.ptr 1 0)])], 5⟩) (caps := [(.ptr 3 0), (.ptr 4 0)]) ?_ rfl ?_
    · refine le_auto hk ?_
      (try cbv); (try simp only [choice_lk, lock_eq, and_self, and_true, true_and]); (try first | exact e | exact e.symm | (and_intros <;> first | assumption | rfl | exact Eq.symm (by assumption)))
    · intro C1 yl hk1
      replace hk1 : C1.k = 5 := hk1
      constructor
      (try cbv)
      refine LoopI.iter (B := (F_frame_All_L1 s1)) hr (fun | (i1, i2, i3, r1) => ⟨mkFr [(0, (.v (.func (.yield yl) #[] #[]))), (1, (.ptr 3 0)), (2, (.ptr 4 0)), (4, (.v (.int .i64 i1)))] 33 0, [(0, .blk 37 [(.wsl 5)]), (1, .blk 24 [(.v (.int .i64 i2))]), (2, .blk 3 [(.v (.int .i64 i3))]), (3, .blk 22 [(.rsl (.bs 5 s1))]), (4, .blk 65 [(.ptr 1 0)]), (5, .row (.row 22 (.bytes 5) r1))], 6⟩) ?_ ?_
      · rintro ⟨u0, u1, u2, u3⟩ e
        simp only [Prod.mk.injEq] at e
        obtain ⟨e0, e1, e2, e3⟩ := e
        refine le_auto hk1 ?_
        (try cbv); (try simp only [choice_lk, lock_eq, and_self, and_true, true_and]); (try first | exact e | exact e.symm | (and_intros <;> first | assumption | rfl | exact Eq.symm (by assumption)))
      · clear hr
        intro x bb1 hr ht1
        obtain ⟨i1, i2, i3, r1⟩ := x
        constructor
        unfold F_frame_All_L1 at hr
        (try dsimp only at hr)
        (try cbv)
        refine sel_intro (fun h => ?_) (fun h => ?_)
        · have h1 : (ilt i1 (ofN (xlen s1))) = true := by first | exact h | (have h2 := h; simp only [choice_lk, lock_eq] at h2; exact h2) | (simp only [choice_lk, lock_eq] at h; exact h)
          rw [if_pos h1] at hr
          (try cbv)
          have gg := guard_inv hr
          have g := gg.1
          replace hr := gg.2
          clear gg
          refine ⟨obl.2 (by first | (simp only [choice_lk, lock_eq, R.len, R.sub]; exact g) | exact g), ?_⟩
          have hqe : ∃ qq, F_frame_Get (lsub s1 (toN i1) (ndec (xlen s1) (toN i1))) = some qq := by
            cases hq : F_frame_Get (lsub s1 (toN i1) (ndec (xlen s1) (toN i1))) with
            | none => rw [hq] at hr; cases hr
            | some qq => exact ⟨qq, rfl⟩
          refine ⟨obl.2 (by simp only [choice_lk, lock_eq]; exact hqe), (by rintro (⟨_, _, _⟩) _ <;> cbv), ?_⟩
          clear hqe
          intro qq hx5
          simp only [choice_lk, lock_eq] at hx5
          rcases qq with ⟨y7, y8, t4⟩
          all_goals (rw [hx5] at hr; dsimp only at hr; constructor; (try cbv))
          refine sel_intro (fun h => ?_) (fun h => ?_)
          · have h1 : (ieq y8 (0 : Int)) = false := by first | exact (bnot_t.1 h) | (have h2 := (bnot_t.1 h); simp only [choice_lk, lock_eq] at h2; exact h2) | (simp only [choice_lk, lock_eq] at h; exact (bnot_t.1 h))
            rw [if_neg (by rw [h1]; exact Bool.false_ne_true)] at hr
            (try cbv)
            apply Hidden.out
            obtain rfl := Option.some.inj hr
            have e := ht1 _ rfl
            obtain ⟨u0, u1, u2⟩ := r
            simp only [Prod.mk.injEq] at e
            obtain ⟨e0, e1, e2⟩ := e
            constructor
            refine ⟨_, hF, ?_⟩
            (try cbv); (try simp only [choice_lk, lock_eq, and_self, and_true, true_and]); (try first | exact e | exact e.symm | (and_intros <;> first | assumption | rfl | exact Eq.symm (by assumption)))
          · have h1 : (ieq y8 (0 : Int)) = true := by first | exact (bnot_f.1 h) | (have h2 := (bnot_f.1 h); simp only [choice_lk, lock_eq] at h2; exact h2) | (simp only [choice_lk, lock_eq] at h; exact (bnot_f.1 h))
            rw [if_pos h1] at hr
            (try cbv)
            have gg := guard_inv hr
            have g := gg.1
            replace hr := gg.2
            clear gg
            refine ⟨obl.2 (by first | (simp only [choice_lk, lock_eq, R.len, R.sub]; exact g) | exact g), ?_⟩
            apply Hidden.out
            obtain rfl := Option.some.inj hr
            constructor
            refine ⟨⟨_, rfl⟩, ?_⟩
            rintro ⟨u0, u1, u2, u3⟩ e
            replace e := Sum.inl.inj e
            simp only [Prod.mk.injEq] at e
            obtain ⟨e0, e1, e2, e3⟩ := e
            refine le_auto hk1 ?_
            (try cbv); (try simp only [choice_lk, lock_eq, and_self, and_true, true_and]); (try first | exact e | exact e.symm | (and_intros <;> first | assumption | rfl | exact Eq.symm (by assumption)))
        · have h1 : (ilt i1 (ofN (xlen s1))) = false := by first | exact h | (have h2 := h; simp only [choice_lk, lock_eq] at h2; exact h2) | (simp only [choice_lk, lock_eq] at h; exact h)
          rw [if_neg (by rw [h1]; exact Bool.false_ne_true)] at hr
          (try cbv)
          apply Hidden.out
          obtain rfl := Option.some.inj hr
          have e := ht1 _ rfl
          obtain ⟨u0, u1, u2⟩ := r
          simp only [Prod.mk.injEq] at e
          obtain ⟨e0, e1, e2⟩ := e
          constructor
          refine ⟨_, hF, ?_⟩
          (try cbv); (try simp only [choice_lk, lock_eq, and_self, and_true, true_and]); (try first | exact e | exact e.symm | (and_intros <;> first | assumption | rfl | exact Eq.symm (by assumption)))
end Go.Proofs.YtnkfginlmdenjaaDoor
end
section
/-
  The walk of tollbar/tollbarlaw04.awake (printed by a program of ours).
-/
set_option linter.unusedVariables false
set_option linter.unusedSimpArgs false
namespace Go.Proofs.YtnkfginlmdenjaaDoor
open Go.RowKit

noncomputable def tab_tollbarlaw04_awake : Nat → Option Con := look [(10, con_frame_Put), (12, con_frame_Get), (16, con_frame_All), (14, con_frame_Sum)]
set_option maxHeartbeats 4000000 in
set_option maxRecDepth 100000 in
theorem vc_tollbarlaw04_awake (P : Program) (T : Tab P tab_tollbarlaw04_awake) (hm : P.follows .mixedOrders = true) : FnVC P tab_tollbarlaw04_awake ic_9 [.t 0] 66 con_tollbarlaw04_awake := by
  intro cargs ccks ce hce hob C hk
  apply Hidden.out
  replace hce : con_tollbarlaw04_awake_1 cargs ccks = some ce := hce
  · unfold con_tollbarlaw04_awake_1 at hce
    split at hce
    rotate_left
    · cases hce
    obtain rfl := Option.some.inj hce
    have hb1 := hob _ (List.mem_singleton.2 rfl)
    have hb2 := obl.1 hb1
    clear hb1 hob hce
    refine hb2.elim fun r hF => ?_
    clear hb2
    simp only [List.length_cons, List.length_nil, Nat.zero_add, Nat.reduceAdd] at hk
    have hr : F_tollbarlaw04_awake = some r := by rw [lock_eq] at hF; exact hF
    unfold F_tollbarlaw04_awake at hr
    constructor
    (try cbv)
    have gg := guard_inv hr
    have g := gg.1
    replace hr := gg.2
    clear gg
    refine ⟨obl.2 (by first | (simp only [choice_lk, lock_eq, R.len, R.sub]; exact g) | exact g), ?_⟩
    have gg := guard_inv hr
    have g := gg.1
    replace hr := gg.2
    clear gg
    refine ⟨obl.2 (by first | (simp only [choice_lk, lock_eq, R.len, R.sub]; exact g) | exact g), ?_⟩
    have gg := guard_inv hr
    have g := gg.1
    replace hr := gg.2
    clear gg
    refine ⟨obl.2 (by first | (simp only [choice_lk, lock_eq, R.len, R.sub]; exact g) | exact g), ?_⟩
    have hqe : ∃ qq, F_frame_Put (byteOf (97 : Int) :: (byteOf (98 : Int) :: ([] : List UInt8))) = some qq := by
      cases hq : F_frame_Put (byteOf (97 : Int) :: (byteOf (98 : Int) :: ([] : List UInt8))) with
      | none => rw [hq] at hr; cases hr
      | some qq => exact ⟨qq, rfl⟩
    refine ⟨obl.2 (by simp only [choice_lk, lock_eq]; exact hqe), (by rintro (⟨_, _⟩) _ <;> cbv), ?_⟩
    clear hqe
    intro qq hx1
    simp only [choice_lk, lock_eq] at hx1
    rcases qq with ⟨y1, t1⟩
    all_goals (rw [hx1] at hr; dsimp only at hr; constructor; (try cbv))
    have hqe : ∃ qq, F_frame_Get t1 = some qq := by
      cases hq : F_frame_Get t1 with
      | none => rw [hq] at hr; cases hr
      | some qq => exact ⟨qq, rfl⟩
    refine ⟨obl.2 (by simp only [choice_lk, lock_eq]; exact hqe), (by rintro (⟨_, _, _⟩) _ <;> cbv), ?_⟩
    clear hqe
    intro qq hx2
    simp only [choice_lk, lock_eq] at hx2
    rcases qq with ⟨y2, y3, t2⟩
    all_goals (rw [hx2] at hr; dsimp only at hr; constructor; (try cbv))
    have hqe : ∃ qq, F_frame_All t1 = some qq := by
      cases hq : F_frame_All t1 with
      | none => rw [hq] at hr; cases hr
      | some qq => exact ⟨qq, rfl⟩
    refine ⟨obl.2 (by simp only [choice_lk, lock_eq]; exact hqe), (by rintro (⟨_, _, _⟩) _ <;> cbv), ?_⟩
    clear hqe
    intro qq hx3
    simp only [choice_lk, lock_eq] at hx3
    rcases qq with ⟨y4, y5, q1⟩
    all_goals (rw [hx3] at hr; dsimp only at hr; constructor; (try cbv))
    have gg := guard_inv hr
    have g := gg.1
    replace hr := gg.2
    clear gg
    refine ⟨obl.2 (by first | (simp only [choice_lk, lock_eq, R.len, R.sub]; exact g) | exact g), ?_⟩
    have gg := guard_inv hr
    have g := gg.1
    replace hr := gg.2
    clear gg
    refine ⟨obl.2 (by first | (simp only [choice_lk, lock_eq, R.len, R.sub]; exact g) | exact g), ?_⟩
    have gg := guard_inv hr
    have g := gg.1
    replace hr := gg.2
    clear gg
    refine ⟨obl.2 (by first | (simp only [choice_lk, lock_eq, R.len, R.sub]; exact g) | exact g), ?_⟩
    have gg := guard_inv hr
    have g := gg.1
    replace hr := gg.2
    clear gg
    refine ⟨obl.2 (by first | (simp only [choice_lk, lock_eq, R.len, R.sub]; exact g) | exact g), ?_⟩
    have gg := guard_inv hr
    have g := gg.1
    replace hr := gg.2
    clear gg
    refine ⟨obl.2 (by first | (simp only [choice_lk, lock_eq, R.len, R.sub]; exact g) | exact g), ?_⟩
    have gg := guard_inv hr
    have g := gg.1
    replace hr := gg.2
    clear gg
    refine ⟨obl.2 (by first | (simp only [choice_lk, lock_eq, R.len, R.sub]; exact g) | exact g), ?_⟩
    have gg := guard_inv hr
    have g := gg.1
    replace hr := gg.2
    clear gg
    refine ⟨obl.2 (by first | (simp only [choice_lk, lock_eq, R.len, R.sub]; exact g) | exact g), ?_⟩
    have gg := guard_inv hr
    have g := gg.1
    replace hr := gg.2
    clear gg
    refine ⟨obl.2 (by first | (simp only [choice_lk, lock_eq, R.len, R.sub]; exact g) | exact g), ?_⟩
    have gg := guard_inv hr
    have g := gg.1
    replace hr := gg.2
    clear gg
    refine ⟨obl.2 (by first | (simp only [choice_lk, lock_eq, R.len, R.sub]; exact g) | exact g), ?_⟩
    have gg := guard_inv hr
    have g := gg.1
    replace hr := gg.2
    clear gg
    refine ⟨obl.2 (by first | (simp only [choice_lk, lock_eq, R.len, R.sub]; exact g) | exact g), ?_⟩
    have hqe : ∃ qq, F_frame_Sum (byteOf (49 : Int) :: (byteOf (50 : Int) :: (byteOf (51 : Int) :: (byteOf (52 : Int) :: (byteOf (53 : Int) :: (byteOf (54 : Int) :: (byteOf (55 : Int) :: (byteOf (56 : Int) :: (byteOf (57 : Int) :: ([] : List UInt8)))))))))) = some qq := by
      cases hq : F_frame_Sum (byteOf (49 : Int) :: (byteOf (50 : Int) :: (byteOf (51 : Int) :: (byteOf (52 : Int) :: (byteOf (53 : Int) :: (byteOf (54 : Int) :: (byteOf (55 : Int) :: (byteOf (56 : Int) :: (byteOf (57 : Int) :: ([] : List UInt8)))))))))) with
      | none => rw [hq] at hr; cases hr
      | some qq => exact ⟨qq, rfl⟩
    refine ⟨obl.2 (by simp only [choice_lk, lock_eq]; exact hqe), (by rintro (_) _ <;> cbv), ?_⟩
    clear hqe
    intro y6 hx4
    simp only [choice_lk, lock_eq] at hx4
    all_goals (rw [hx4] at hr; dsimp only at hr; constructor; (try cbv))
    refine sel_intro (fun h => ?_) (fun h => ?_)
    · have h1 : (ieq y6 (3808858755 : Int)) = true := by first | exact h | (have h2 := h; simp only [choice_lk, lock_eq] at h2; exact h2) | (simp only [choice_lk, lock_eq] at h; exact h)
      rw [if_pos h1] at hr
      (try cbv)
      refine sel_intro (fun h => ?_) (fun h => ?_)
      · have h1 : (ieq y1 (0 : Int)) = true := by first | exact h | (have h2 := h; simp only [choice_lk, lock_eq] at h2; exact h2) | (simp only [choice_lk, lock_eq] at h; exact h)
        rw [if_pos h1] at hr
        (try cbv)
        refine sel_intro (fun h => ?_) (fun h => ?_)
        · have h1 : (ieq (ofN (xlen t1)) (7 : Int)) = true := by first | exact h | (have h2 := h; simp only [choice_lk, lock_eq] at h2; exact h2) | (simp only [choice_lk, lock_eq] at h; exact h)
          rw [if_pos h1] at hr
          (try cbv)
          refine sel_intro (fun h => ?_) (fun h => ?_)
          · have h1 : (seq t2 ([97, 98] : List UInt8)) = true := by first | exact h | (have h2 := h; simp only [choice_lk, lock_eq] at h2; exact h2) | (simp only [choice_lk, lock_eq] at h; exact h)
            rw [if_pos h1] at hr
            (try cbv)
            refine sel_intro (fun h => ?_) (fun h => ?_)
            · have h1 : (ieq y2 (7 : Int)) = true := by first | exact h | (have h2 := h; simp only [choice_lk, lock_eq] at h2; exact h2) | (simp only [choice_lk, lock_eq] at h; exact h)
              rw [if_pos h1] at hr
              (try cbv)
              refine sel_intro (fun h => ?_) (fun h => ?_)
              · have h1 : (ieq y3 (0 : Int)) = true := by first | exact h | (have h2 := h; simp only [choice_lk, lock_eq] at h2; exact h2) | (simp only [choice_lk, lock_eq] at h; exact h)
                rw [if_pos h1] at hr
                (try cbv)
                refine sel_intro (fun h => ?_) (fun h => ?_)
                · have h1 : (ieq (ofN (xlen q1)) (1 : Int)) = true := by first | exact h | (have h2 := h; simp only [choice_lk, lock_eq] at h2; exact h2) | (simp only [choice_lk, lock_eq] at h; exact h)
                  rw [if_pos h1] at hr
                  (try cbv)
                  refine sel_intro (fun h => ?_) (fun h => ?_)
                  · have h1 : (ieq y4 (7 : Int)) = true := by first | exact h | (have h2 := h; simp only [choice_lk, lock_eq] at h2; exact h2) | (simp only [choice_lk, lock_eq] at h; exact h)
                    rw [if_pos h1] at hr
                    (try cbv)
                    apply Hidden.out
                    have e := Option.some.inj hr
                    constructor
                    refine ⟨_, hF, ?_⟩
                    (try cbv); (try simp only [choice_lk, lock_eq, and_self, and_true, true_and]); (try first | exact e | exact e.symm | (and_intros <;> first | assumption | rfl | exact Eq.symm (by assumption)))
                  · have h1 : (ieq y4 (7 : Int)) = false := by first | exact h | (have h2 := h; simp only [choice_lk, lock_eq] at h2; exact h2) | (simp only [choice_lk, lock_eq] at h; exact h)
                    rw [if_neg (by rw [h1]; exact Bool.false_ne_true)] at hr
                    (try cbv)
                    apply Hidden.out
                    have e := Option.some.inj hr
                    constructor
                    refine ⟨_, hF, ?_⟩
                    (try cbv); (try simp only [choice_lk, lock_eq, and_self, and_true, true_and]); (try first | exact e | exact e.symm | (and_intros <;> first | assumption | rfl | exact Eq.symm (by assumption)))
                · have h1 : (ieq (ofN (xlen q1)) (1 : Int)) = false := by first | exact h | (have h2 := h; simp only [choice_lk, lock_eq] at h2; exact h2) | (simp only [choice_lk, lock_eq] at h; exact h)
                  rw [if_neg (by rw [h1]; exact Bool.false_ne_true)] at hr
                  (try cbv)
                  apply Hidden.out
                  have e := Option.some.inj hr
                  constructor
                  refine ⟨_, hF, ?_⟩
                  (try cbv); (try simp only [choice_lk, lock_eq, and_self, and_true, true_and]); (try first | exact e | exact e.symm | (and_intros <;> first | assumption | rfl | exact Eq.symm (by assumption)))
              · have h1 : (ieq y3 (0 : Int)) = false := by first | exact h | (have h2 := h; simp only [choice_lk, lock_eq] at h2; exact h2) | (simp only [choice_lk, lock_eq] at h; exact h)
                rw [if_neg (by rw [h1]; exact Bool.false_ne_true)] at hr
                (try cbv)
                apply Hidden.out
                have e := Option.some.inj hr
                constructor
                refine ⟨_, hF, ?_⟩
                (try cbv); (try simp only [choice_lk, lock_eq, and_self, and_true, true_and]); (try first | exact e | exact e.symm | (and_intros <;> first | assumption | rfl | exact Eq.symm (by assumption)))
            · have h1 : (ieq y2 (7 : Int)) = false := by first | exact h | (have h2 := h; simp only [choice_lk, lock_eq] at h2; exact h2) | (simp only [choice_lk, lock_eq] at h; exact h)
              rw [if_neg (by rw [h1]; exact Bool.false_ne_true)] at hr
              (try cbv)
              apply Hidden.out
              have e := Option.some.inj hr
              constructor
              refine ⟨_, hF, ?_⟩
              (try cbv); (try simp only [choice_lk, lock_eq, and_self, and_true, true_and]); (try first | exact e | exact e.symm | (and_intros <;> first | assumption | rfl | exact Eq.symm (by assumption)))
          · have h1 : (seq t2 ([97, 98] : List UInt8)) = false := by first | exact h | (have h2 := h; simp only [choice_lk, lock_eq] at h2; exact h2) | (simp only [choice_lk, lock_eq] at h; exact h)
            rw [if_neg (by rw [h1]; exact Bool.false_ne_true)] at hr
            (try cbv)
            apply Hidden.out
            have e := Option.some.inj hr
            constructor
            refine ⟨_, hF, ?_⟩
            (try cbv); (try simp only [choice_lk, lock_eq, and_self, and_true, true_and]); (try first | exact e | exact e.symm | (and_intros <;> first | assumption | rfl | exact Eq.symm (by assumption)))
        · have h1 : (ieq (ofN (xlen t1)) (7 : Int)) = false := by first | exact h | (have h2 := h; simp only [choice_lk, lock_eq] at h2; exact h2) | (simp only [choice_lk, lock_eq] at h; exact h)
          rw [if_neg (by rw [h1]; exact Bool.false_ne_true)] at hr
          (try cbv)
          apply Hidden.out
          have e := Option.some.inj hr
          constructor
          refine ⟨_, hF, ?_⟩
          (try cbv); (try simp only [choice_lk, lock_eq, and_self, and_true, true_and]); (try first | exact e | exact e.symm | (and_intros <;> first | assumption | rfl | exact Eq.symm (by assumption)))
      · have h1 : (ieq y1 (0 : Int)) = false := by first | exact h | (have h2 := h; simp only [choice_lk, lock_eq] at h2; exact h2) | (simp only [choice_lk, lock_eq] at h; exact h)
        rw [if_neg (by rw [h1]; exact Bool.false_ne_true)] at hr
        (try cbv)
        apply Hidden.out
        have e := Option.some.inj hr
        constructor
        refine ⟨_, hF, ?_⟩
        (try cbv); (try simp only [choice_lk, lock_eq, and_self, and_true, true_and]); (try first | exact e | exact e.symm | (and_intros <;> first | assumption | rfl | exact Eq.symm (by assumption)))
    · have h1 : (ieq y6 (3808858755 : Int)) = false := by first | exact h | (have h2 := h; simp only [choice_lk, lock_eq] at h2; exact h2) | (simp only [choice_lk, lock_eq] at h; exact h)
      rw [if_neg (by rw [h1]; exact Bool.false_ne_true)] at hr
      (try cbv)
      apply Hidden.out
      have e := Option.some.inj hr
      constructor
      refine ⟨_, hF, ?_⟩
      (try cbv); (try simp only [choice_lk, lock_eq, and_self, and_true, true_and]); (try first | exact e | exact e.symm | (and_intros <;> first | assumption | rfl | exact Eq.symm (by assumption)))
end Go.Proofs.YtnkfginlmdenjaaDoor
end
section
/-
  The walk of tollbar/tollbarlaw04.texts (printed by a program of ours).
-/
set_option linter.unusedVariables false
set_option linter.unusedSimpArgs false
namespace Go.Proofs.YtnkfginlmdenjaaDoor
open Go.RowKit

noncomputable def tab_tollbarlaw04_texts : Nat → Option Con := look []
set_option maxHeartbeats 4000000 in
set_option maxRecDepth 100000 in
theorem vc_tollbarlaw04_texts (P : Program) (T : Tab P tab_tollbarlaw04_texts) (hm : P.follows .mixedOrders = true) : FnVC P tab_tollbarlaw04_texts ic_19 [.t 2] 20 con_tollbarlaw04_texts := by
  intro cargs ccks ce hce hob C hk
  apply Hidden.out
  replace hce : con_tollbarlaw04_texts_1 cargs ccks = some ce := hce
  · unfold con_tollbarlaw04_texts_1 at hce
    split at hce
    rotate_left
    · cases hce
    obtain rfl := Option.some.inj hce
    rename_i r1
    have hb1 := hob _ (List.mem_singleton.2 rfl)
    have hb2 := obl.1 hb1
    clear hb1 hob hce
    refine hb2.elim fun r hF => ?_
    clear hb2
    simp only [List.length_cons, List.length_nil, Nat.zero_add, Nat.reduceAdd] at hk
    have hr : F_tollbarlaw04_texts r1 = some r := by rw [lock_eq] at hF; exact hF
    unfold F_tollbarlaw04_texts at hr
    constructor
    (try cbv)
    refine LoopOK.iter T (drawOK T hm) (B := (F_tollbarlaw04_texts_L1 r1)) hr (fun | (i1, r2) => ⟨mkFr [(0, (.rsl (.row 22 (.bytes 5) r1))), (3, (.wsl 0)), (4, (.v (.int .i64 i1)))] 20 0, [(0, .row (.row 9 .str r2))], 1⟩) ?_ ?_
    · rintro ⟨u0, u1⟩ e
      simp only [Prod.mk.injEq] at e
      obtain ⟨e0, e1⟩ := e
      refine le_auto hk ?_
      (try cbv); (try simp only [choice_lk, lock_eq, and_self, and_true, true_and]); (try first | exact e | exact e.symm | (and_intros <;> first | assumption | rfl | exact Eq.symm (by assumption)))
    · clear hr
      intro x bb1 hr ht1
      obtain ⟨i1, r2⟩ := x
      constructor
      unfold F_tollbarlaw04_texts_L1 at hr
      (try dsimp only at hr)
      (try cbv)
      refine sel_intro (fun h => ?_) (fun h => ?_)
      · have h1 : (ilt i1 (ofN (xlen r1))) = true := by first | exact h | (have h2 := h; simp only [choice_lk, lock_eq] at h2; exact h2) | (simp only [choice_lk, lock_eq] at h; exact h)
        rw [if_pos h1] at hr
        (try cbv)
        have gg := guard_inv hr
        have g := gg.1
        replace hr := gg.2
        clear gg
        refine ⟨obl.2 (by first | (simp only [choice_lk, lock_eq, R.len, R.sub]; exact g) | exact g), ?_⟩
        have gg := guard_inv hr
        have g := gg.1
        replace hr := gg.2
        clear gg
        refine ⟨obl.2 (by first | (simp only [choice_lk, lock_eq, R.len, R.sub]; exact g) | exact g), ?_⟩
        apply Hidden.out
        obtain rfl := Option.some.inj hr
        constructor
        refine ⟨⟨_, rfl⟩, ?_⟩
        rintro ⟨u0, u1⟩ e
        replace e := Sum.inl.inj e
        simp only [Prod.mk.injEq] at e
        obtain ⟨e0, e1⟩ := e
        refine le_auto hk ?_
        (try cbv); (try simp only [choice_lk, lock_eq, and_self, and_true, true_and]); (try first | exact e | exact e.symm | (and_intros <;> first | assumption | rfl | exact Eq.symm (by assumption)))
      · have h1 : (ilt i1 (ofN (xlen r1))) = false := by first | exact h | (have h2 := h; simp only [choice_lk, lock_eq] at h2; exact h2) | (simp only [choice_lk, lock_eq] at h; exact h)
        rw [if_neg (by rw [h1]; exact Bool.false_ne_true)] at hr
        (try cbv)
        apply Hidden.out
        obtain rfl := Option.some.inj hr
        have e := ht1 _ rfl
        constructor
        refine ⟨_, hF, ?_⟩
        (try cbv); (try simp only [choice_lk, lock_eq, and_self, and_true, true_and]); (try first | exact e | exact e.symm | (and_intros <;> first | assumption | rfl | exact Eq.symm (by assumption)))
end Go.Proofs.YtnkfginlmdenjaaDoor
end
section
/-
  The walk of tollbar/tollbarref04.Same (printed by a program of ours).
-/
set_option linter.unusedVariables false
set_option linter.unusedSimpArgs false
namespace Go.Proofs.YtnkfginlmdenjaaDoor
open Go.RowKit

noncomputable def tab_tollbarref04_Same : Nat → Option Con := look []
set_option maxHeartbeats 4000000 in
set_option maxRecDepth 100000 in
theorem vc_tollbarref04_Same (P : Program) (T : Tab P tab_tollbarref04_Same) (hm : P.follows .mixedOrders = true) : FnVC P tab_tollbarref04_Same ic_18 [.t 4] 26 con_tollbarref04_Same := by
  intro cargs ccks ce hce hob C hk
  apply Hidden.out
  replace hce : con_tollbarref04_Same_1 cargs ccks = some ce := hce
  · unfold con_tollbarref04_Same_1 at hce
    split at hce
    rotate_left
    · cases hce
    obtain rfl := Option.some.inj hce
    rename_i r1 r2
    have hb1 := hob _ (List.mem_singleton.2 rfl)
    have hb2 := obl.1 hb1
    clear hb1 hob hce
    refine hb2.elim fun r hF => ?_
    clear hb2
    simp only [List.length_cons, List.length_nil, Nat.zero_add, Nat.reduceAdd] at hk
    have hr : F_tollbarref04_Same r1 r2 = some r := by rw [lock_eq] at hF; exact hF
    unfold F_tollbarref04_Same at hr
    constructor
    (try cbv)
    refine sel_intro (fun h => ?_) (fun h => ?_)
    · have h1 : (ieq (ofN (xlen r1)) (ofN (xlen r2))) = false := by first | exact (bnot_t.1 h) | (have h2 := (bnot_t.1 h); simp only [choice_lk, lock_eq] at h2; exact h2) | (simp only [choice_lk, lock_eq] at h; exact (bnot_t.1 h))
      rw [if_neg (by rw [h1]; exact Bool.false_ne_true)] at hr
      (try cbv)
      apply Hidden.out
      have e := Option.some.inj hr
      constructor
      refine ⟨_, hF, ?_⟩
      (try cbv); (try simp only [choice_lk, lock_eq, and_self, and_true, true_and]); (try first | exact e | exact e.symm | (and_intros <;> first | assumption | rfl | exact Eq.symm (by assumption)))
    · have h1 : (ieq (ofN (xlen r1)) (ofN (xlen r2))) = true := by first | exact (bnot_f.1 h) | (have h2 := (bnot_f.1 h); simp only [choice_lk, lock_eq] at h2; exact h2) | (simp only [choice_lk, lock_eq] at h; exact (bnot_f.1 h))
      rw [if_pos h1] at hr
      (try cbv)
      refine LoopOK.iter T (drawOK T hm) (B := (F_tollbarref04_Same_L1 r1 r2)) hr (fun | i1 => ⟨mkFr [(0, (.rsl (.row 9 .str r1))), (1, (.rsl (.row 9 .str r2))), (5, (.v (.int .i64 i1)))] 26 0, [], 0⟩) ?_ ?_
      · rintro u0 e
        refine le_auto hk ?_
        (try cbv); (try simp only [choice_lk, lock_eq, and_self, and_true, true_and]); (try first | exact e | exact e.symm | (and_intros <;> first | assumption | rfl | exact Eq.symm (by assumption)))
      · clear hr
        intro x bb1 hr ht1
        obtain ⟨i1, hz⟩ : ∃ z, z = x := ⟨x, rfl⟩
        subst hz
        constructor
        unfold F_tollbarref04_Same_L1 at hr
        (try dsimp only at hr)
        (try cbv)
        refine sel_intro (fun h => ?_) (fun h => ?_)
        · have h1 : (ilt i1 (ofN (xlen r1))) = true := by first | exact h | (have h2 := h; simp only [choice_lk, lock_eq] at h2; exact h2) | (simp only [choice_lk, lock_eq] at h; exact h)
          rw [if_pos h1] at hr
          (try cbv)
          have gg := guard_inv hr
          have g := gg.1
          replace hr := gg.2
          clear gg
          refine ⟨obl.2 (by first | (simp only [choice_lk, lock_eq, R.len, R.sub]; exact g) | exact g), ?_⟩
          have gg := guard_inv hr
          have g := gg.1
          replace hr := gg.2
          clear gg
          refine ⟨obl.2 (by first | (simp only [choice_lk, lock_eq, R.len, R.sub]; exact g) | exact g), ?_⟩
          refine sel_intro (fun h => ?_) (fun h => ?_)
          · have h1 : (seq (D.toS (getD r1 (toN i1))) (D.toS (getD r2 (toN i1)))) = false := by first | exact (bnot_t.1 h) | (have h2 := (bnot_t.1 h); simp only [choice_lk, lock_eq] at h2; exact h2) | (simp only [choice_lk, lock_eq] at h; exact (bnot_t.1 h))
            rw [if_neg (by rw [h1]; exact Bool.false_ne_true)] at hr
            (try cbv)
            apply Hidden.out
            obtain rfl := Option.some.inj hr
            have e := ht1 _ rfl
            constructor
            refine ⟨_, hF, ?_⟩
            (try cbv); (try simp only [choice_lk, lock_eq, and_self, and_true, true_and]); (try first | exact e | exact e.symm | (and_intros <;> first | assumption | rfl | exact Eq.symm (by assumption)))
          · have h1 : (seq (D.toS (getD r1 (toN i1))) (D.toS (getD r2 (toN i1)))) = true := by first | exact (bnot_f.1 h) | (have h2 := (bnot_f.1 h); simp only [choice_lk, lock_eq] at h2; exact h2) | (simp only [choice_lk, lock_eq] at h; exact (bnot_f.1 h))
            rw [if_pos h1] at hr
            (try cbv)
            apply Hidden.out
            obtain rfl := Option.some.inj hr
            constructor
            refine ⟨⟨_, rfl⟩, ?_⟩
            rintro u0 e
            replace e := Sum.inl.inj e
            refine le_auto hk ?_
            (try cbv); (try simp only [choice_lk, lock_eq, and_self, and_true, true_and]); (try first | exact e | exact e.symm | (and_intros <;> first | assumption | rfl | exact Eq.symm (by assumption)))
        · have h1 : (ilt i1 (ofN (xlen r1))) = false := by first | exact h | (have h2 := h; simp only [choice_lk, lock_eq] at h2; exact h2) | (simp only [choice_lk, lock_eq] at h; exact h)
          rw [if_neg (by rw [h1]; exact Bool.false_ne_true)] at hr
          (try cbv)
          apply Hidden.out
          obtain rfl := Option.some.inj hr
          have e := ht1 _ rfl
          constructor
          refine ⟨_, hF, ?_⟩
          (try cbv); (try simp only [choice_lk, lock_eq, and_self, and_true, true_and]); (try first | exact e | exact e.symm | (and_intros <;> first | assumption | rfl | exact Eq.symm (by assumption)))
end Go.Proofs.YtnkfginlmdenjaaDoor
end
section
/-
  The walk of tollbar/tollbarlaw04.FrameBack (printed by a program of ours).
-/
set_option linter.unusedVariables false
set_option linter.unusedSimpArgs false
namespace Go.Proofs.YtnkfginlmdenjaaDoor
open Go.RowKit

noncomputable def tab_tollbarlaw04_FrameBack : Nat → Option Con := look [(9, con_tollbarlaw04_awake), (10, con_frame_Put), (16, con_frame_All), (19, con_tollbarlaw04_texts), (18, con_tollbarref04_Same)]
set_option maxHeartbeats 4000000 in
set_option maxRecDepth 100000 in
theorem vc_tollbarlaw04_FrameBack (P : Program) (T : Tab P tab_tollbarlaw04_FrameBack) (hm : P.follows .mixedOrders = true) : FnVC P tab_tollbarlaw04_FrameBack ic_5 [.t 4] 148 con_tollbarlaw04_FrameBack := by
  intro cargs ccks ce hce hob C hk
  apply Hidden.out
  replace hce : con_tollbarlaw04_FrameBack_1 cargs ccks = some ce := hce
  · unfold con_tollbarlaw04_FrameBack_1 at hce
    split at hce
    rotate_left
    · cases hce
    obtain rfl := Option.some.inj hce
    rename_i r1 x1
    have hb1 := hob _ (List.mem_singleton.2 rfl)
    have hb2 := obl.1 hb1
    clear hb1 hob hce
    refine hb2.elim fun r hF => ?_
    clear hb2
    simp only [List.length_cons, List.length_nil, Nat.zero_add, Nat.reduceAdd] at hk
    have hr : F_tollbarlaw04_FrameBack r1 x1 = some r := by rw [lock_eq] at hF; exact hF
    unfold F_tollbarlaw04_FrameBack at hr
    constructor
    (try cbv)
    have hqe : ∃ qq, F_tollbarlaw04_awake = some qq := by
      cases hq : F_tollbarlaw04_awake with
      | none => rw [hq] at hr; cases hr
      | some qq => exact ⟨qq, rfl⟩
    refine ⟨obl.2 (by simp only [choice_lk, lock_eq]; exact hqe), (by rintro (_) _ <;> cbv), ?_⟩
    clear hqe
    intro c1 hx1
    simp only [choice_lk, lock_eq] at hx1
    all_goals (rw [hx1] at hr; dsimp only at hr; constructor; (try cbv))
    refine sel_intro (fun h => ?_) (fun h => ?_)
    · have h1 : c1 = false := by first | exact (bnot_t.1 h) | (have h2 := (bnot_t.1 h); simp only [choice_lk, lock_eq] at h2; exact h2) | (simp only [choice_lk, lock_eq] at h; exact (bnot_t.1 h))
      rw [if_neg (by rw [h1]; exact Bool.false_ne_true)] at hr
      (try cbv)
      apply Hidden.out
      have e := Option.some.inj hr
      constructor
      refine ⟨_, hF, ?_⟩
      (try cbv); (try simp only [choice_lk, lock_eq, and_self, and_true, true_and]); (try first | exact e | exact e.symm | (and_intros <;> first | assumption | rfl | exact Eq.symm (by assumption)))
    · have h1 : c1 = true := by first | exact (bnot_f.1 h) | (have h2 := (bnot_f.1 h); simp only [choice_lk, lock_eq] at h2; exact h2) | (simp only [choice_lk, lock_eq] at h; exact (bnot_f.1 h))
      rw [if_pos h1] at hr
      (try cbv)
      refine sel_intro (fun h => ?_) (fun h => ?_)
      · have h1 : (ilt (20 : Int) (ofN (xlen r1))) = true := by first | exact h | (have h2 := h; simp only [choice_lk, lock_eq] at h2; exact h2) | (simp only [choice_lk, lock_eq] at h; exact h)
        rw [if_pos h1] at hr
        (try cbv)
        apply Hidden.out
        have e := Option.some.inj hr
        constructor
        refine ⟨_, hF, ?_⟩
        (try cbv); (try simp only [choice_lk, lock_eq, and_self, and_true, true_and]); (try first | exact e | exact e.symm | (and_intros <;> first | assumption | rfl | exact Eq.symm (by assumption)))
      · have h1 : (ilt (20 : Int) (ofN (xlen r1))) = false := by first | exact h | (have h2 := h; simp only [choice_lk, lock_eq] at h2; exact h2) | (simp only [choice_lk, lock_eq] at h; exact h)
        rw [if_neg (by rw [h1]; exact Bool.false_ne_true)] at hr
        (try cbv)
        refine LoopOK.iter T (drawOK T hm) (B := (F_tollbarlaw04_FrameBack_L1 r1 x1)) hr (fun | (i1, s1, l1) => ⟨mkFr [(0, (.rsl (.row 22 (.bytes 5) r1))), (1, (.v (.int .u16 x1))), (6, (.wsl 0)), (7, (.wsl 1)), (8, (.v (.int .i64 i1)))] 148 0, [(0, .row (.bs 5 s1)), (1, .row (.ints 3 .i64 l1))], 2⟩) ?_ ?_
        · rintro ⟨u0, u1, u2⟩ e
          simp only [Prod.mk.injEq] at e
          obtain ⟨e0, e1, e2⟩ := e
          refine le_auto hk ?_
          (try cbv); (try simp only [choice_lk, lock_eq, and_self, and_true, true_and]); (try first | exact e | exact e.symm | (and_intros <;> first | assumption | rfl | exact Eq.symm (by assumption)))
        · clear hr
          intro x bb1 hr ht1
          obtain ⟨i1, s1, l1⟩ := x
          constructor
          unfold F_tollbarlaw04_FrameBack_L1 at hr
          (try dsimp only at hr)
          (try cbv)
          refine sel_intro (fun h => ?_) (fun h => ?_)
          · have h1 : (ilt i1 (ofN (xlen r1))) = true := by first | exact h | (have h2 := h; simp only [choice_lk, lock_eq] at h2; exact h2) | (simp only [choice_lk, lock_eq] at h; exact h)
            rw [if_pos h1] at hr
            (try cbv)
            have gg := guard_inv hr
            have g := gg.1
            replace hr := gg.2
            clear gg
            refine ⟨obl.2 (by first | (simp only [choice_lk, lock_eq, R.len, R.sub]; exact g) | exact g), ?_⟩
            have hqe : ∃ qq, F_frame_Put (D.toS (getD r1 (toN i1))) = some qq := by
              cases hq : F_frame_Put (D.toS (getD r1 (toN i1))) with
              | none => rw [hq] at hr; cases hr
              | some qq => exact ⟨qq, rfl⟩
            refine ⟨obl.2 (by simp only [choice_lk, lock_eq]; exact hqe), (by rintro (⟨_, _⟩) _ <;> cbv), ?_⟩
            clear hqe
            intro qq hx5
            simp only [choice_lk, lock_eq] at hx5
            rcases qq with ⟨y4, t4⟩
            all_goals (rw [hx5] at hr; dsimp only at hr; constructor; (try cbv))
            have gg := guard_inv hr
            have g := gg.1
            replace hr := gg.2
            clear gg
            refine ⟨obl.2 (by first | (simp only [choice_lk, lock_eq, R.len, R.sub]; exact g) | exact g), ?_⟩
            refine sel_intro (fun h => ?_) (fun h => ?_)
            · have h1 : (beq2 (ieq y4 (0 : Int)) (ile (ofN (xlen (D.toS (getD r1 (toN i1))))) (8192 : Int))) = false := by first | exact (bnot_t.1 h) | (have h2 := (bnot_t.1 h); simp only [choice_lk, lock_eq] at h2; exact h2) | (simp only [choice_lk, lock_eq] at h; exact (bnot_t.1 h))
              rw [if_neg (by rw [h1]; exact Bool.false_ne_true)] at hr
              (try cbv)
              apply Hidden.out
              obtain rfl := Option.some.inj hr
              have e := ht1 _ rfl
              constructor
              refine ⟨_, hF, ?_⟩
              (try cbv); (try simp only [choice_lk, lock_eq, and_self, and_true, true_and]); (try first | exact e | exact e.symm | (and_intros <;> first | assumption | rfl | exact Eq.symm (by assumption)))
            · have h1 : (beq2 (ieq y4 (0 : Int)) (ile (ofN (xlen (D.toS (getD r1 (toN i1))))) (8192 : Int))) = true := by first | exact (bnot_f.1 h) | (have h2 := (bnot_f.1 h); simp only [choice_lk, lock_eq] at h2; exact h2) | (simp only [choice_lk, lock_eq] at h; exact (bnot_f.1 h))
              rw [if_pos h1] at hr
              (try cbv)
              have gg := guard_inv hr
              have g := gg.1
              replace hr := gg.2
              clear gg
              refine ⟨obl.2 (by first | (simp only [choice_lk, lock_eq, R.len, R.sub]; exact g) | exact g), ?_⟩
              refine sel_intro (fun h => ?_) (fun h => ?_)
              · have h1 : (ilt (300 : Int) (ofN (xlen (D.toS (getD r1 (toN i1)))))) = true := by first | exact h | (have h2 := h; simp only [choice_lk, lock_eq] at h2; exact h2) | (simp only [choice_lk, lock_eq] at h; exact h)
                rw [if_pos h1] at hr
                (try cbv)
                apply Hidden.out
                obtain rfl := Option.some.inj hr
                have e := ht1 _ rfl
                constructor
                refine ⟨_, hF, ?_⟩
                (try cbv); (try simp only [choice_lk, lock_eq, and_self, and_true, true_and]); (try first | exact e | exact e.symm | (and_intros <;> first | assumption | rfl | exact Eq.symm (by assumption)))
              · have h1 : (ilt (300 : Int) (ofN (xlen (D.toS (getD r1 (toN i1)))))) = false := by first | exact h | (have h2 := h; simp only [choice_lk, lock_eq] at h2; exact h2) | (simp only [choice_lk, lock_eq] at h; exact h)
                rw [if_neg (by rw [h1]; exact Bool.false_ne_true)] at hr
                (try cbv)
                have gg := guard_inv hr
                have g := gg.1
                replace hr := gg.2
                clear gg
                refine ⟨obl.2 (by first | (simp only [choice_lk, lock_eq, R.len, R.sub]; exact g) | exact g), ?_⟩
                have gg := guard_inv hr
                have g := gg.1
                replace hr := gg.2
                clear gg
                refine ⟨obl.2 (by first | (simp only [choice_lk, lock_eq, R.len, R.sub]; exact g) | exact g), ?_⟩
                apply Hidden.out
                obtain rfl := Option.some.inj hr
                constructor
                refine ⟨⟨_, rfl⟩, ?_⟩
                rintro ⟨u0, u1, u2⟩ e
                replace e := Sum.inl.inj e
                simp only [Prod.mk.injEq] at e
                obtain ⟨e0, e1, e2⟩ := e
                refine le_auto hk ?_
                (try cbv); (try simp only [choice_lk, lock_eq, and_self, and_true, true_and]); (try first | exact e | exact e.symm | (and_intros <;> first | assumption | rfl | exact Eq.symm (by assumption)))
          · have h1 : (ilt i1 (ofN (xlen r1))) = false := by first | exact h | (have h2 := h; simp only [choice_lk, lock_eq] at h2; exact h2) | (simp only [choice_lk, lock_eq] at h; exact h)
            rw [if_neg (by rw [h1]; exact Bool.false_ne_true)] at hr
            (try cbv)
            have hqe : ∃ qq, F_frame_All s1 = some qq := by
              cases hq : F_frame_All s1 with
              | none => rw [hq] at hr; cases hr
              | some qq => exact ⟨qq, rfl⟩
            refine ⟨obl.2 (by simp only [choice_lk, lock_eq]; exact hqe), (by rintro (⟨_, _, _⟩) _ <;> cbv), ?_⟩
            clear hqe
            intro qq hx6
            simp only [choice_lk, lock_eq] at hx6
            rcases qq with ⟨y5, y6, q1⟩
            all_goals (rw [hx6] at hr; dsimp only at hr; constructor; (try cbv))
            have hqe : ∃ qq, F_tollbarlaw04_texts q1 = some qq := by
              cases hq : F_tollbarlaw04_texts q1 with
              | none => rw [hq] at hr; cases hr
              | some qq => exact ⟨qq, rfl⟩
            refine ⟨obl.2 (by simp only [choice_lk, lock_eq]; exact hqe), (by rintro (_) _ <;> cbv), ?_⟩
            clear hqe
            intro q2 hx7
            simp only [choice_lk, lock_eq] at hx7
            all_goals (rw [hx7] at hr; dsimp only at hr; constructor; (try cbv))
            have hqe : ∃ qq, F_tollbarlaw04_texts r1 = some qq := by
              cases hq : F_tollbarlaw04_texts r1 with
              | none => rw [hq] at hr; cases hr
              | some qq => exact ⟨qq, rfl⟩
            refine ⟨obl.2 (by simp only [choice_lk, lock_eq]; exact hqe), (by rintro (_) _ <;> cbv), ?_⟩
            clear hqe
            intro q3 hx8
            simp only [choice_lk, lock_eq] at hx8
            all_goals (rw [hx8] at hr; dsimp only at hr; constructor; (try cbv))
            have hqe : ∃ qq, F_tollbarref04_Same q2 q3 = some qq := by
              cases hq : F_tollbarref04_Same q2 q3 with
              | none => rw [hq] at hr; cases hr
              | some qq => exact ⟨qq, rfl⟩
            refine ⟨obl.2 (by simp only [choice_lk, lock_eq]; exact hqe), (by rintro (_) _ <;> cbv), ?_⟩
            clear hqe
            intro c2 hx9
            simp only [choice_lk, lock_eq] at hx9
            all_goals (rw [hx9] at hr; dsimp only at hr; constructor; (try cbv))
            refine sel_intro (fun h => ?_) (fun h => ?_)
            · have h1 : c2 = false := by first | exact (bnot_t.1 h) | (have h2 := (bnot_t.1 h); simp only [choice_lk, lock_eq] at h2; exact h2) | (simp only [choice_lk, lock_eq] at h; exact (bnot_t.1 h))
              rw [if_neg (by rw [h1]; exact Bool.false_ne_true)] at hr
              (try cbv)
              apply Hidden.out
              obtain rfl := Option.some.inj hr
              have e := ht1 _ rfl
              constructor
              refine ⟨_, hF, ?_⟩
              (try cbv); (try simp only [choice_lk, lock_eq, and_self, and_true, true_and]); (try first | exact e | exact e.symm | (and_intros <;> first | assumption | rfl | exact Eq.symm (by assumption)))
            · have h1 : c2 = true := by first | exact (bnot_f.1 h) | (have h2 := (bnot_f.1 h); simp only [choice_lk, lock_eq] at h2; exact h2) | (simp only [choice_lk, lock_eq] at h; exact (bnot_f.1 h))
              rw [if_pos h1] at hr
              (try cbv)
              refine sel_intro (fun h => ?_) (fun h => ?_)
              · have h1 : (ieq y5 (ofN (xlen s1))) = false := by first | exact (bnot_t.1 h) | (have h2 := (bnot_t.1 h); simp only [choice_lk, lock_eq] at h2; exact h2) | (simp only [choice_lk, lock_eq] at h; exact (bnot_t.1 h))
                rw [if_neg (by rw [h1]; exact Bool.false_ne_true)] at hr
                (try cbv)
                apply Hidden.out
                obtain rfl := Option.some.inj hr
                have e := ht1 _ rfl
                constructor
                refine ⟨_, hF, ?_⟩
                (try cbv); (try simp only [choice_lk, lock_eq, and_self, and_true, true_and]); (try first | exact e | exact e.symm | (and_intros <;> first | assumption | rfl | exact Eq.symm (by assumption)))
              · have h1 : (ieq y5 (ofN (xlen s1))) = true := by first | exact (bnot_f.1 h) | (have h2 := (bnot_f.1 h); simp only [choice_lk, lock_eq] at h2; exact h2) | (simp only [choice_lk, lock_eq] at h; exact (bnot_f.1 h))
                rw [if_pos h1] at hr
                (try cbv)
                refine sel_intro (fun h => ?_) (fun h => ?_)
                · have h1 : (ieq y6 (0 : Int)) = false := by first | exact (bnot_t.1 h) | (have h2 := (bnot_t.1 h); simp only [choice_lk, lock_eq] at h2; exact h2) | (simp only [choice_lk, lock_eq] at h; exact (bnot_t.1 h))
                  rw [if_neg (by rw [h1]; exact Bool.false_ne_true)] at hr
                  (try cbv)
                  apply Hidden.out
                  obtain rfl := Option.some.inj hr
                  have e := ht1 _ rfl
                  constructor
                  refine ⟨_, hF, ?_⟩
                  (try cbv); (try simp only [choice_lk, lock_eq, and_self, and_true, true_and]); (try first | exact e | exact e.symm | (and_intros <;> first | assumption | rfl | exact Eq.symm (by assumption)))
                · have h1 : (ieq y6 (0 : Int)) = true := by first | exact (bnot_f.1 h) | (have h2 := (bnot_f.1 h); simp only [choice_lk, lock_eq] at h2; exact h2) | (simp only [choice_lk, lock_eq] at h; exact (bnot_f.1 h))
                  rw [if_pos h1] at hr
                  (try cbv)
                  have gg := guard_inv hr
                  have g := gg.1
                  replace hr := gg.2
                  clear gg
                  refine ⟨by first | (simp only [choice_lk, lock_eq]; exact g) | exact g, ?_⟩
                  apply Hidden.out
                  obtain ⟨t, hr2, hw⟩ := map_inv hr
                  clear hr
                  subst hw
                  have e := (ht1 _ rfl).symm
                  subst e
                  have hr := hr2
                  clear hr2
                  constructor
                  refine LoopOK.iter T (drawOK T hm) (B := (F_tollbarlaw04_FrameBack_L2 l1 x1 s1 r1)) hr (fun | (i2, i3, i4) => ⟨mkFr [(0, (.rsl (.row 22 (.bytes 5) r1))), (6, (.rsl (.bs 5 s1))), (7, (.wsl 0)), (14, (.v (.int .i64 (lock irem (lock iconv .i64 x1) (lock iadd .i64 (lock ofN (lock (@xlen UInt8) s1)) (1 : Int)))))), (15, (.v (.int .i64 i2))), (16, (.v (.int .i64 i3))), (17, (.v (.int .i64 i4)))] 148 0, [(0, .row (.ints 3 .i64 l1))], 1⟩) ?_ ?_
                  · rintro ⟨u0, u1, u2⟩ e
                    simp only [Prod.mk.injEq] at e
                    obtain ⟨e0, e1, e2⟩ := e
                    refine le_auto hk ?_
                    (try cbv); (try simp only [choice_lk, lock_eq, and_self, and_true, true_and]); (try first | exact e | exact e.symm | (and_intros <;> first | assumption | rfl | exact Eq.symm (by assumption)))
                  · clear hr
                    intro x bb1 hr ht1
                    obtain ⟨i2, i3, i4⟩ := x
                    constructor
                    unfold F_tollbarlaw04_FrameBack_L2 at hr
                    (try dsimp only at hr)
                    (try cbv)
                    refine sel_intro (fun h => ?_) (fun h => ?_)
                    · have h1 : (ilt i4 (ofN (xlen l1))) = true := by first | exact h | (have h2 := h; simp only [choice_lk, lock_eq] at h2; exact h2) | (simp only [choice_lk, lock_eq] at h; exact h)
                      rw [if_pos h1] at hr
                      (try cbv)
                      have gg := guard_inv hr
                      have g := gg.1
                      replace hr := gg.2
                      clear gg
                      refine ⟨obl.2 (by first | (simp only [choice_lk, lock_eq, R.len, R.sub]; exact g) | exact g), ?_⟩
                      refine sel_intro (fun h => ?_) (fun h => ?_)
                      · have h1 : (ile (getI l1 (toN i4)) (irem (iconv .i64 x1) (iadd .i64 (ofN (xlen s1)) (1 : Int)))) = true := by first | exact h | (have h2 := h; simp only [choice_lk, lock_eq] at h2; exact h2) | (simp only [choice_lk, lock_eq] at h; exact h)
                        rw [if_pos h1] at hr
                        (try cbv)
                        have gg := guard_inv hr
                        have g := gg.1
                        replace hr := gg.2
                        clear gg
                        refine ⟨obl.2 (by first | (simp only [choice_lk, lock_eq, R.len, R.sub]; exact g) | exact g), ?_⟩
                        apply Hidden.out
                        obtain rfl := Option.some.inj hr
                        constructor
                        refine ⟨⟨_, rfl⟩, ?_⟩
                        rintro ⟨u0, u1, u2⟩ e
                        replace e := Sum.inl.inj e
                        simp only [Prod.mk.injEq] at e
                        obtain ⟨e0, e1, e2⟩ := e
                        refine le_auto hk ?_
                        (try cbv); (try simp only [choice_lk, lock_eq, and_self, and_true, true_and]); (try first | exact e | exact e.symm | (and_intros <;> first | assumption | rfl | exact Eq.symm (by assumption)))
                      · have h1 : (ile (getI l1 (toN i4)) (irem (iconv .i64 x1) (iadd .i64 (ofN (xlen s1)) (1 : Int)))) = false := by first | exact h | (have h2 := h; simp only [choice_lk, lock_eq] at h2; exact h2) | (simp only [choice_lk, lock_eq] at h; exact h)
                        rw [if_neg (by rw [h1]; exact Bool.false_ne_true)] at hr
                        (try cbv)
                        have gg := guard_inv hr
                        have g := gg.1
                        replace hr := gg.2
                        clear gg
                        refine ⟨obl.2 (by first | (simp only [choice_lk, lock_eq, R.len, R.sub]; exact g) | exact g), ?_⟩
                        have hqe : ∃ qq, F_frame_All (lsub s1 0 (toN (irem (iconv .i64 x1) (iadd .i64 (ofN (xlen s1)) (1 : Int))))) = some qq := by
                          cases hq : F_frame_All (lsub s1 0 (toN (irem (iconv .i64 x1) (iadd .i64 (ofN (xlen s1)) (1 : Int))))) with
                          | none => rw [hq] at hr; cases hr
                          | some qq => exact ⟨qq, rfl⟩
                        refine ⟨obl.2 (by simp only [choice_lk, lock_eq]; exact hqe), (by rintro (⟨_, _, _⟩) _ <;> cbv), ?_⟩
                        clear hqe
                        intro qq hx10
                        simp only [choice_lk, lock_eq] at hx10
                        rcases qq with ⟨y7, y8, q4⟩
                        all_goals (rw [hx10] at hr; dsimp only at hr; constructor; (try cbv))
                        have hqe : ∃ qq, F_tollbarlaw04_texts q4 = some qq := by
                          cases hq : F_tollbarlaw04_texts q4 with
                          | none => rw [hq] at hr; cases hr
                          | some qq => exact ⟨qq, rfl⟩
                        refine ⟨(by simp only [choice_lk, lock_eq]; exact hqe), obl.2 (by simp only [choice_lk, lock_eq]; exact hqe), (by rintro (_) _ <;> cbv), ?_⟩
                        clear hqe
                        intro q5 hx11
                        simp only [choice_lk, lock_eq] at hx11
                        all_goals (rw [hx11] at hr; dsimp only at hr; constructor; (try cbv))
                        have gg := guard_inv hr
                        have g := gg.1
                        replace hr := gg.2
                        clear gg
                        refine ⟨obl.2 (by first | (simp only [choice_lk, lock_eq, R.len, R.sub]; exact g) | exact g), ?_⟩
                        have hqe : ∃ qq, F_tollbarlaw04_texts (lsub r1 0 (toN i2)) = some qq := by
                          cases hq : F_tollbarlaw04_texts (lsub r1 0 (toN i2)) with
                          | none => rw [hq] at hr; cases hr
                          | some qq => exact ⟨qq, rfl⟩
                        refine ⟨(by simp only [choice_lk, lock_eq]; exact hqe), obl.2 (by simp only [choice_lk, lock_eq]; exact hqe), (by rintro (_) _ <;> cbv), ?_⟩
                        clear hqe
                        intro q6 hx12
                        simp only [choice_lk, lock_eq] at hx12
                        all_goals (rw [hx12] at hr; dsimp only at hr; constructor; (try cbv))
                        have hqe : ∃ qq, F_tollbarref04_Same q5 q6 = some qq := by
                          cases hq : F_tollbarref04_Same q5 q6 with
                          | none => rw [hq] at hr; cases hr
                          | some qq => exact ⟨qq, rfl⟩
                        refine ⟨(by simp only [choice_lk, lock_eq]; exact hqe), obl.2 (by simp only [choice_lk, lock_eq]; exact hqe), (by rintro (_) _ <;> cbv), ?_⟩
                        clear hqe
                        intro c3 hx13
                        simp only [choice_lk, lock_eq] at hx13
                        all_goals (rw [hx13] at hr; dsimp only at hr; constructor; (try cbv))
                        rcases Bool.eq_false_or_eq_true c3 with h1 | h1
                        · rw [if_pos h1] at hr
                          subst h1
                          (try cbv)
                          rcases Bool.eq_false_or_eq_true (ieq y7 i3) with h1 | h1
                          · rw [if_pos h1] at hr
                            have h2 : (lock ieq y7 i3) = true := by simp only [lock_eq]; exact h1
                            simp only [relock, h2]
                            (try cbv)
                            rcases Bool.eq_false_or_eq_true (beq2 (ieq y8 (0 : Int)) (ieq i3 (irem (iconv .i64 x1) (iadd .i64 (ofN (xlen s1)) (1 : Int))))) with h1 | h1
                            · rw [if_pos h1] at hr
                              have h2 : (lock beq2 (lock ieq y8 (0 : Int)) (lock ieq i3 (lock irem (lock iconv .i64 x1) (lock iadd .i64 (lock ofN (lock (@xlen UInt8) s1)) (1 : Int))))) = true := by simp only [lock_eq]; exact h1
                              simp only [relock, h2]
                              (try cbv)
                              rcases Bool.eq_false_or_eq_true (ieq y8 (0 : Int)) with h1 | h1
                              · rw [if_pos h1] at hr
                                have h2 : (lock ieq y8 (0 : Int)) = true := by simp only [lock_eq]; exact h1
                                simp only [relock, h2]
                                (try cbv)
                                apply Hidden.out
                                obtain rfl := Option.some.inj hr
                                have e := ht1 _ rfl
                                constructor
                                refine ⟨_, hF, ?_⟩
                                (try cbv); (try simp only [choice_lk, lock_eq, and_self, and_true, true_and]); (try first | exact e | exact e.symm | (and_intros <;> first | assumption | rfl | exact Eq.symm (by assumption)))
                              · rw [if_neg (by rw [h1]; exact Bool.false_ne_true)] at hr
                                have h2 : (lock ieq y8 (0 : Int)) = false := by simp only [lock_eq]; exact h1
                                simp only [relock, h2]
                                (try cbv)
                                apply Hidden.out
                                obtain rfl := Option.some.inj hr
                                have e := ht1 _ rfl
                                constructor
                                refine ⟨_, hF, ?_⟩
                                (try cbv); (try simp only [choice_lk, lock_eq, and_self, and_true, true_and]); (try first | exact e | exact e.symm | (and_intros <;> first | assumption | rfl | exact Eq.symm (by assumption)))
                            · rw [if_neg (by rw [h1]; exact Bool.false_ne_true)] at hr
                              have h2 : (lock beq2 (lock ieq y8 (0 : Int)) (lock ieq i3 (lock irem (lock iconv .i64 x1) (lock iadd .i64 (lock ofN (lock (@xlen UInt8) s1)) (1 : Int))))) = false := by simp only [lock_eq]; exact h1
                              simp only [relock, h2]
                              (try cbv)
                              apply Hidden.out
                              obtain rfl := Option.some.inj hr
                              have e := ht1 _ rfl
                              constructor
                              refine ⟨_, hF, ?_⟩
                              (try cbv); (try simp only [choice_lk, lock_eq, and_self, and_true, true_and]); (try first | exact e | exact e.symm | (and_intros <;> first | assumption | rfl | exact Eq.symm (by assumption)))
                          · rw [if_neg (by rw [h1]; exact Bool.false_ne_true)] at hr
                            have h2 : (lock ieq y7 i3) = false := by simp only [lock_eq]; exact h1
                            simp only [relock, h2]
                            (try cbv)
                            apply Hidden.out
                            obtain rfl := Option.some.inj hr
                            have e := ht1 _ rfl
                            constructor
                            refine ⟨_, hF, ?_⟩
                            (try cbv); (try simp only [choice_lk, lock_eq, and_self, and_true, true_and]); (try first | exact e | exact e.symm | (and_intros <;> first | assumption | rfl | exact Eq.symm (by assumption)))
                        · rw [if_neg (by rw [h1]; exact Bool.false_ne_true)] at hr
                          subst h1
                          (try cbv)
                          apply Hidden.out
                          obtain rfl := Option.some.inj hr
                          have e := ht1 _ rfl
                          constructor
                          refine ⟨_, hF, ?_⟩
                          (try cbv); (try simp only [choice_lk, lock_eq, and_self, and_true, true_and]); (try first | exact e | exact e.symm | (and_intros <;> first | assumption | rfl | exact Eq.symm (by assumption)))
                    · have h1 : (ilt i4 (ofN (xlen l1))) = false := by first | exact h | (have h2 := h; simp only [choice_lk, lock_eq] at h2; exact h2) | (simp only [choice_lk, lock_eq] at h; exact h)
                      rw [if_neg (by rw [h1]; exact Bool.false_ne_true)] at hr
                      (try cbv)
                      have gg := guard_inv hr
                      have g := gg.1
                      replace hr := gg.2
                      clear gg
                      refine ⟨obl.2 (by first | (simp only [choice_lk, lock_eq, R.len, R.sub]; exact g) | exact g), ?_⟩
                      have hqe : ∃ qq, F_frame_All (lsub s1 0 (toN (irem (iconv .i64 x1) (iadd .i64 (ofN (xlen s1)) (1 : Int))))) = some qq := by
                        cases hq : F_frame_All (lsub s1 0 (toN (irem (iconv .i64 x1) (iadd .i64 (ofN (xlen s1)) (1 : Int))))) with
                        | none => rw [hq] at hr; cases hr
                        | some qq => exact ⟨qq, rfl⟩
                      refine ⟨obl.2 (by simp only [choice_lk, lock_eq]; exact hqe), (by rintro (⟨_, _, _⟩) _ <;> cbv), ?_⟩
                      clear hqe
                      intro qq hx14
                      simp only [choice_lk, lock_eq] at hx14
                      rcases qq with ⟨y9, y10, q7⟩
                      all_goals (rw [hx14] at hr; dsimp only at hr; constructor; (try cbv))
                      have hqe : ∃ qq, F_tollbarlaw04_texts q7 = some qq := by
                        cases hq : F_tollbarlaw04_texts q7 with
                        | none => rw [hq] at hr; cases hr
                        | some qq => exact ⟨qq, rfl⟩
                      refine ⟨(by simp only [choice_lk, lock_eq]; exact hqe), obl.2 (by simp only [choice_lk, lock_eq]; exact hqe), (by rintro (_) _ <;> cbv), ?_⟩
                      clear hqe
                      intro q8 hx15
                      simp only [choice_lk, lock_eq] at hx15
                      all_goals (rw [hx15] at hr; dsimp only at hr; constructor; (try cbv))
                      have gg := guard_inv hr
                      have g := gg.1
                      replace hr := gg.2
                      clear gg
                      refine ⟨obl.2 (by first | (simp only [choice_lk, lock_eq, R.len, R.sub]; exact g) | exact g), ?_⟩
                      have hqe : ∃ qq, F_tollbarlaw04_texts (lsub r1 0 (toN i2)) = some qq := by
                        cases hq : F_tollbarlaw04_texts (lsub r1 0 (toN i2)) with
                        | none => rw [hq] at hr; cases hr
                        | some qq => exact ⟨qq, rfl⟩
                      refine ⟨(by simp only [choice_lk, lock_eq]; exact hqe), obl.2 (by simp only [choice_lk, lock_eq]; exact hqe), (by rintro (_) _ <;> cbv), ?_⟩
                      clear hqe
                      intro q9 hx16
                      simp only [choice_lk, lock_eq] at hx16
                      all_goals (rw [hx16] at hr; dsimp only at hr; constructor; (try cbv))
                      have hqe : ∃ qq, F_tollbarref04_Same q8 q9 = some qq := by
                        cases hq : F_tollbarref04_Same q8 q9 with
                        | none => rw [hq] at hr; cases hr
                        | some qq => exact ⟨qq, rfl⟩
                      refine ⟨(by simp only [choice_lk, lock_eq]; exact hqe), obl.2 (by simp only [choice_lk, lock_eq]; exact hqe), (by rintro (_) _ <;> cbv), ?_⟩
                      clear hqe
                      intro c4 hx17
                      simp only [choice_lk, lock_eq] at hx17
                      all_goals (rw [hx17] at hr; dsimp only at hr; constructor; (try cbv))
                      rcases Bool.eq_false_or_eq_true c4 with h1 | h1
                      · rw [if_pos h1] at hr
                        subst h1
                        (try cbv)
                        rcases Bool.eq_false_or_eq_true (ieq y9 i3) with h1 | h1
                        · rw [if_pos h1] at hr
                          have h2 : (lock ieq y9 i3) = true := by simp only [lock_eq]; exact h1
                          simp only [relock, h2]
                          (try cbv)
                          rcases Bool.eq_false_or_eq_true (beq2 (ieq y10 (0 : Int)) (ieq i3 (irem (iconv .i64 x1) (iadd .i64 (ofN (xlen s1)) (1 : Int))))) with h1 | h1
                          · rw [if_pos h1] at hr
                            have h2 : (lock beq2 (lock ieq y10 (0 : Int)) (lock ieq i3 (lock irem (lock iconv .i64 x1) (lock iadd .i64 (lock ofN (lock (@xlen UInt8) s1)) (1 : Int))))) = true := by simp only [lock_eq]; exact h1
                            simp only [relock, h2]
                            (try cbv)
                            rcases Bool.eq_false_or_eq_true (ieq y10 (0 : Int)) with h1 | h1
                            · rw [if_pos h1] at hr
                              have h2 : (lock ieq y10 (0 : Int)) = true := by simp only [lock_eq]; exact h1
                              simp only [relock, h2]
                              (try cbv)
                              apply Hidden.out
                              obtain rfl := Option.some.inj hr
                              have e := ht1 _ rfl
                              constructor
                              refine ⟨_, hF, ?_⟩
                              (try cbv); (try simp only [choice_lk, lock_eq, and_self, and_true, true_and]); (try first | exact e | exact e.symm | (and_intros <;> first | assumption | rfl | exact Eq.symm (by assumption)))
                            · rw [if_neg (by rw [h1]; exact Bool.false_ne_true)] at hr
                              have h2 : (lock ieq y10 (0 : Int)) = false := by simp only [lock_eq]; exact h1
                              simp only [relock, h2]
                              (try cbv)
                              apply Hidden.out
                              obtain rfl := Option.some.inj hr
                              have e := ht1 _ rfl
                              constructor
                              refine ⟨_, hF, ?_⟩
                              (try cbv); (try simp only [choice_lk, lock_eq, and_self, and_true, true_and]); (try first | exact e | exact e.symm | (and_intros <;> first | assumption | rfl | exact Eq.symm (by assumption)))
                          · rw [if_neg (by rw [h1]; exact Bool.false_ne_true)] at hr
                            have h2 : (lock beq2 (lock ieq y10 (0 : Int)) (lock ieq i3 (lock irem (lock iconv .i64 x1) (lock iadd .i64 (lock ofN (lock (@xlen UInt8) s1)) (1 : Int))))) = false := by simp only [lock_eq]; exact h1
                            simp only [relock, h2]
                            (try cbv)
                            apply Hidden.out
                            obtain rfl := Option.some.inj hr
                            have e := ht1 _ rfl
                            constructor
                            refine ⟨_, hF, ?_⟩
                            (try cbv); (try simp only [choice_lk, lock_eq, and_self, and_true, true_and]); (try first | exact e | exact e.symm | (and_intros <;> first | assumption | rfl | exact Eq.symm (by assumption)))
                        · rw [if_neg (by rw [h1]; exact Bool.false_ne_true)] at hr
                          have h2 : (lock ieq y9 i3) = false := by simp only [lock_eq]; exact h1
                          simp only [relock, h2]
                          (try cbv)
                          apply Hidden.out
                          obtain rfl := Option.some.inj hr
                          have e := ht1 _ rfl
                          constructor
                          refine ⟨_, hF, ?_⟩
                          (try cbv); (try simp only [choice_lk, lock_eq, and_self, and_true, true_and]); (try first | exact e | exact e.symm | (and_intros <;> first | assumption | rfl | exact Eq.symm (by assumption)))
                      · rw [if_neg (by rw [h1]; exact Bool.false_ne_true)] at hr
                        subst h1
                        (try cbv)
                        apply Hidden.out
                        obtain rfl := Option.some.inj hr
                        have e := ht1 _ rfl
                        constructor
                        refine ⟨_, hF, ?_⟩
                        (try cbv); (try simp only [choice_lk, lock_eq, and_self, and_true, true_and]); (try first | exact e | exact e.symm | (and_intros <;> first | assumption | rfl | exact Eq.symm (by assumption)))
end Go.Proofs.YtnkfginlmdenjaaDoor
end
section
/-
  A walk that reckons: from a contract to what a row asks for.
-/
set_option linter.unusedVariables false
set_option linter.unusedSimpArgs false
namespace Go.Proofs.YtnkfginlmdenjaaDoor
open Go.RowKit

/-- A function that but reads what it is given, and answers true. -/
theorem law_calls {P : Program} {f : FuncId} {con : Con} (h : FnOK P f con) {cargs : List SV} {obs : List Prop} {sm : List Bool} (hc : con.f cargs [] = some ⟨obs, .one (.v (.bool true)) [], sm⟩) (hob : ∀ p ∈ obs, p) {W : World} {args : List Value} (hd : DensA (fun _ => none) W (fun _ => False) cargs args) (hG : ∀ g r, (g, r) ∈ globs → Den (fun _ => none) W (fun _ => False) (.rsl r) (.slice (some ⟨g, 0, none⟩) (rlen r) (rlen r)) := by intro g r h; simp [globs] at h) :
    Calls P f args.toArray W fun e W' => e = .returned (.bool true) ∧ Below W.heap.size W W' := by
  have hO : ∀ b, ¬ Own (fun _ => none) (canon 0 ([] : List Ck)) b := by
    rintro b ⟨id, c, p, h1, h2, h3⟩
    cases h2
  have hS : HSat (ctxOf W (fun _ => False) (fun _ => none) []) (fun _ => none) (canon 0 []) (fun i => ([] : List Ck).length ≤ i) W := by
    refine ⟨fun id c hc => by simp [canon, hget] at hc, fun i j c d p q b h1 => by simp [canon, hget] at h1, fun b hb => absurd hb (hO b), rfl, rfl, rfl, Nat.le_refl _, fun _ _ _ => rfl, ⟨fun b hb => hb.elim, fun g r hg => (hG g r hg).mono (fun _ _ h => h) (Nat.le_refl _) (fun _ _ _ => rfl) (fun b _ hb => by rcases hb with hz | ho; exact hz; exact hO b ho)⟩, fun _ _ => rfl, fun id hid => rfl⟩
  have hA : Avo (ctxOf W (fun _ => False) (fun _ => none) []) (fun _ => none) (canon 0 []) = fun _ => False := by
    funext b
    simp only [Avo, ctxOf, false_or, eq_iff_iff, iff_false]
    exact hO b
  have key := h cargs [] _ hc hob (fun _ => False) (fun _ => none) W args hS (by rw [hA]; exact hd)
  refine key.mono ?_
  rintro e W' ⟨u, PL', rfl, H, D⟩
  cases D
  refine ⟨rfl, ?_⟩
  exact ⟨H.os, H.tape, H.output, H.size, fun k hk => H.old k hk (hO k)⟩

/-- The same, by a contract that leaves open what it yields. -/
theorem law_many {P : Program} {f : FuncId} {con : Con} (h : FnOK P f con) {cargs : List SV} {obs : List Prop} {X : Type} {Pr : X → Prop} {v : X → SV} {post : X → List PostC} {sm : List Bool} (hc : con.f cargs [] = some ⟨obs, .many X Pr v post, sm⟩) (hob : ∀ p ∈ obs, p) (hv : ∀ x, Pr x → v x = .v (.bool true) ∧ post x = []) {W : World} {args : List Value} (hd : DensA (fun _ => none) W (fun _ => False) cargs args) (hG : ∀ g r, (g, r) ∈ globs → Den (fun _ => none) W (fun _ => False) (.rsl r) (.slice (some ⟨g, 0, none⟩) (rlen r) (rlen r)) := by intro g r h; simp [globs] at h) :
    Calls P f args.toArray W fun e W' => e = .returned (.bool true) ∧ Below W.heap.size W W' := by
  have hO : ∀ b, ¬ Own (fun _ => none) (canon 0 ([] : List Ck)) b := by
    rintro b ⟨id, c, p, h1, h2, h3⟩
    cases h2
  have hS : HSat (ctxOf W (fun _ => False) (fun _ => none) []) (fun _ => none) (canon 0 []) (fun i => ([] : List Ck).length ≤ i) W := by
    refine ⟨fun id c hc => by simp [canon, hget] at hc, fun i j c d p q b h1 => by simp [canon, hget] at h1, fun b hb => absurd hb (hO b), rfl, rfl, rfl, Nat.le_refl _, fun _ _ _ => rfl, ⟨fun b hb => hb.elim, fun g r hg => (hG g r hg).mono (fun _ _ h => h) (Nat.le_refl _) (fun _ _ _ => rfl) (fun b _ hb => by rcases hb with hz | ho; exact hz; exact hO b ho)⟩, fun _ _ => rfl, fun id hid => rfl⟩
  have hA : Avo (ctxOf W (fun _ => False) (fun _ => none) []) (fun _ => none) (canon 0 []) = fun _ => False := by
    funext b
    simp only [Avo, ctxOf, false_or, eq_iff_iff, iff_false]
    exact hO b
  have key := h cargs [] _ hc hob (fun _ => False) (fun _ => none) W args hS (by rw [hA]; exact hd)
  refine key.mono ?_
  rintro e W' ⟨u, PL', rfl, x, hx, H, D⟩
  obtain ⟨e1, e2⟩ := hv x hx
  rw [e1] at D
  cases D
  refine ⟨rfl, ?_⟩
  exact ⟨H.os, H.tape, H.output, H.size, fun k hk => H.old k hk (hO k)⟩
theorem densA_nil {PL : Nat → Option Pl} {w : World} {Av : Nat → Prop} : DensA PL w Av [] [] := ⟨rfl, fun j h1 _ => absurd h1 (by simp)⟩
theorem densA_cons {PL : Nat → Option Pl} {w : World} {Av : Nat → Prop} {x : SV} {l : List SV} {c : Value} {cs : List Value} (h : Den PL w Av x c) (k : DensA PL w Av l cs) : DensA PL w Av (x :: l) (c :: cs) :=
  ⟨by simp [k.1], fun j h1 h2 => by
    cases j with
    | zero => exact h
    | succ j => exact k.2 j (by simpa using h1) (by simpa using h2)⟩
theorem den_str {PL : Nat → Option Pl} {w : World} {Av : Nat → Prop} (b : ByteArray) : Den PL w Av (.str b.data.toList) (.string b) := by
  have := Den.str (PL := PL) (w := w) (Av := Av) b.data.toList
  simpa using this
end Go.Proofs.YtnkfginlmdenjaaDoor
end
section
/-
  The walks of the functions that tollbar/tollbarlaw04.FrameBack reaches, tied to the program (printed by a program of ours).
-/
set_option linter.unusedVariables false
set_option linter.unusedSimpArgs false
namespace Go.Proofs.YtnkfginlmdenjaaDoor
open Go.RowKit

theorem mixed : Tryd.prog.follows .mixedOrders = true := by kernel_rfl
theorem tabok_varint_groups : Tab Tryd.prog tab_varint_groups := Tab.nil _
theorem ok_varint_groups : FnOK Tryd.prog 29 con_varint_groups := FnOK.of tabok_varint_groups mixed Tryd.func29 comp_29 (vc_varint_groups _ tabok_varint_groups mixed)
theorem tabok_varint_Put : Tab Tryd.prog tab_varint_Put := Tab.cons (Tab.nil _) ok_varint_groups Tryd.func29 rfl rfl
theorem ok_varint_Put : FnOK Tryd.prog 20 con_varint_Put := FnOK.of tabok_varint_Put mixed Tryd.func20 comp_20 (vc_varint_Put _ tabok_varint_Put mixed (ItOK.of Tryd.func32 comp_32 rfl rfl))
theorem tabok_frame_Sum : Tab Tryd.prog tab_frame_Sum := Tab.nil _
theorem ok_frame_Sum : FnOK Tryd.prog 14 con_frame_Sum := FnOK.of tabok_frame_Sum mixed Tryd.func14 comp_14 (vc_frame_Sum _ tabok_frame_Sum mixed)
theorem tabok_octet_Big : Tab Tryd.prog tab_octet_Big := Tab.nil _
theorem ok_octet_Big : FnOK Tryd.prog 21 con_octet_Big := FnOK.of tabok_octet_Big mixed Tryd.func21 comp_21 (vc_octet_Big _ tabok_octet_Big mixed)
theorem tabok_frame_Put : Tab Tryd.prog tab_frame_Put := Tab.cons (Tab.cons (Tab.cons (Tab.nil _) ok_octet_Big Tryd.func21 rfl rfl) ok_frame_Sum Tryd.func14 rfl rfl) ok_varint_Put Tryd.func20 rfl rfl
theorem ok_frame_Put : FnOK Tryd.prog 10 con_frame_Put := FnOK.of tabok_frame_Put mixed Tryd.func10 comp_10 (vc_frame_Put _ tabok_frame_Put mixed)
theorem tabok_varint_Get : Tab Tryd.prog tab_varint_Get := Tab.nil _
theorem ok_varint_Get : FnOK Tryd.prog 24 con_varint_Get := FnOK.of tabok_varint_Get mixed Tryd.func24 comp_24 (vc_varint_Get _ tabok_varint_Get mixed)
theorem tabok_bytes_Equal : Tab Tryd.prog tab_bytes_Equal := Tab.nil _
theorem ok_bytes_Equal : FnOK Tryd.prog 25 con_bytes_Equal := FnOK.of tabok_bytes_Equal mixed Tryd.func25 comp_25 (vc_bytes_Equal _ tabok_bytes_Equal mixed)
theorem tabok_bytes_Clone : Tab Tryd.prog tab_bytes_Clone := Tab.nil _
theorem ok_bytes_Clone : FnOK Tryd.prog 26 con_bytes_Clone := FnOK.of tabok_bytes_Clone mixed Tryd.func26 comp_26 (vc_bytes_Clone _ tabok_bytes_Clone mixed)
theorem tabok_frame_Get : Tab Tryd.prog tab_frame_Get := Tab.cons (Tab.cons (Tab.cons (Tab.cons (Tab.cons (Tab.nil _) ok_bytes_Clone Tryd.func26 rfl rfl) ok_bytes_Equal Tryd.func25 rfl rfl) ok_octet_Big Tryd.func21 rfl rfl) ok_frame_Sum Tryd.func14 rfl rfl) ok_varint_Get Tryd.func24 rfl rfl
theorem ok_frame_Get : FnOK Tryd.prog 12 con_frame_Get := FnOK.of tabok_frame_Get mixed Tryd.func12 comp_12 (vc_frame_Get _ tabok_frame_Get mixed)
theorem tabok_frame_records : Tab Tryd.prog tab_frame_records := Tab.nil _
theorem ok_frame_records : FnOK Tryd.prog 28 con_frame_records := FnOK.of tabok_frame_records mixed Tryd.func28 comp_28 (vc_frame_records _ tabok_frame_records mixed)
theorem tabok_frame_All : Tab Tryd.prog tab_frame_All := Tab.cons (Tab.cons (Tab.nil _) ok_frame_Get Tryd.func12 rfl rfl) ok_frame_records Tryd.func28 rfl rfl
theorem ok_frame_All : FnOK Tryd.prog 16 con_frame_All := FnOK.of tabok_frame_All mixed Tryd.func16 comp_16 (vc_frame_All _ tabok_frame_All mixed (ItOK.of Tryd.func31 comp_31 rfl rfl))
theorem tabok_tollbarlaw04_awake : Tab Tryd.prog tab_tollbarlaw04_awake := Tab.cons (Tab.cons (Tab.cons (Tab.cons (Tab.nil _) ok_frame_Sum Tryd.func14 rfl rfl) ok_frame_All Tryd.func16 rfl rfl) ok_frame_Get Tryd.func12 rfl rfl) ok_frame_Put Tryd.func10 rfl rfl
theorem ok_tollbarlaw04_awake : FnOK Tryd.prog 9 con_tollbarlaw04_awake := FnOK.of tabok_tollbarlaw04_awake mixed Tryd.func9 comp_9 (vc_tollbarlaw04_awake _ tabok_tollbarlaw04_awake mixed)
theorem tabok_tollbarlaw04_texts : Tab Tryd.prog tab_tollbarlaw04_texts := Tab.nil _
theorem ok_tollbarlaw04_texts : FnOK Tryd.prog 19 con_tollbarlaw04_texts := FnOK.of tabok_tollbarlaw04_texts mixed Tryd.func19 comp_19 (vc_tollbarlaw04_texts _ tabok_tollbarlaw04_texts mixed)
theorem tabok_tollbarref04_Same : Tab Tryd.prog tab_tollbarref04_Same := Tab.nil _
theorem ok_tollbarref04_Same : FnOK Tryd.prog 18 con_tollbarref04_Same := FnOK.of tabok_tollbarref04_Same mixed Tryd.func18 comp_18 (vc_tollbarref04_Same _ tabok_tollbarref04_Same mixed)
theorem tabok_tollbarlaw04_FrameBack : Tab Tryd.prog tab_tollbarlaw04_FrameBack := Tab.cons (Tab.cons (Tab.cons (Tab.cons (Tab.cons (Tab.nil _) ok_tollbarref04_Same Tryd.func18 rfl rfl) ok_tollbarlaw04_texts Tryd.func19 rfl rfl) ok_frame_All Tryd.func16 rfl rfl) ok_frame_Put Tryd.func10 rfl rfl) ok_tollbarlaw04_awake Tryd.func9 rfl rfl
theorem ok_tollbarlaw04_FrameBack : FnOK Tryd.prog 5 con_tollbarlaw04_FrameBack := FnOK.of tabok_tollbarlaw04_FrameBack mixed Tryd.func5 comp_5 (vc_tollbarlaw04_FrameBack _ tabok_tollbarlaw04_FrameBack mixed)

end Go.Proofs.YtnkfginlmdenjaaDoor
end
section
/-
  A walk that reckons: arguments of any shape, opened.
-/
set_option linter.unusedVariables false
set_option linter.unusedSimpArgs false
namespace Go.Proofs.YtnkfginlmdenjaaDoor
open Go.RowKit Go.ChangeShapes Go.WideShapes Go.Deep

mutual
/-- What is known of data that came in: its numbers fit. -/
def Ty.rng : Ty → D → Prop
  | .int k, d => (Lit.int k d.toI).wf = true
  | .bool, _ => True
  | .str, d => d.toS.length ≤ maxLen
  | .bytes _, d => d.toS.length ≤ maxLen
  | .ints _ k, d => d.toIs.length ≤ maxLen ∧ ∀ x ∈ d.toIs, (Lit.int k x).wf = true
  | .row _ e, d => d.toL.length ≤ maxLen ∧ ∀ x ∈ d.toL, e.rng x
  | .st fs, d => Ty.rngL fs d 0
def Ty.rngL : List Ty → D → Nat → Prop
  | [], _, _ => True
  | t :: ts, d, j => t.rng (d.fld j) ∧ Ty.rngL ts d (j + 1)
end

mutual
/-- Is a type of the program of this kind? -/
def tyChk (P : Program) : Ty → TypeId → Bool
  | .int k, t => match P.underlying t with | some (.int j) => j == k | _ => false
  | .bool, t => match P.underlying t with | some .bool => true | _ => false
  | .str, t => match P.underlying t with | some .string => true | _ => false
  | .bytes T, t => match P.underlying t, P.underlying T with | some (.slice e), some (.int .u8) => Nat.beq e T && Nat.beq (P.cellsOf T) 1 | _, _ => false
  | .ints T k, t => match P.underlying t, P.underlying T with | some (.slice e), some (.int j) => Nat.beq e T && Nat.beq (P.cellsOf T) 1 && j == k | _, _ => false
  | .row T e, t => match P.underlying t with | some (.slice e') => Nat.beq e' T && Nat.beq (P.cellsOf T) e.size && Nat.ble 1 e.size && tyChk P e T | _ => false
  | .st es, t => match P.underlying t with | some (.struct fl) => Nat.beq (P.cellsOf t) (Ty.sizes es) && tysChk P es fl.toList 0 | _ => false
def tysChk (P : Program) : List Ty → List Field → Nat → Bool
  | [], [], _ => true
  | e :: es, f :: fl, o => Nat.beq f.offset o && Nat.beq (P.cellsOf f.type) e.size && tyChk P e f.type && tysChk P es fl (o + e.size)
  | _, _, _ => false
end

section
variable {H : Type} {enc : TypeId × Value → H} {P : Program} {w : World} {base : Nat} {spare : Nat → Bool} {held : Bool}
def PN : Nat → Option Pl := fun _ => none
def AN : Nat → Prop := fun _ => False
/-- A row whose elements are opened. -/
theorem open_row {r : R} {a : Addr} {len cap : Nat} (hr : rlen r = len) (hl : len ≤ cap) (hsz : 0 < r.sz) (hrow : ∀ i, i < len → ∃ cs, cs.length = r.sz ∧ (∀ j, j < r.sz → w.cell? (a.add (i * r.sz + j)) = cs[j]?) ∧ Dens PN w AN (r.elem i) cs) :
    Den PN w AN (.rsl r) (.slice (some a) len cap) := by
  subst hr
  have : ∀ i, ∃ cs : List Value, i < rlen r → cs.length = r.sz ∧ (∀ j, j < r.sz → w.cell? (a.add (i * r.sz + j)) = cs[j]?) ∧ Dens PN w AN (r.elem i) cs := fun i => by
    by_cases h : i < rlen r
    · obtain ⟨cs, h⟩ := hrow i h; exact ⟨cs, fun _ => h⟩
    · exact ⟨[], fun h' => absurd h' h⟩
  obtain ⟨f, hf⟩ := Classical.axiomOfChoice this
  refine .rsl r (some a) cap (fun i j => ((f i)[j]?).getD undef) hl ?_ ?_ ?_
  · intro h0
    obtain ⟨h1, h2, h3⟩ := hf 0 h0
    have hc := h2 0 hsz
    rw [Nat.zero_mul, Nat.zero_add, List.getElem?_eq_getElem (by omega)] at hc
    refine ⟨a, rfl, ?_, fun h => h⟩
    have := World.block_lt_of_cell? w _ hc
    rwa [add_block] at this
  · intro i j ad e hi hj
    injection e with e; subst e
    obtain ⟨h1, h2, h3⟩ := hf i hi
    have hjl : j < (f i).length := by omega
    rw [add_add, h2 j hj, List.getElem?_eq_getElem hjl]
    have hle : (r.elem i).length = (f i).length := h3.1.symm
    exact ⟨rfl, by simpa using (h3.2 j (by omega) hjl).2⟩
  · intro i j hi hj
    obtain ⟨h1, h2, h3⟩ := hf i hi
    have hjl : j < (f i).length := by rw [h3.1]; exact hj
    have := (h3.2 j hj hjl).1
    simpa [List.getElem?_eq_getElem hjl] using this

theorem den1 {v : SV} {c : Value} (h : Den PN w AN v c) (h1 : c.oneCell' = true) : Dens PN w AN [v] [c] := Dens.cons h h1 Dens.nil
/-- Bytes that came in. -/
theorem open_bytes {t T : TypeId} (hu : P.underlying t = some (.slice T)) (he : P.underlying T = some (.int .u8)) (hc : P.cellsOf T = 1) {fuel : Nat} {cs : List Value} {x : DataW H × List MemPlace} (h : DataW.trod enc P w base spare held fuel t cs = some x) :
    ∃ l : List UInt8, l.length ≤ maxLen ∧ Dens PN w AN [.rsl (.bs T l)] cs := by
  rcases open_slice1 hu hc h with ⟨rfl, _⟩ | ⟨a, len, cap, m, n, V, D, Pl, rfl, hb, hl, hm, hmm, _, hi⟩
  · exact ⟨[], by simp, den1 (nil_den rfl .nsl) rfl⟩
  · have hle : len ≤ m := by rw [hmm]; split <;> omega
    have each : ∀ i, ∃ b : UInt8, i < len → w.cell? (a.add i) = some (.int .u8 b.toNat) := fun i => by
      by_cases h : i < len
      · obtain ⟨h1, h2⟩ := hi i (by omega)
        obtain ⟨y, e1, _, e2⟩ := DataW.trod_int he h2
        injection e1 with e1 _
        have hy : 0 ≤ y ∧ y ≤ 255 := by simpa [Lit.wf, IntKind.min, IntKind.max, IntKind.signed, IntKind.bits, Int.lt_add_one_iff, Int.le_sub_one_iff] using e2
        refine ⟨UInt8.ofNat y.toNat, fun _ => ?_⟩
        rw [h1, e1]
        have : ((UInt8.ofNat y.toNat).toNat : Int) = y := by simp; omega
        rw [this]
      · exact ⟨0, fun h' => absurd h' h⟩
    obtain ⟨f, hf⟩ := Classical.axiomOfChoice each
    refine ⟨(List.range len).map f, by simp; omega, den1 (open_row (by simp [rlen]) hl (by show 0 < 1; omega) fun i hi => ⟨[.int .u8 (f i).toNat], rfl, ?_, ?_⟩) rfl⟩
    · intro j hj
      have : j = 0 := by simp [R.sz] at hj; exact hj
      subst this
      simp only [R.sz, Nat.mul_one, Nat.add_zero]
      rw [hf i hi]
      rfl
    · have : getB ((List.range len).map f) i = ((f i).toNat : Int) := by simp [getB, hi]
      simp only [R.elem, lock_eq, this]
      exact den1 (.v _) rfl
/-- Whole numbers that came in. -/
theorem open_intsD {t T : TypeId} {k : IntKind} (hu : P.underlying t = some (.slice T)) (he : P.underlying T = some (.int k)) (hc : P.cellsOf T = 1) {fuel : Nat} {cs : List Value} {x : DataW H × List MemPlace} (h : DataW.trod enc P w base spare held fuel t cs = some x) :
    ∃ l : List Int, l.length ≤ maxLen ∧ (∀ y ∈ l, (Lit.int k y).wf = true) ∧ Dens PN w AN [.rsl (.ints T k l)] cs := by
  rcases open_slice1 hu hc h with ⟨rfl, _⟩ | ⟨a, len, cap, m, n, V, D, Pl, rfl, hb, hl, hm, hmm, _, hi⟩
  · exact ⟨[], by simp, by simp, den1 (nil_den rfl .nsl) rfl⟩
  · have hle : len ≤ m := by rw [hmm]; split <;> omega
    have each : ∀ i, ∃ b : Int, i < len → w.cell? (a.add i) = some (.int k b) ∧ (Lit.int k b).wf = true := fun i => by
      by_cases h : i < len
      · obtain ⟨h1, h2⟩ := hi i (by omega)
        obtain ⟨y, e1, _, e2⟩ := DataW.trod_int he h2
        injection e1 with e1 _
        exact ⟨y, fun _ => ⟨by rw [h1, e1], e2⟩⟩
      · exact ⟨0, fun h' => absurd h' h⟩
    obtain ⟨f, hf⟩ := Classical.axiomOfChoice each
    refine ⟨(List.range len).map f, by simp; omega, ?_, den1 (open_row (by simp [rlen]) hl (by show 0 < 1; omega) fun i hi => ⟨[.int k (f i)], rfl, ?_, ?_⟩) rfl⟩
    · intro y hy
      obtain ⟨i, h1, rfl⟩ := List.mem_map.1 hy
      exact (hf i (List.mem_range.1 h1)).2
    · intro j hj
      have : j = 0 := by simp [R.sz] at hj; exact hj
      subst this
      simp only [R.sz, Nat.mul_one, Nat.add_zero]
      rw [(hf i hi).1]
      rfl
    · have : getI ((List.range len).map f) i = f i := by simp [getI, hi]
      simp only [R.elem, lock_eq, this]
      exact den1 (.v _) rfl
theorem dens_app {a b : List SV} {c d : List Value} (h : Dens PN w AN a c) (k : Dens PN w AN b d) : Dens PN w AN (a ++ b) (c ++ d) := by
  refine ⟨by simp [h.1, k.1], fun j h1 h2 => ?_⟩
  by_cases hj : j < a.length
  · have hc : j < c.length := by rw [h.1]; exact hj
    rw [List.getElem_append_left hj, List.getElem_append_left hc]
    exact h.2 j hj hc
  · have hc : ¬ j < c.length := by rw [h.1]; exact hj
    rw [List.getElem_append_right (by omega), List.getElem_append_right (by omega)]
    have e := h.1
    have := k.2 (j - a.length) (by simp at h1; omega) (by simp at h2; omega)
    simpa [e] using this
theorem D.fld_l (l : List D) (j : Nat) : (D.l l).fld j = l.getD j (.i 0) := rfl
theorem open_ty : ∀ (e : Ty) (t : TypeId) (fuel : Nat) (cs : List Value) (x : DataW H × List MemPlace), tyChk P e t = true → DataW.trod enc P w base spare held fuel t cs = some x → ∃ d : D, Dens PN w AN (e.leaves d) cs ∧ e.rng d := by
  intro e
  apply Ty.rec (motive_1 := fun e => ∀ (t : TypeId) (fuel : Nat) (cs : List Value) (x : DataW H × List MemPlace), tyChk P e t = true → DataW.trod enc P w base spare held fuel t cs = some x → ∃ d : D, Dens PN w AN (e.leaves d) cs ∧ e.rng d)
    (motive_2 := fun es => ∀ (fl : List Field) (o : Nat) (cs : List Value), tysChk P es fl o = true → (∀ f ∈ fl, ∃ fuel x, DataW.trod enc P w base spare held fuel f.type ((cs.drop f.offset).take (P.cellsOf f.type)) = some x) → cs.length = o + Ty.sizes es →
      ∃ ds : List D, ds.length = es.length ∧ ∀ d j, (∀ i, i < es.length → d.fld (j + i) = ds.getD i (.i 0)) → Dens PN w AN (Ty.leavesL es d j) (cs.drop o) ∧ Ty.rngL es d j)
  · intro k t fuel cs x hc h
    simp only [tyChk] at hc
    split at hc
    · rename_i j hu
      have := LawfulBEq.eq_of_beq hc
      subst this
      obtain ⟨y, rfl, _, e2⟩ := DataW.trod_int hu h
      refine ⟨.i y, ?_, e2⟩
      simp only [Ty.leaves, lock_eq]
      exact den1 (.v _) rfl
    · cases hc
  · intro t fuel cs x hc h
    simp only [tyChk] at hc
    split at hc
    · rename_i hu
      obtain ⟨b, rfl, _⟩ := DataW.trod_bool hu h
      refine ⟨.b b, ?_, trivial⟩
      simp only [Ty.leaves, lock_eq]
      exact den1 (.v _) rfl
    · cases hc
  · intro t fuel cs x hc h
    simp only [tyChk] at hc
    split at hc
    · rename_i hu
      obtain ⟨b, rfl, _, e2⟩ := DataW.trod_string hu h
      refine ⟨.s b.data.toList, ?_, by
        show b.data.toList.length ≤ maxLen
        have : b.data.toList.length = b.size := by rw [Array.length_toList]; rfl
        rw [this]; exact e2⟩
      simp only [Ty.leaves, lock_eq, D.toS]
      have := Den.str (PL := PN) (w := w) (Av := AN) b.data.toList
      simp at this
      exact den1 this rfl
    · cases hc
  · intro T t fuel cs x hc h
    simp only [tyChk] at hc
    split at hc
    · rename_i e0 hu he
      simp only [Bool.and_eq_true] at hc
      have e1 := (nbeq _ _).1 hc.1
      have e2 := (nbeq _ _).1 hc.2
      subst e1
      obtain ⟨l, h1, h2⟩ := open_bytes hu he e2 h
      exact ⟨.s l, by simp only [Ty.leaves, lock_eq]; exact h2, h1⟩
    · cases hc
  · intro T k t fuel cs x hc h
    simp only [tyChk] at hc
    split at hc
    · rename_i e0 j hu he
      simp only [Bool.and_eq_true] at hc
      have e1 := (nbeq _ _).1 hc.1.1
      have e2 := (nbeq _ _).1 hc.1.2
      have e3 := LawfulBEq.eq_of_beq hc.2
      subst e1; subst e3
      obtain ⟨l, h1, h2, h3⟩ := open_intsD hu he e2 h
      exact ⟨.is l, by simp only [Ty.leaves, lock_eq]; exact h3, h1, h2⟩
    · cases hc
  · intro T e ih t fuel cs x hc h
    simp only [tyChk] at hc
    split at hc
    · rename_i e0 hu
      simp only [Bool.and_eq_true] at hc
      obtain ⟨⟨⟨c1, c2⟩, c3⟩, c4⟩ := hc
      have e1 := (nbeq _ _).1 c1
      have e2 := (nbeq _ _).1 c2
      have e3 := Nat.le_of_ble_eq_true c3
      subst e1
      rcases open_slice hu h with ⟨rfl, _⟩ | ⟨a, len, cap, m, n, D0, Pl, rfl, hb, hl, hm, hmm, _, hi⟩
      · refine ⟨.l [], ?_, by simp [Ty.rng, D.toL]⟩
        simp only [Ty.leaves, lock_eq, D.toL]
        exact den1 (nil_den rfl .nsl) rfl
      · have hle : len ≤ m := by rw [hmm]; split <;> omega
        have each : ∀ i, ∃ q : D × List Value, i < len → q.2.length = e.size ∧ (∀ j, j < e.size → w.cell? (a.add (i * e.size + j)) = q.2[j]?) ∧ Dens PN w AN (e.leaves q.1) q.2 ∧ e.rng q.1 := fun i => by
          by_cases hil : i < len
          · obtain ⟨cs', g1, g2⟩ := hi i (by omega)
            obtain ⟨_, g3, g4⟩ := World.cells?_some g1
            obtain ⟨d, g5, g6⟩ := ih _ n cs' _ c4 g2
            refine ⟨(d, cs'), fun _ => ⟨by rw [g3, e2], fun j hj => ?_, g5, g6⟩⟩
            have := g4 j (by omega)
            rw [add_add, e2] at this
            exact this
          · exact ⟨(.i 0, []), fun h' => absurd h' hil⟩
        obtain ⟨f, hf⟩ := Classical.axiomOfChoice each
        refine ⟨.l ((List.range len).map fun i => (f i).1), ?_, ?_, ?_⟩
        · simp only [Ty.leaves, lock_eq, D.toL]
          refine den1 (open_row (by simp [rlen]) hl (by show 0 < e.size; omega) fun i hi => ⟨(f i).2, (hf i hi).1, (hf i hi).2.1, ?_⟩) rfl
          have : getD ((List.range len).map fun i => (f i).1) i = (f i).1 := by simp [getD, hi]
          simp only [R.elem, lock_eq, this]
          exact (hf i hi).2.2.1
        · simp [D.toL]; omega
        · intro y hy
          simp only [D.toL] at hy
          obtain ⟨i, h1, rfl⟩ := List.mem_map.1 hy
          exact (hf i (List.mem_range.1 h1)).2.2.2
    · cases hc
  · intro es ih t fuel cs x hc h
    simp only [tyChk] at hc
    split at hc
    · rename_i fl hu
      simp only [Bool.and_eq_true] at hc
      have e1 := (nbeq _ _).1 hc.1
      obtain ⟨xs, n, _, _, hlen, hxl, hx⟩ := DataW.trod_struct hu h
      obtain ⟨ds, h1, h2⟩ := ih fl.toList 0 cs hc.2 (fun f hf => by
        obtain ⟨i, hi, he⟩ := List.getElem_of_mem hf
        have hi' : i < fl.size := by simpa using hi
        have := hx i f (by rw [Array.getElem?_eq_getElem hi']; simpa using he)
        exact ⟨n, xs[i]'(by omega), by rw [this, List.getElem?_eq_getElem (by omega)]⟩) (by rw [hlen, e1]; omega)
      obtain ⟨g1, g2⟩ := h2 (.l ds) 0 (fun i hi => by rw [D.fld_l, Nat.zero_add])
      exact ⟨.l ds, by simp only [Ty.leaves]; simpa using g1, g2⟩
    · cases hc
  · intro fl o cs hc hf hl
    cases fl with
    | nil => exact ⟨[], rfl, fun d j _ => ⟨by simp only [Ty.leavesL]; rw [List.drop_of_length_le (by simp [Ty.sizes] at hl; omega)]; exact Dens.nil, trivial⟩⟩
    | cons f fl => simp [tysChk] at hc
  · intro e es ih1 ih2 fl o cs hc hf hl
    cases fl with
    | nil => simp [tysChk] at hc
    | cons f fl =>
      simp only [tysChk, Bool.and_eq_true] at hc
      obtain ⟨⟨⟨c1, c2⟩, c3⟩, c4⟩ := hc
      have e1 := (nbeq _ _).1 c1
      have e2 := (nbeq _ _).1 c2
      obtain ⟨fuel, x, hx⟩ := hf f (List.mem_cons_self ..)
      obtain ⟨d1, g1, g2⟩ := ih1 _ _ _ _ c3 hx
      simp only [Ty.sizes] at hl
      obtain ⟨ds, g3, g4⟩ := ih2 fl (o + e.size) cs c4 (fun f hf' => hf f (List.mem_cons_of_mem _ hf')) (by omega)
      refine ⟨d1 :: ds, by simp [g3], fun d j hd => ?_⟩
      have hd0 : d.fld j = d1 := by simpa using hd 0 (by simp)
      obtain ⟨k1, k2⟩ := g4 d (j + 1) (fun i hi => by
        have := hd (i + 1) (by simpa using hi)
        rw [Nat.add_assoc, Nat.add_comm 1 i, this, List.getD_cons_succ])
      rw [e1, e2] at g1
      refine ⟨?_, ?_, k2⟩
      · simp only [Ty.leavesL, lock_eq, hd0]
        have : cs.drop o = (cs.drop o).take e.size ++ cs.drop (o + e.size) := by
          rw [← List.drop_drop, List.take_append_drop]
        rw [this]
        exact dens_app g1 k1
      · rw [hd0]; exact g2
end
end Go.Proofs.YtnkfginlmdenjaaDoor
end
section
/-
  Words, as plain Lean reads them.
-/
set_option linter.unusedVariables false
set_option linter.unusedSimpArgs false
namespace Go.Proofs.YtnkfginlmdenjaaDoor

theorem pieq {a b : Int} : (ieq a b = true) = (a = b) := by simp [ieq]
theorem pilt {a b : Int} : (ilt a b = true) = (a < b) := by simp [ilt]
theorem pile {a b : Int} : (ile a b = true) = (a ≤ b) := by simp [ile]
theorem pseq {a b : List UInt8} : (seq a b = true) = (a = b) := by simp [seq]
theorem pbeq2 {a b : Bool} : (beq2 a b = true) = (a = b) := by simp [beq2]
theorem pband {a b : Bool} : (band a b = true) = (a = true ∧ b = true) := by simp [band]

/-- A number of 64 bits. -/
def U (x : Int) : Prop := 0 ≤ x ∧ x < 18446744073709551616
theorem U.lo {x : Int} (h : U x) : 0 ≤ x := h.1
theorem U.hi {x : Int} (h : U x) : x < 18446744073709551616 := h.2
theorem pwu64 (x : Int) : IntKind.u64.wrap x = x % 18446744073709551616 := by simp [IntKind.wrap, IntKind.signed, IntKind.bits]
theorem pwu32 (x : Int) : IntKind.u32.wrap x = x % 4294967296 := by simp [IntKind.wrap, IntKind.signed, IntKind.bits]
theorem pwu16 (x : Int) : IntKind.u16.wrap x = x % 65536 := by simp [IntKind.wrap, IntKind.signed, IntKind.bits]
theorem pwu8 (x : Int) : IntKind.u8.wrap x = x % 256 := by simp [IntKind.wrap, IntKind.signed, IntKind.bits]
theorem pwi64 {x : Int} (h1 : -9223372036854775808 ≤ x) (h2 : x ≤ 9223372036854775807) : IntKind.i64.wrap x = x := by
  simp only [IntKind.wrap, IntKind.signed, IntKind.bits]
  simp
  omega
theorem pu64 {x : Int} (h1 : 0 ≤ x) (h2 : x < 18446744073709551616) : IntKind.u64.wrap x = x := by rw [pwu64]; omega
theorem pu32 {x : Int} (h1 : 0 ≤ x) (h2 : x < 4294967296) : IntKind.u32.wrap x = x := by rw [pwu32]; omega
theorem pu16 {x : Int} (h1 : 0 ≤ x) (h2 : x < 65536) : IntKind.u16.wrap x = x := by rw [pwu16]; omega
theorem pu8 {x : Int} (h1 : 0 ≤ x) (h2 : x < 256) : IntKind.u8.wrap x = x := by rw [pwu8]; omega
theorem pofN (n : Nat) : ofN n = (n : Int) := rfl
theorem ptoN (n : Nat) : toN (n : Int) = n := rfl
theorem ptoN' (x : Int) : toN x = x.toNat := rfl
theorem pxlen {α : Type} (l : List α) : xlen l = l.length := rfl
/-- The next place. -/
theorem pnext {n : Nat} (h : n < 9223372036854775807) : iadd .i64 (n : Int) 1 = ((n + 1 : Nat) : Int) := by
  simp only [iadd]
  rw [pwi64] <;> omega
theorem pgetI {l : List Int} {n : Nat} (h : n < l.length) : getI l n = l[n] := by simp [getI, h]
theorem pgetD {l : List D} {n : Nat} (h : n < l.length) : getD l n = l[n] := by simp [getD, h]
theorem pgetB {l : List UInt8} {n : Nat} (h : n < l.length) : getB l n = ((l[n].toNat : Nat) : Int) := by simp [getB, h]
theorem pcopy {α : Type} (l : List α) (x : α) : lspl (lrep l.length x) 0 (lsub l 0 (nmin (xlen (lrep l.length x)) (xlen l))) = l := by
  simp [lspl, lrep, lsub, nmin, xlen]
theorem pimax (a b : Int) : imax a b = max a b := by
  unfold imax
  by_cases h : b > a
  · rw [if_pos h]; omega
  · rw [if_neg h]; omega
theorem pimin (a b : Int) : imin a b = min a b := by
  unfold imin
  by_cases h : b < a
  · rw [if_pos h]; omega
  · rw [if_neg h]; omega
end Go.Proofs.YtnkfginlmdenjaaDoor
end
section
/-
  A shift.
-/
set_option linter.unusedVariables false
set_option linter.unusedSimpArgs false
namespace Go.Proofs.YtnkfginlmdenjaaDoor

theorem pshr {x : Int} {n : Nat} (h : n < 64) : ishr .u64 x (n : Int) = x / 2 ^ n := by
  simp only [ishr, IntKind.bits]
  have : min (n : Int).toNat 64 = n := by simp; omega
  rw [this, Int.fdiv_eq_ediv_of_nonneg _ (Int.le_of_lt (Int.pow_pos (by omega)))]
end Go.Proofs.YtnkfginlmdenjaaDoor
end
section
/-
  Package varint in plain words: a number's bytes, and the number that bytes begin with.
-/
set_option linter.unusedVariables false
set_option linter.unusedSimpArgs false
namespace Go.Proofs.YtnkfginlmdenjaaDoor

/-- How many of the first bytes say that more come. -/
def ld : List UInt8 → Nat
  | [] => 0
  | c :: t => if 128 ≤ c.toNat then ld t + 1 else 0
/-- The number of groups, the least first. -/
def gv : List UInt8 → Nat
  | [] => 0
  | c :: t => c.toNat % 128 + 128 * gv t
theorem ld_cons (c : UInt8) (t : List UInt8) : ld (c :: t) = if 128 ≤ c.toNat then ld t + 1 else 0 := rfl
theorem gv_cons (c : UInt8) (t : List UInt8) : gv (c :: t) = c.toNat % 128 + 128 * gv t := rfl
def getV (s : List UInt8) : Int × Int × Int :=
  if 10 ≤ ld s then (0, 0, 14) else if ld s = s.length then (0, 0, 10)
  else if 18446744073709551616 ≤ gv (s.take (ld s + 1)) then (0, 0, 14)
  else if 0 < ld s ∧ (s.getD (ld s) 0).toNat = 0 then (0, 0, 11) else (((gv (s.take (ld s + 1)) : Nat) : Int), ((ld s + 1 : Nat) : Int), 0)
theorem getV_big {s : List UInt8} (h : 10 ≤ ld s) : getV s = (0, 0, 14) := by unfold getV; rw [if_pos h]
theorem getV_short {s : List UInt8} (h : ld s < 10) (h2 : ld s = s.length) : getV s = (0, 0, 10) := by unfold getV; rw [if_neg (by omega), if_pos h2]
theorem getV_over {s : List UInt8} (h : ld s < 10) (h2 : ld s < s.length) (h3 : 18446744073709551616 ≤ gv (s.take (ld s + 1))) : getV s = (0, 0, 14) := by
  unfold getV; rw [if_neg (by omega), if_neg (by omega), if_pos h3]
theorem getV_form {s : List UInt8} (h : ld s < 10) (h2 : ld s < s.length) (h3 : gv (s.take (ld s + 1)) < 18446744073709551616) (h4 : 0 < ld s) (h5 : (s.getD (ld s) 0).toNat = 0) : getV s = (0, 0, 11) := by
  unfold getV; rw [if_neg (by omega), if_neg (by omega), if_neg (by omega), if_pos ⟨h4, h5⟩]
theorem getV_ok {s : List UInt8} (h : ld s < 10) (h2 : ld s < s.length) (h3 : gv (s.take (ld s + 1)) < 18446744073709551616) (h4 : ¬ (0 < ld s ∧ (s.getD (ld s) 0).toNat = 0)) : getV s = (((gv (s.take (ld s + 1)) : Nat) : Int), ((ld s + 1 : Nat) : Int), 0) := by
  unfold getV; rw [if_neg (by omega), if_neg (by omega), if_neg (by omega), if_neg h4]

theorem ld_le : ∀ s : List UInt8, ld s ≤ s.length
  | [] => Nat.le_refl _
  | c :: t => by
    have := ld_le t
    unfold ld
    split <;> simp only [List.length_cons] <;> omega
theorem ld_in : ∀ (s : List UInt8) (i : Nat) (h : i < s.length), i < ld s → 128 ≤ s[i].toNat
  | c :: t, 0, h, hi => by
    unfold ld at hi
    split at hi
    · assumption
    · omega
  | c :: t, i + 1, h, hi => by
    unfold ld at hi
    split at hi
    · exact ld_in t i (by simpa using h) (by omega)
    · omega
theorem ld_at : ∀ (s : List UInt8) (h : ld s < s.length), s[ld s].toNat < 128
  | c :: t, h => by
    by_cases hc : 128 ≤ c.toNat
    · have e : ld (c :: t) = ld t + 1 := by rw [ld_cons, if_pos hc]
      have := ld_at t (by rw [e] at h; simpa using h)
      simpa only [e, List.getElem_cons_succ] using this
    · have e : ld (c :: t) = 0 := by rw [ld_cons, if_neg hc]
      simp only [e, List.getElem_cons_zero]
      omega
theorem ld_is {s : List UInt8} {i : Nat} (h : i ≤ ld s) (hl : i < s.length) (hc : ¬ 128 ≤ s[i].toNat) : ld s = i := by
  by_cases hi : i < ld s
  · exact absurd (ld_in s i hl hi) hc
  · omega
theorem ld_next {s : List UInt8} {i : Nat} (h : i ≤ ld s) (hl : i < s.length) (hc : 128 ≤ s[i].toNat) : i + 1 ≤ ld s := by
  by_cases hi : ld s = i
  · subst hi
    have := ld_at s hl
    omega
  · omega
theorem gv_app : ∀ (a b : List UInt8), gv (a ++ b) = gv a + 128 ^ a.length * gv b
  | [], b => by simp [gv]
  | c :: a, b => by
    rw [List.cons_append, gv_cons, gv_cons, gv_app a b, List.length_cons, Nat.pow_succ, Nat.mul_add, ← Nat.mul_assoc, Nat.mul_comm 128 (128 ^ a.length)]
    omega
theorem gv_lt : ∀ s : List UInt8, gv s < 128 ^ s.length
  | [] => by simp [gv]
  | c :: t => by
    have := gv_lt t
    have h : c.toNat % 128 < 128 := Nat.mod_lt _ (by omega)
    unfold gv
    rw [List.length_cons, Nat.pow_succ]
    omega
theorem gv_take {s : List UInt8} {i : Nat} (h : i < s.length) : gv (s.take (i + 1)) = gv (s.take i) + s[i].toNat % 128 * 128 ^ i := by
  rw [List.take_succ_eq_append_getElem h, gv_app, List.length_take, Nat.min_eq_left (by omega), Nat.mul_comm (128 ^ i)]
  simp [gv]
theorem gv_drop {s : List UInt8} {i : Nat} (h : i < s.length) : gv (s.drop i) = s[i].toNat % 128 + 128 * gv (s.drop (i + 1)) := by
  rw [List.drop_eq_getElem_cons h]
  rfl
theorem gv_drop_le (s : List UInt8) (i : Nat) : gv (s.drop i) ≤ gv s := by
  have h := gv_app (s.take i) (s.drop i)
  rw [List.take_append_drop] at h
  have : 1 * gv (s.drop i) ≤ 128 ^ (s.take i).length * gv (s.drop i) := Nat.mul_le_mul_right _ (Nat.pow_pos (by omega))
  omega

theorem p2_7 (i : Nat) : 2 ^ (7 * i) = 128 ^ i := by rw [Nat.pow_mul]
theorem pshrS {x n : Nat} (h : n < 64) : ishr .u64 (x : Int) (n : Int) = ((x / 2 ^ n : Nat) : Int) := by
  rw [pshr h]
  push_cast
  rfl
theorem pshlS {g j : Nat} (hj : j ≤ 64) : ishl .u64 (g : Int) (j : Int) = ((g * 2 ^ j % 18446744073709551616 : Nat) : Int) := by
  simp only [ishl, IntKind.bits]
  have : min (j : Int).toNat 64 = j := by simp; omega
  have h : (g : Int) * 2 ^ j = ((g * 2 ^ j : Nat) : Int) := by push_cast; rfl
  rw [this, pwu64, h]
  generalize g * 2 ^ j = y
  omega
theorem porS {x g j : Nat} (hj : j ≤ 64) (hx : x < 2 ^ j) (h : g * 2 ^ j < 18446744073709551616) : ior .u64 (x : Int) ((g * 2 ^ j : Nat) : Int) = ((x + g * 2 ^ j : Nat) : Int) ∧ x + g * 2 ^ j < 18446744073709551616 := by
  have h64 : 2 ^ j ≤ 2 ^ 64 := Nat.pow_le_pow_right (by omega) hj
  have p64 : (2 : Nat) ^ 64 = 18446744073709551616 := by decide
  have e3 : x ||| g * 2 ^ j = x + g * 2 ^ j := by
    have := Nat.shiftLeft_add_eq_or_of_lt (i := j) (b := x) hx g
    rw [Nat.shiftLeft_eq] at this
    rw [Nat.or_comm, ← this, Nat.add_comm]
  generalize g * 2 ^ j = y at *
  have e : (BitVec.ofInt 64 (x : Int) ||| BitVec.ofInt 64 (y : Int)).toNat = x + y := by
    have e1 : BitVec.ofInt 64 (x : Int) = BitVec.ofNat 64 x := BitVec.ofInt_natCast 64 _
    have e2 : BitVec.ofInt 64 (y : Int) = BitVec.ofNat 64 y := BitVec.ofInt_natCast 64 _
    rw [e1, e2, BitVec.toNat_or, BitVec.toNat_ofNat, BitVec.toNat_ofNat, Nat.mod_eq_of_lt (by omega), Nat.mod_eq_of_lt (by omega), e3]
  have hlt := (BitVec.ofInt 64 (x : Int) ||| BitVec.ofInt 64 (y : Int)).isLt
  rw [e] at hlt
  refine ⟨?_, by omega⟩
  show IntKind.u64.wrap (((BitVec.ofInt 64 (x : Int) ||| BitVec.ofInt 64 (y : Int)).toNat : Nat) : Int) = _
  rw [e, pu64 (by omega) (by omega)]
theorem chk {g j : Nat} : g * 2 ^ j % 18446744073709551616 / 2 ^ j = g ↔ g * 2 ^ j < 18446744073709551616 := by
  constructor
  · intro h
    have h1 : g * 2 ^ j % 18446744073709551616 < 18446744073709551616 := Nat.mod_lt _ (by omega)
    have h2 := Nat.div_mul_le_self (g * 2 ^ j % 18446744073709551616) (2 ^ j)
    rw [h] at h2
    omega
  · intro h
    rw [Nat.mod_eq_of_lt h, Nat.mul_div_cancel _ (Nat.pow_pos (by omega))]

theorem p_get {s : List UInt8} (hs : s.length ≤ 1000000) : F_varint_Get s = some (getV s) := by
  have em : imin (ofN (xlen s)) 10 = ((min s.length 10 : Nat) : Int) := by rw [pimin]; simp only [ofN, xlen]; omega
  have eL : lsub s 0 (toN (imin (ofN (xlen s)) 10)) = s.take 10 := by
    rw [em]
    show (List.drop 0 s).take (min s.length 10) = _
    rw [List.drop_zero]
    by_cases h : s.length ≤ 10
    · rw [Nat.min_eq_left h, List.take_length, List.take_of_length_le h]
    · rw [Nat.min_eq_right (by omega)]
  have ex : ofN (xlen (s.take 10)) = ((min s.length 10 : Nat) : Int) := by
    simp only [ofN, xlen, List.length_take]
    omega
  have hld := ld_le s
  have key : ∀ m i : Nat, i + m = min s.length 10 → i ≤ ld s → iter (F_varint_Get_L1 s) (((gv (s.take i) : Nat) : Int), (i : Int)) = some (getV s) := by
    intro m
    induction m with
    | zero =>
      intro i hi hk
      apply iter_inr
      unfold F_varint_Get_L1
      dsimp only
      rw [eL, ex, if_neg (by rw [pilt]; omega)]
      by_cases h10 : 10 ≤ s.length
      · rw [if_pos (by rw [pile]; simp only [ofN, xlen]; omega), getV_big (by omega)]
      · rw [if_neg (by rw [pile]; simp only [ofN, xlen]; omega), getV_short (by omega) (by omega)]
    | succ m ih =>
      intro i hi hk
      have hlt : i < s.length := by omega
      have h10 : i < 10 := by omega
      have eg : getB (s.take 10) (toN (i : Int)) = ((s[i].toNat : Nat) : Int) := by
        rw [ptoN, pgetB (by simp only [List.length_take]; omega), List.getElem_take]
      have hc : s[i].toNat < 256 := s[i].toNat_lt
      have hn := ld_next hk hlt
      have hi2 := ld_is hk hlt
      have ht := gv_take hlt
      have hgl := gv_lt (s.take i)
      rw [List.length_take, Nat.min_eq_left (by omega)] at hgl
      have hD : (s.getD i 0).toNat = s[i].toNat := by simp [hlt]
      generalize s[i].toNat = c at *
      have e7 : imul .i64 7 (i : Int) = ((7 * i : Nat) : Int) := by simp only [imul]; rw [pwi64 (by omega) (by omega)]; omega
      have er : iconv .u64 (irem ((c : Nat) : Int) 128) = ((c % 128 : Nat) : Int) := by
        simp only [iconv, irem]
        rw [Int.tmod_eq_emod_of_nonneg (by omega), pu64 (by omega) (by omega)]
        omega
      have es : ishl .u64 ((c % 128 : Nat) : Int) ((7 * i : Nat) : Int) = ((c % 128 * 2 ^ (7 * i) % 18446744073709551616 : Nat) : Int) := pshlS (by omega)
      have et : ishr .u64 ((c % 128 * 2 ^ (7 * i) % 18446744073709551616 : Nat) : Int) ((7 * i : Nat) : Int) = ((c % 128 * 2 ^ (7 * i) % 18446744073709551616 / 2 ^ (7 * i) : Nat) : Int) := pshrS (by omega)
      by_cases hb : c % 128 * 2 ^ (7 * i) < 18446744073709551616
      · obtain ⟨eo, hlt64⟩ := porS (x := gv (s.take i)) (by omega) (by rw [p2_7]; exact hgl) hb
        have e1 : c % 128 * 2 ^ (7 * i) % 18446744073709551616 / 2 ^ (7 * i) = c % 128 := chk.2 hb
        have e2 : c % 128 * 2 ^ (7 * i) % 18446744073709551616 = c % 128 * 2 ^ (7 * i) := Nat.mod_eq_of_lt hb
        rw [e1, e2] at et
        rw [e2] at es
        have e3 : gv (s.take i) + c % 128 * 2 ^ (7 * i) = gv (s.take (i + 1)) := by rw [p2_7, ht]
        rw [e3] at eo hlt64
        by_cases hm : 128 ≤ c
        · rw [iter_inl (y := (((gv (s.take (i + 1)) : Nat) : Int), ((i + 1 : Nat) : Int)))]
          · exact ih (i + 1) (by omega) (hn hm)
          · unfold F_varint_Get_L1
            dsimp only
            rw [eL, ex, e7, eg, er, es, et, eo, pnext (by omega), if_pos (by rw [pilt]; omega), if_pos (by omega), if_pos (by omega), if_pos (by omega), if_pos (by rw [pieq]), if_pos (by omega), if_pos (by rw [pile]; omega)]
        · have hk2 := hi2 hm
          apply iter_inr
          unfold F_varint_Get_L1
          dsimp only
          rw [eL, ex, e7, eg, er, es, et, eo, pnext (by omega), if_pos (by rw [pilt]; omega), if_pos (by omega), if_pos (by omega), if_pos (by omega), if_pos (by rw [pieq]), if_pos (by omega), if_neg (by rw [pile]; omega)]
          by_cases hz : c = 0
          · rw [if_pos (by rw [pieq]; omega)]
            by_cases h0 : 0 < i
            · rw [if_pos (by rw [pilt]; omega), getV_form (by omega) (by omega) (by rw [hk2]; exact hlt64) (by omega) (by rw [hk2]; omega)]
            · rw [if_neg (by rw [pilt]; omega), getV_ok (by omega) (by omega) (by rw [hk2]; exact hlt64) (by omega), hk2]
          · rw [if_neg (by rw [pieq]; omega), getV_ok (by omega) (by omega) (by rw [hk2]; exact hlt64) (by rw [hk2, hD]; omega), hk2]
      · have e1 : ¬ c % 128 * 2 ^ (7 * i) % 18446744073709551616 / 2 ^ (7 * i) = c % 128 := fun h => hb (chk.1 h)
        have h9 : i = 9 := by
          by_cases h8 : i ≤ 8
          · have : 2 ^ (7 * i) ≤ 2 ^ 56 := Nat.pow_le_pow_right (by omega) (by omega)
            have h2 : c % 128 * 2 ^ (7 * i) ≤ 127 * 2 ^ 56 := Nat.mul_le_mul (by omega) this
            have h3 : 127 * (2 : Nat) ^ 56 < 18446744073709551616 := by decide
            omega
          · omega
        apply iter_inr
        unfold F_varint_Get_L1
        dsimp only
        rw [eL, ex, e7, eg, er, es, et, if_pos (by rw [pilt]; omega), if_pos (by omega), if_pos (by omega), if_pos (by omega), if_neg (by rw [pieq]; exact fun h => e1 (Int.ofNat_inj.1 h))]
        by_cases hk10 : 10 ≤ ld s
        · rw [getV_big hk10]
        · have hk9 : ld s = i := by omega
          rw [getV_over (by omega) (by omega) (by rw [hk9, ht, ← p2_7]; omega)]
  unfold F_varint_Get
  rw [em, if_pos (by simp only [ofN, xlen]; omega)]
  exact key (min s.length 10) 0 (by omega) (by omega)
end Go.Proofs.YtnkfginlmdenjaaDoor
end
section
/-
  Package varint in plain words: the document's Get, and putting.
-/
set_option linter.unusedVariables false
set_option linter.unusedSimpArgs false
namespace Go.Proofs.YtnkfginlmdenjaaDoor

theorem ld_take : ∀ (s : List UInt8) (n : Nat), ld (s.take n) = min (ld s) n
  | [], n => by simp [ld]
  | c :: t, 0 => by simp [ld]
  | c :: t, n + 1 => by
    rw [List.take_succ_cons, ld_cons, ld_cons, ld_take t n]
    split <;> omega
theorem getV_cut (w : List UInt8) : getV (w.take 10) = getV w := by
  have h1 := ld_take w 10
  have h2 := ld_le w
  by_cases h : 10 ≤ ld w
  · rw [getV_big h, getV_big (by omega)]
  · have e : ld (w.take 10) = ld w := by omega
    by_cases hl : ld w = w.length
    · rw [getV_short (by omega) hl, getV_short (by omega) (by simp only [List.length_take]; omega)]
    · have e1 : (w.take 10).take (ld w + 1) = w.take (ld w + 1) := by rw [List.take_take, Nat.min_eq_left (by omega)]
      have e2 : (w.take 10).getD (ld w) 0 = w.getD (ld w) 0 := by
        simp only [List.getD_eq_getElem?_getD, List.getElem?_take]
        rw [if_pos (by omega)]
      unfold getV
      rw [e, e1, e2, if_neg h, if_neg h, if_neg hl, if_neg (by simp only [List.length_take]; omega)]
theorem getV_n (s : List UInt8) : ∃ n : Nat, (getV s).2.1 = (n : Int) ∧ n ≤ s.length := by
  have := ld_le s
  unfold getV
  split
  · exact ⟨0, rfl, by omega⟩
  · split
    · exact ⟨0, rfl, by omega⟩
    · split
      · exact ⟨0, rfl, by omega⟩
      · split
        · exact ⟨0, rfl, by omega⟩
        · exact ⟨ld s + 1, rfl, by omega⟩

theorem p_rget2 {s : List UInt8} (hs : s.length ≤ 1000000) (h10 : ld s < 10) (hl : ld s < s.length) : ∀ n : Nat, n ≤ ld s + 1 → gv ((s.take (ld s + 1)).drop n) < 18446744073709551616 →
    iter (F_tollbarref02_Get_L2 s ((ld s : Nat) : Int)) (((gv ((s.take (ld s + 1)).drop n) : Nat) : Int), (n : Int) - 1) = some (getV s)
  | 0, _, hv => by
    rw [List.drop_zero] at hv ⊢
    have hD : getB s (toN ((ld s : Nat) : Int)) = (((s.getD (ld s) 0).toNat : Nat) : Int) := rfl
    apply iter_inr
    unfold F_tollbarref02_Get_L2
    dsimp only
    rw [if_neg (by rw [pile]; omega), hD, pnext (by omega)]
    by_cases h0 : 0 < ld s
    · rw [if_pos (by rw [pilt]; omega), if_pos (by simp only [ofN, xlen]; omega)]
      by_cases hz : (s.getD (ld s) 0).toNat = 0
      · rw [if_pos (by rw [pieq]; omega), getV_form h10 hl hv h0 hz]
      · rw [if_neg (by rw [pieq]; omega), getV_ok h10 hl hv (by omega)]
    · rw [if_neg (by rw [pilt]; omega), getV_ok h10 hl hv (by omega)]
  | n + 1, hn, hv => by
    have hnl : n < s.length := by omega
    have hlen : (s.take (ld s + 1)).length = ld s + 1 := by rw [List.length_take]; omega
    have e := gv_drop (s := s.take (ld s + 1)) (i := n) (by omega)
    rw [List.getElem_take] at e
    have hle := gv_drop_le (s.take (ld s + 1)) n
    have ei : ((n + 1 : Nat) : Int) - 1 = (n : Int) := by omega
    have eg : getB s (toN (n : Int)) = ((s[n].toNat : Nat) : Int) := by rw [ptoN, pgetB hnl]
    have hc : s[n].toNat < 256 := s[n].toNat_lt
    have ih := p_rget2 hs h10 hl n (by omega)
    generalize s[n].toNat = c at *
    generalize hx : gv ((s.take (ld s + 1)).drop (n + 1)) = x at *
    rw [ei]
    have er : iconv .u64 (irem ((c : Nat) : Int) 128) = ((c % 128 : Nat) : Int) := by
      simp only [iconv, irem]
      rw [Int.tmod_eq_emod_of_nonneg (by omega), pu64 (by omega) (by omega)]
      omega
    by_cases hb : 144115188075855871 < x
    · apply iter_inr
      unfold F_tollbarref02_Get_L2
      dsimp only
      rw [if_pos (by rw [pile]; omega), if_pos (by simp only [ofN, xlen]; omega), if_pos (by rw [pilt]; omega), getV_over h10 hl (by omega)]
    · have ea : iadd .u64 (imul .u64 128 (x : Int)) ((c % 128 : Nat) : Int) = ((gv ((s.take (ld s + 1)).drop n) : Nat) : Int) := by
        simp only [iadd, imul]
        rw [pu64 (x := 128 * (x : Int)) (by omega) (by omega), pu64 (by omega) (by omega), e]
        omega
      have ed : isub .i64 (n : Int) 1 = (n : Int) - 1 := by simp only [isub]; rw [pwi64 (by omega) (by omega)]
      rw [iter_inl (y := (((gv ((s.take (ld s + 1)).drop n) : Nat) : Int), (n : Int) - 1))]
      · exact ih (by omega)
      · unfold F_tollbarref02_Get_L2
        dsimp only
        rw [if_pos (by rw [pile]; omega), if_pos (by simp only [ofN, xlen]; omega), if_neg (by rw [pilt]; omega), eg, er, ea, ed]
theorem p_rget1 {s : List UInt8} (hs : s.length ≤ 1000000) : ∀ m i : Nat, i + m = 10 → i ≤ ld s → iter (F_tollbarref02_Get_L1 s) (i : Int) = some (getV s) := by
  intro m
  have hld := ld_le s
  have exl : ofN (xlen s) = (s.length : Int) := rfl
  induction m with
  | zero =>
    intro i hi hk
    apply iter_inr
    unfold F_tollbarref02_Get_L1
    dsimp only
    rw [exl]
    by_cases hl : i < s.length
    · rw [if_pos (by rw [pilt]; omega), if_neg (by rw [pilt]; omega), if_pos (by rw [pieq]; omega), getV_big (by omega)]
    · rw [if_neg (by rw [pilt]; omega), if_pos (by rw [pieq]; omega), getV_big (by omega)]
  | succ m ih =>
    intro i hi hk
    by_cases hl : i < s.length
    · have eg : getB s (toN (i : Int)) = ((s[i].toNat : Nat) : Int) := by rw [ptoN, pgetB hl]
      by_cases hc : 128 ≤ s[i].toNat
      · rw [iter_inl (y := ((i + 1 : Nat) : Int))]
        · exact ih (i + 1) (by omega) (ld_next hk hl hc)
        · unfold F_tollbarref02_Get_L1
          dsimp only
          rw [exl, eg, if_pos (by rw [pilt]; omega), if_pos (by rw [pilt]; omega), if_pos (by omega), if_pos (by rw [pilt]; omega), pnext (by omega)]
      · have hk2 := ld_is hk hl hc
        apply iter_inr
        unfold F_tollbarref02_Get_L1
        dsimp only
        rw [exl, eg, if_pos (by rw [pilt]; omega), if_pos (by rw [pilt]; omega), if_pos (by omega), if_neg (by rw [pilt]; omega), if_neg (by rw [pieq]; omega), if_neg (by rw [pieq]; omega)]
        have h := p_rget2 hs (by omega) (by omega) (ld s + 1) (Nat.le_refl _)
        have e0 : (s.take (ld s + 1)).drop (ld s + 1) = [] := by rw [List.drop_eq_nil_iff, List.length_take]; omega
        have ei : ((ld s + 1 : Nat) : Int) - 1 = ((ld s : Nat) : Int) := by omega
        rw [e0, ei, hk2] at h
        have h' : iter (F_tollbarref02_Get_L2 s (i : Int)) (0, (i : Int)) = some (getV s) := h (by decide)
        rw [h']
        rfl
    · apply iter_inr
      unfold F_tollbarref02_Get_L1
      dsimp only
      rw [exl, if_neg (by rw [pilt]; omega), if_neg (by rw [pieq]; omega), if_pos (by rw [pieq]; omega), getV_short (by omega) (by omega)]
theorem p_rget {s : List UInt8} (hs : s.length ≤ 1000000) : F_tollbarref02_Get s = some (getV s) := p_rget1 hs 10 0 (by omega) (by omega)

/-- A number's bytes. -/
def putV (n : Nat) : List UInt8 := if n < 128 then [UInt8.ofNat n] else UInt8.ofNat (n % 128 + 128) :: putV (n / 128)
termination_by n
decreasing_by exact Nat.div_lt_self (by omega) (by omega)
theorem putV_lo {n : Nat} (h : n < 128) : putV n = [UInt8.ofNat n] := by rw [putV, if_pos h]
theorem putV_hi {n : Nat} (h : ¬ n < 128) : putV n = UInt8.ofNat (n % 128 + 128) :: putV (n / 128) := by rw [putV, if_neg h]
theorem uN {n : Nat} (h : n < 256) : (UInt8.ofNat n).toNat = n := by
  rw [UInt8.toNat_ofNat']
  exact Nat.mod_eq_of_lt h
theorem putV_len : ∀ (n x : Nat), x < 128 ^ (n + 1) → 1 ≤ (putV x).length ∧ (putV x).length ≤ n + 1
  | 0, x, h => by rw [putV_lo (by simpa using h)]; simp
  | n + 1, x, h => by
    by_cases hx : x < 128
    · rw [putV_lo hx]; simp
    · have := putV_len n (x / 128) (by rw [Nat.div_lt_iff_lt_mul (by omega)]; rw [Nat.pow_succ] at h; exact h)
      rw [putV_hi hx, List.length_cons]
      omega
theorem p128 : (18446744073709551616 : Nat) ≤ 128 ^ 10 := by decide
theorem putV_10 {x : Nat} (h : x < 18446744073709551616) : 1 ≤ (putV x).length ∧ (putV x).length ≤ 10 := putV_len 9 x (by have := p128; omega)

theorem por128 {g : Nat} (h : g < 128) : ior .u8 (g : Int) 128 = ((g + 128 : Nat) : Int) := by
  have key : ∀ g : Fin 128, ior .u8 ((g.val : Nat) : Int) 128 = ((g.val + 128 : Nat) : Int) := by decide +kernel
  exact key ⟨g, h⟩
theorem pc8 {x : Nat} : iconv .u8 (irem (x : Int) 128) = ((x % 128 : Nat) : Int) := by
  simp only [iconv, irem]
  rw [Int.tmod_eq_emod_of_nonneg (by omega), pu8 (by omega) (by omega)]
  omega
theorem ps7 {x : Nat} : ishr .u64 (x : Int) 7 = ((x / 128 : Nat) : Int) := pshrS (x := x) (n := 7) (by omega)
theorem p_put_loop : ∀ (m x : Nat) (s : List UInt8), x ≤ m → s.length + (putV x).length ≤ 1000 → iter F_varint_Put_L1 ((x : Int), s) = some (s ++ putV x) := by
  intro m
  induction m with
  | zero =>
    intro x s hm hl
    obtain rfl : x = 0 := by omega
    have e : putV 0 = [0] := putV_lo (by omega)
    rw [e] at hl ⊢
    simp only [List.length_cons, List.length_nil] at hl
    apply iter_inr
    unfold F_varint_Put_L1
    dsimp only
    rw [ps7, pc8, if_pos (by omega), if_neg (by rw [pilt]; omega), if_pos (by omega), if_pos (by simp [xlen]; omega), if_pos (by omega), if_neg (by rw [pilt]; omega)]
    rfl
  | succ m ih =>
    intro x s hm hl
    by_cases hx : x < 128
    · rw [putV_lo hx] at hl ⊢
      simp only [List.length_cons, List.length_nil] at hl
      apply iter_inr
      unfold F_varint_Put_L1
      dsimp only
      rw [ps7, pc8, if_pos (by omega), if_neg (by rw [pilt]; omega), if_pos (by omega), if_pos (by simp [xlen]; omega), if_pos (by omega), if_neg (by rw [pilt]; omega)]
      rw [Nat.mod_eq_of_lt hx]
      rfl
    · rw [putV_hi hx] at hl ⊢
      simp only [List.length_cons] at hl
      rw [iter_inl (y := (((x / 128 : Nat) : Int), s ++ [UInt8.ofNat (x % 128 + 128)]))]
      · rw [ih (x / 128) _ (by omega) (by simp; omega), List.append_assoc]
        rfl
      · unfold F_varint_Put_L1
        dsimp only
        rw [ps7, pc8, por128 (by omega), if_pos (by omega), if_pos (by rw [pilt]; omega), if_pos (by omega), if_pos (by simp [xlen]; omega), if_pos (by omega), if_pos (by rw [pilt]; omega), if_pos (by omega)]
        rfl
theorem p_put {x : Nat} (h : x < 18446744073709551616) : F_varint_Put (x : Int) = some (putV x) := by
  have := putV_10 h
  unfold F_varint_Put F_varint_groups
  dsimp only
  rw [p_put_loop x x [] (Nat.le_refl _) (by simp; omega)]
  rfl
theorem rput_body {self : Int → Option (List UInt8)} {x : Nat} (h : x < 18446744073709551616) (hs : ¬ x < 128 → self ((x / 128 : Nat) : Int) = some (putV (x / 128))) : B_tollbarref02_Put self (x : Int) = some (putV x) := by
  unfold B_tollbarref02_Put
  by_cases hx : x < 128
  · have e : iconv .u8 (x : Int) = (x : Int) := by simp only [iconv]; rw [pu8 (by omega) (by omega)]
    rw [if_pos (by rw [pilt]; omega), e, if_pos (by omega), putV_lo hx]
    rfl
  · have e2 : iadd .u8 ((x % 128 : Nat) : Int) 128 = ((x % 128 + 128 : Nat) : Int) := by simp only [iadd]; rw [pu8 (by omega) (by omega)]; omega
    have e3 : iquo .u64 (x : Int) 128 = ((x / 128 : Nat) : Int) := by
      simp only [iquo]
      rw [Int.tdiv_eq_ediv_of_nonneg (by omega), pu64 (by omega) (by omega)]
      omega
    have hl := putV_10 (x := x / 128) (by omega)
    rw [if_neg (by rw [pilt]; omega), pc8, e2, e3, if_pos (by omega), hs hx, putV_hi hx]
    dsimp only
    rw [if_pos (by simp [xlen]; omega)]
    rfl
theorem G_succ (n : Nat) (x : Int) : G_tollbarref02_Put (n + 1) x = B_tollbarref02_Put (G_tollbarref02_Put n) x := rfl
theorem G_zero (x : Int) : G_tollbarref02_Put 0 x = none := rfl
theorem rput_ex (m : Nat) : ∀ x : Nat, x ≤ m → x < 18446744073709551616 → ∃ n, G_tollbarref02_Put n (x : Int) = some (putV x) := by
  induction m with
  | zero =>
    intro x hm h
    refine ⟨0 + 1, ?_⟩
    rw [G_succ]
    exact rput_body h (fun hx => absurd (by omega) hx)
  | succ m ih =>
    intro x hm h
    by_cases hx : x < 128
    · refine ⟨0 + 1, ?_⟩
      rw [G_succ]
      exact rput_body h (fun h => absurd hx h)
    · obtain ⟨n, hn⟩ := ih (x / 128) (by omega) (by omega)
      refine ⟨n + 1, ?_⟩
      rw [G_succ]
      exact rput_body h (fun _ => hn)
theorem rput_mono (n : Nat) : ∀ (x : Nat) (r : List UInt8), x < 18446744073709551616 → G_tollbarref02_Put n (x : Int) = some r → r = putV x := by
  induction n with
  | zero =>
    intro x r h e
    rw [G_zero] at e
    cases e
  | succ n ih =>
    intro x r h e
    rw [G_succ] at e
    by_cases hx : x < 128
    · have := rput_body (self := G_tollbarref02_Put n) h (fun h => absurd hx h)
      exact Option.some.inj (e.symm.trans this)
    · cases hg : G_tollbarref02_Put n ((x / 128 : Nat) : Int) with
      | none =>
        exfalso
        have e3 : iquo .u64 (x : Int) 128 = ((x / 128 : Nat) : Int) := by
          simp only [iquo]
          rw [Int.tdiv_eq_ediv_of_nonneg (by omega), pu64 (by omega) (by omega)]
          omega
        unfold B_tollbarref02_Put at e
        rw [if_neg (by rw [pilt]; omega), e3, hg] at e
        dsimp only at e
        split at e <;> cases e
      | some t =>
        have ht := ih (x / 128) t (by omega) hg
        subst ht
        have := rput_body (self := G_tollbarref02_Put n) h (fun _ => hg)
        exact Option.some.inj (e.symm.trans this)
theorem p_rput {x : Nat} (h : x < 18446744073709551616) : F_tollbarref02_Put (x : Int) = some (putV x) := by
  obtain ⟨n, hn⟩ := rput_ex x x (Nat.le_refl _) h
  exact fixo_is (fun n m r s hr hs => (rput_mono n x r h hr).trans (rput_mono m x s h hs).symm) hn
end Go.Proofs.YtnkfginlmdenjaaDoor
end
section
/-
  The sum of package frame: half a byte at a time, and bit by bit.
-/
set_option linter.unusedVariables false
set_option linter.unusedSimpArgs false
namespace Go.Proofs.YtnkfginlmdenjaaDoor

/-- One bit. -/
def stepC (x : BitVec 32) : BitVec 32 := (x >>> 1) ^^^ (if x.getLsbD 0 = true then 2197175160#32 else 0#32)
def step4 (x : BitVec 32) : BitVec 32 := stepC (stepC (stepC (stepC x)))
def crcB (x : BitVec 32) (c : UInt8) : BitVec 32 := step4 (step4 (x ^^^ BitVec.ofNat 32 c.toNat))
def crcs (x : BitVec 32) (s : List UInt8) : BitVec 32 := s.foldl crcB x
def sumV (s : List UInt8) : BitVec 32 := 4294967295#32 ^^^ crcs 4294967295#32 s
theorem stepC_t {x : BitVec 32} (h : x.getLsbD 0 = true) : stepC x = (x >>> 1) ^^^ 2197175160#32 := by unfold stepC; rw [if_pos h]
theorem stepC_f {x : BitVec 32} (h : x.getLsbD 0 = false) : stepC x = x >>> 1 := by unfold stepC; rw [h, if_neg (by simp)]; simp
theorem stepC_xor (a b : BitVec 32) : stepC (a ^^^ b) = stepC a ^^^ stepC b := by
  have hx : (a ^^^ b).getLsbD 0 = (a.getLsbD 0 ^^ b.getLsbD 0) := by simp
  cases ha : a.getLsbD 0 <;> cases hb : b.getLsbD 0 <;> rw [ha, hb] at hx
  · rw [stepC_f ha, stepC_f hb, stepC_f hx, BitVec.ushiftRight_xor_distrib]
  · rw [stepC_f ha, stepC_t hb, stepC_t hx, BitVec.ushiftRight_xor_distrib, BitVec.xor_assoc]
  · rw [stepC_t ha, stepC_f hb, stepC_t hx, BitVec.ushiftRight_xor_distrib, BitVec.xor_assoc, BitVec.xor_assoc, BitVec.xor_comm (b >>> 1)]
  · rw [stepC_t ha, stepC_t hb, stepC_f hx, BitVec.ushiftRight_xor_distrib, BitVec.xor_assoc, BitVec.xor_comm (b >>> 1), ← BitVec.xor_assoc 2197175160#32, BitVec.xor_self, BitVec.zero_xor]
theorem step4_xor (a b : BitVec 32) : step4 (a ^^^ b) = step4 a ^^^ step4 b := by
  unfold step4
  rw [stepC_xor, stepC_xor, stepC_xor, stepC_xor]
def halfV : List Int := [0, 274646895, 549293790, 820201905, 1098587580, 1361435347, 1640403810, 1905808397, 2197175160, 2460548119, 2722870694, 2987750089, 3280807620, 3553878443, 3811616794, 4084100981]
theorem step4_low : ∀ n : Fin 16, ((step4 (BitVec.ofNat 32 n.val)).toNat : Int) = getI halfV n.val := by decide +kernel
theorem step4_high (x : BitVec 32) : step4 (x &&& ~~~(15#32)) = x >>> 4 := by
  have g : ∀ i, i < 4 → (x &&& ~~~(15#32)).getLsbD i = false := by
    intro i hi
    have : i = 0 ∨ i = 1 ∨ i = 2 ∨ i = 3 := by omega
    rcases this with rfl | rfl | rfl | rfl <;> simp
  have s1 : stepC (x &&& ~~~(15#32)) = (x &&& ~~~(15#32)) >>> 1 := stepC_f (g 0 (by omega))
  have s2 : stepC ((x &&& ~~~(15#32)) >>> 1) = ((x &&& ~~~(15#32)) >>> 1) >>> 1 := stepC_f (by rw [BitVec.getLsbD_ushiftRight]; exact g 1 (by omega))
  have s3 : stepC (((x &&& ~~~(15#32)) >>> 1) >>> 1) = (((x &&& ~~~(15#32)) >>> 1) >>> 1) >>> 1 := stepC_f (by rw [BitVec.getLsbD_ushiftRight, BitVec.getLsbD_ushiftRight]; exact g 2 (by omega))
  have s4 : stepC ((((x &&& ~~~(15#32)) >>> 1) >>> 1) >>> 1) = ((((x &&& ~~~(15#32)) >>> 1) >>> 1) >>> 1) >>> 1 := stepC_f (by rw [BitVec.getLsbD_ushiftRight, BitVec.getLsbD_ushiftRight, BitVec.getLsbD_ushiftRight]; exact g 3 (by omega))
  unfold step4
  rw [s1, s2, s3, s4, ← BitVec.shiftRight_add, ← BitVec.shiftRight_add, ← BitVec.shiftRight_add]
  apply BitVec.eq_of_getLsbD_eq
  intro i hi
  simp only [BitVec.getLsbD_ushiftRight, BitVec.getLsbD_and, BitVec.getLsbD_not]
  by_cases h : 4 + i < 32
  · have key : ∀ j : Fin 32, 4 ≤ j.val → (15#32).getLsbD j.val = false := by decide
    have h15 := key ⟨4 + i, h⟩ (Nat.le_add_right 4 i)
    simp only [] at h15
    rw [h15]
    simp only [h, decide_true, Bool.not_false, Bool.and_true]
  · rw [BitVec.getLsbD_of_ge x _ (by omega)]
    simp
theorem vlow (x : BitVec 32) : ∃ n : Fin 16, x &&& 15#32 = BitVec.ofNat 32 n.val := by
  have h : (x &&& 15#32).toNat < 16 := by
    rw [BitVec.toNat_and]
    exact Nat.lt_of_le_of_lt Nat.and_le_right (by decide)
  refine ⟨⟨_, h⟩, ?_⟩
  simp
theorem vsplit (x : BitVec 32) : x = (x &&& ~~~(15#32)) ^^^ (x &&& 15#32) := by
  apply BitVec.eq_of_getLsbD_eq
  intro i hi
  simp only [BitVec.getLsbD_xor, BitVec.getLsbD_and, BitVec.getLsbD_not, hi, decide_true, Bool.true_and]
  cases x.getLsbD i <;> cases (15#32).getLsbD i <;> rfl
theorem ofV (x : BitVec 32) : BitVec.ofInt 32 (x.toNat : Int) = x := by
  rw [show BitVec.ofInt 32 (x.toNat : Int) = BitVec.ofNat 32 x.toNat from BitVec.ofInt_natCast 32 _]
  simp
theorem wV (x : BitVec 32) : IntKind.u32.wrap (x.toNat : Int) = (x.toNat : Int) := pu32 (by omega) (by have := x.isLt; omega)
theorem ixV (a b : BitVec 32) : ixor .u32 (a.toNat : Int) (b.toNat : Int) = ((a ^^^ b).toNat : Int) := by
  show IntKind.u32.wrap (((BitVec.ofInt 32 (a.toNat : Int) ^^^ BitVec.ofInt 32 (b.toNat : Int)).toNat : Nat) : Int) = _
  rw [ofV, ofV, wV]
theorem iaV (a b : BitVec 32) : iand .u32 (a.toNat : Int) (b.toNat : Int) = ((a &&& b).toNat : Int) := by
  show IntKind.u32.wrap (((BitVec.ofInt 32 (a.toNat : Int) &&& BitVec.ofInt 32 (b.toNat : Int)).toNat : Nat) : Int) = _
  rw [ofV, ofV, wV]
theorem ishV (a : BitVec 32) : ishr .u32 (a.toNat : Int) 4 = ((a >>> 4).toNat : Int) := by
  show (a.toNat : Int).fdiv (2 ^ 4) = _
  rw [BitVec.toNat_ushiftRight, Nat.shiftRight_eq_div_pow, Int.fdiv_eq_ediv_of_nonneg _ (by decide)]
  rfl
theorem half_step (x : BitVec 32) : ixor .u32 (ishr .u32 (x.toNat : Int) 4) (getI halfV (toN (iand .u32 (x.toNat : Int) 15))) = ((step4 x).toNat : Int) := by
  obtain ⟨n, hn⟩ := vlow x
  have e15 : (15 : Int) = ((15#32).toNat : Int) := rfl
  rw [e15, iaV, ishV, hn]
  have en : toN (((BitVec.ofNat 32 n.val).toNat : Nat) : Int) = n.val := by
    show (BitVec.ofNat 32 n.val).toNat = n.val
    rw [BitVec.toNat_ofNat]
    have := n.isLt
    omega
  rw [en, ← step4_low n, ixV, ← hn, ← step4_high x, ← step4_xor, ← vsplit]
theorem half_in (x : BitVec 32) : 0 ≤ iand .u32 (x.toNat : Int) 15 ∧ iand .u32 (x.toNat : Int) 15 < 16 := by
  obtain ⟨n, hn⟩ := vlow x
  have e15 : (15 : Int) = ((15#32).toNat : Int) := rfl
  rw [e15, iaV, hn, BitVec.toNat_ofNat]
  have := n.isLt
  omega
theorem u8V (c : UInt8) : iconv .u32 ((c.toNat : Nat) : Int) = ((BitVec.ofNat 32 c.toNat).toNat : Int) := by
  have := c.toNat_lt
  simp only [iconv]
  rw [pu32 (by omega) (by omega), BitVec.toNat_ofNat]
  omega
theorem crcs_take {s : List UInt8} {x : BitVec 32} {i : Nat} (h : i < s.length) : crcs x (s.take (i + 1)) = crcB (crcs x (s.take i)) s[i] := by
  unfold crcs
  rw [List.take_succ_eq_append_getElem h, List.foldl_append]
  rfl
theorem p_sum {s : List UInt8} (hs : s.length ≤ 1000000) : F_frame_Sum s = some ((sumV s).toNat : Int) := by
  have key : ∀ m i : Nat, i + m = s.length → iter (F_frame_Sum_L1 s) (((crcs 4294967295#32 (s.take i)).toNat : Int), (i : Int)) = some ((sumV s).toNat : Int) := by
    intro m
    induction m with
    | zero =>
      intro i hi
      apply iter_inr
      unfold F_frame_Sum_L1
      dsimp only
      have e : (4294967295 : Int) = ((4294967295#32).toNat : Int) := rfl
      rw [if_neg (by rw [pilt]; simp only [ofN, xlen]; omega), e, ixV, List.take_of_length_le (by omega)]
      rfl
    | succ m ih =>
      intro i hi
      have hlt : i < s.length := by omega
      rw [iter_inl (y := (((crcs 4294967295#32 (s.take (i + 1))).toNat : Int), ((i + 1 : Nat) : Int)))]
      · exact ih (i + 1) (by omega)
      · unfold F_frame_Sum_L1
        dsimp only
        rw [if_pos (by rw [pilt]; simp only [ofN, xlen]; omega), if_pos (by simp only [ofN, xlen]; omega), ptoN, pgetB hlt, u8V, ixV, crcs_take hlt]
        generalize crcs 4294967295#32 (s.take i) = x
        have one : ∀ (y : BitVec 32) (j : Nat), j < 2 → F_frame_Sum_L2 (i : Int) ((y.toNat : Int), (j : Int)) = some (.inl (((step4 y).toNat : Int), ((j + 1 : Nat) : Int))) := by
          intro y j hj
          have hh := half_step y
          have hi2 := half_in y
          unfold halfV at hh
          unfold F_frame_Sum_L2
          dsimp only
          rw [if_pos (by rw [pilt]; omega), if_pos (by omega), if_pos (by simp only [ofN, xlen, List.length_cons, List.length_nil]; omega), hh, pnext (by omega)]
        have h0 := one (x ^^^ BitVec.ofNat 32 s[i].toNat) 0 (by omega)
        have h1 := one (step4 (x ^^^ BitVec.ofNat 32 s[i].toNat)) 1 (by omega)
        have e0 : ((0 : Nat) : Int) = 0 := rfl
        rw [e0] at h0
        rw [iter_inl h0, iter_inl h1]
        apply iter_inr
        unfold F_frame_Sum_L2
        dsimp only
        rw [if_neg (by rw [pilt]; omega), pnext (by omega)]
        rfl
  unfold F_frame_Sum
  exact key s.length 0 (by omega)
end Go.Proofs.YtnkfginlmdenjaaDoor
end
section
/-
  Package varint in plain words: what is put is got.
-/
set_option linter.unusedVariables false
set_option linter.unusedSimpArgs false
namespace Go.Proofs.YtnkfginlmdenjaaDoor

theorem putV_facts (m : Nat) : ∀ (x : Nat) (t : List UInt8), x ≤ m → ld (putV x ++ t) + 1 = (putV x).length ∧ gv (putV x) = x ∧ (0 < x → ((putV x ++ t).getD (ld (putV x ++ t)) 0).toNat ≠ 0) := by
  have lo : ∀ (x : Nat) (t : List UInt8), x < 128 → ld (putV x ++ t) + 1 = (putV x).length ∧ gv (putV x) = x ∧ (0 < x → ((putV x ++ t).getD (ld (putV x ++ t)) 0).toNat ≠ 0) := by
    intro x t hx
    have hu := uN (n := x) (by omega)
    have hl : ld (UInt8.ofNat x :: t) = 0 := by rw [ld_cons, hu, if_neg (by omega)]
    rw [putV_lo hx, List.singleton_append, hl]
    refine ⟨rfl, ?_, ?_⟩
    · rw [gv_cons, hu]
      show x % 128 + 128 * 0 = x
      omega
    · intro h0
      show (UInt8.ofNat x).toNat ≠ 0
      omega
  induction m with
  | zero => intro x t hm; exact lo x t (by omega)
  | succ m ih =>
    intro x t hm
    by_cases hx : x < 128
    · exact lo x t hx
    · obtain ⟨h1, h2, h3⟩ := ih (x / 128) t (by omega)
      have hu := uN (n := x % 128 + 128) (by omega)
      have hl : ld (UInt8.ofNat (x % 128 + 128) :: (putV (x / 128) ++ t)) = ld (putV (x / 128) ++ t) + 1 := by rw [ld_cons, hu, if_pos (by omega)]
      rw [putV_hi hx, List.cons_append, hl]
      refine ⟨?_, ?_, ?_⟩
      · rw [List.length_cons, h1]
      · rw [gv_cons, hu, h2]
        omega
      · intro h0
        exact h3 (by omega)
theorem putV_ld (x : Nat) (t : List UInt8) : ld (putV x ++ t) + 1 = (putV x).length := (putV_facts x x t (Nat.le_refl _)).1
theorem putV_gv (x : Nat) : gv (putV x) = x := (putV_facts x x [] (Nat.le_refl _)).2.1
theorem putV_last {x : Nat} (h : 0 < x) (t : List UInt8) : ((putV x ++ t).getD (ld (putV x ++ t)) 0).toNat ≠ 0 := (putV_facts x x t (Nat.le_refl _)).2.2 h
theorem getV_put {x : Nat} (h : x < 18446744073709551616) (t : List UInt8) : getV (putV x ++ t) = ((x : Int), (((putV x).length : Nat) : Int), 0) := by
  have h1 := putV_ld x t
  have h2 := putV_10 h
  have ht : (putV x ++ t).take (ld (putV x ++ t) + 1) = putV x := by rw [h1, List.take_left]
  rw [getV_ok (by omega) (by simp only [List.length_append]; omega) (by rw [ht, putV_gv]; exact h) ?_, ht, putV_gv, h1]
  rintro ⟨h3, h4⟩
  by_cases h0 : 0 < x
  · exact putV_last h0 t h4
  · obtain rfl : x = 0 := by omega
    rw [putV_lo (by omega)] at h1
    simp only [List.length_cons, List.length_nil] at h1
    rw [putV_lo (by omega)] at h3
    omega
theorem getV_cutoff {x : Nat} (h : x < 18446744073709551616) : getV ((putV x).take ((putV x).length - 1)) = (0, 0, 10) := by
  have h1 := putV_ld x []
  rw [List.append_nil] at h1
  have h2 := putV_10 h
  have h3 := ld_take (putV x) ((putV x).length - 1)
  exact getV_short (by omega) (by rw [List.length_take]; omega)
theorem putV_inj {x y : Nat} (h : putV x = putV y) : x = y := by rw [← putV_gv x, h, putV_gv]
theorem putV_pre {x y : Nat} (h : (putV x).length ≤ (putV y).length) (hp : (putV y).take (putV x).length = putV x) : x = y := by
  have e : putV y = putV x ++ (putV y).drop (putV x).length := by
    conv => lhs; rw [← List.take_append_drop (putV x).length (putV y), hp]
  have h1 := putV_ld x ((putV y).drop (putV x).length)
  rw [← e] at h1
  have h2 := putV_ld y []
  rw [List.append_nil] at h2
  have h3 : (putV y).take (putV x).length = putV y := List.take_of_length_le (by omega)
  exact putV_inj (hp.symm.trans h3)
theorem putV_mono (m : Nat) : ∀ x y : Nat, x ≤ m → x ≤ y → (putV x).length ≤ (putV y).length := by
  have pos : ∀ y : Nat, 1 ≤ (putV y).length := fun y => by have := putV_ld y []; omega
  induction m with
  | zero =>
    intro x y hm hxy
    obtain rfl : x = 0 := by omega
    have := pos y
    rw [putV_lo (n := 0) (by omega)]
    simpa using this
  | succ m ih =>
    intro x y hm hxy
    by_cases hx : x < 128
    · rw [putV_lo hx]
      simpa using pos y
    · rw [putV_hi hx, putV_hi (n := y) (by omega), List.length_cons, List.length_cons]
      have := ih (x / 128) (y / 128) (by omega) (Nat.div_le_div_right hxy)
      omega
/-- What is got is put as the very bytes. -/
theorem putV_get : ∀ s : List UInt8, ld s < s.length → (ld s = 0 ∨ (s.getD (ld s) 0).toNat ≠ 0) → putV (gv (s.take (ld s + 1))) = s.take (ld s + 1)
  | [], h, _ => by simp at h
  | c :: t, h, hz => by
    have hc : c.toNat < 256 := c.toNat_lt
    by_cases hm : 128 ≤ c.toNat
    · have e : ld (c :: t) = ld t + 1 := by rw [ld_cons, if_pos hm]
      rw [e] at h hz ⊢
      simp only [List.length_cons] at h
      have hz2 : (t.getD (ld t) 0).toNat ≠ 0 := by
        rcases hz with hz | hz
        · omega
        · exact hz
      have ih := putV_get t (by omega) (.inr hz2)
      rw [List.take_succ_cons, gv_cons]
      generalize hG : gv (t.take (ld t + 1)) = G at *
      have hG0 : G ≠ 0 := by
        rintro rfl
        rw [putV_lo (by omega)] at ih
        have hl := congrArg List.length ih
        rw [List.length_take] at hl
        simp only [List.length_cons, List.length_nil] at hl
        have h0 : ld t = 0 := by omega
        rw [h0] at ih hz2
        apply hz2
        cases t with
        | nil => rfl
        | cons d t =>
          simp only [List.take_succ_cons, List.take_zero, List.cons.injEq, and_true] at ih
          show d.toNat = 0
          rw [← ih]
          rfl
      have e1 : (c.toNat % 128 + 128 * G) / 128 = G := by omega
      have e2 : (c.toNat % 128 + 128 * G) % 128 + 128 = c.toNat := by omega
      rw [putV_hi (by omega), e1, e2, ih]
      simp
    · have e : ld (c :: t) = 0 := by rw [ld_cons, if_neg hm]
      rw [e]
      have e1 : (c :: t).take (0 + 1) = [c] := by simp
      rw [e1, gv_cons]
      have e2 : c.toNat % 128 + 128 * gv [] = c.toNat := by show c.toNat % 128 + 128 * 0 = _; omega
      rw [e2, putV_lo (by omega)]
      simp
/-- What Get tells, case by case. -/
theorem getV_own (s : List UInt8) : (∃ v n : Nat, v < 18446744073709551616 ∧ 1 ≤ n ∧ n ≤ s.length ∧ getV s = ((v : Int), (n : Int), 0) ∧ putV v = s.take n) ∨ ∃ e : Int, e ≠ 0 ∧ getV s = (0, 0, e) := by
  have hl := ld_le s
  by_cases h10 : 10 ≤ ld s
  · exact .inr ⟨14, by omega, getV_big h10⟩
  · by_cases h2 : ld s = s.length
    · exact .inr ⟨10, by omega, getV_short (by omega) h2⟩
    · by_cases h3 : 18446744073709551616 ≤ gv (s.take (ld s + 1))
      · exact .inr ⟨14, by omega, getV_over (by omega) (by omega) h3⟩
      · by_cases h4 : 0 < ld s ∧ (s.getD (ld s) 0).toNat = 0
        · exact .inr ⟨11, by omega, getV_form (by omega) (by omega) (by omega) h4.1 h4.2⟩
        · exact .inl ⟨_, _, by omega, by omega, by omega, getV_ok (by omega) (by omega) (by omega) h4, putV_get s (by omega) (by omega)⟩

end Go.Proofs.YtnkfginlmdenjaaDoor
end
section
/-
  Package frame in plain words: the document's sum, numbers of 4 bytes, records.
-/
set_option linter.unusedVariables false
set_option linter.unusedSimpArgs false
namespace Go.Proofs.YtnkfginlmdenjaaDoor

def bigB (x : Nat) : Nat → List UInt8
  | 0 => []
  | n + 1 => UInt8.ofNat (x / 256 ^ n % 256) :: bigB x n
theorem bigB_len (x : Nat) : ∀ n, (bigB x n).length = n
  | 0 => rfl
  | n + 1 => by simp [bigB, bigB_len x n]
theorem p_byte {x : Nat} {i : Nat} (hx : x < 18446744073709551616) (hi : i < 8) : iconv .u8 (ishr .u64 (x : Int) (imul .i64 8 (i : Int))) = ((x / 256 ^ i % 256 : Nat) : Int) := by
  have e1 : imul .i64 8 (i : Int) = ((8 * i : Nat) : Int) := by
    simp only [imul]; rw [pwi64 (by omega) (by omega)]; omega
  rw [e1, pshr (by omega)]
  have e2 : (x : Int) / 2 ^ (8 * i) = ((x / 256 ^ i : Nat) : Int) := by
    have : (256 : Nat) ^ i = 2 ^ (8 * i) := by rw [Nat.pow_mul]
    rw [this]
    have h2 : ((2 ^ (8 * i) : Nat) : Int) = (2 : Int) ^ (8 * i) := by simp
    rw [← h2]
    exact (Int.natCast_ediv x (2 ^ (8 * i))).symm
  rw [e2]
  simp only [iconv]
  rw [pwu8]
  omega
theorem p_big {x : Nat} (hx : x < 18446744073709551616) (n : Nat) (h : n ≤ 8) : F_octet_Big (x : Int) (n : Int) = some (bigB x n) := by
  unfold F_octet_Big
  by_cases h1 : n < 1
  · have : n = 0 := by omega
    subst this
    rw [if_pos (by rw [pilt]; omega)]
    rfl
  rw [if_neg (by rw [pilt]; omega), if_neg (by rw [pilt]; omega)]
  have key : ∀ (k : Nat) (acc : List UInt8), k ≤ 8 → acc.length + k ≤ 8 → iter (F_octet_Big_L1 (x : Int)) ((k : Int) - 1, acc) = some (acc ++ bigB x k) := by
    intro k
    induction k with
    | zero =>
      intro acc _ _
      apply iter_inr
      unfold F_octet_Big_L1
      dsimp only
      rw [if_neg (by rw [pile]; omega)]
      simp [bigB]
    | succ k ih =>
      intro acc hk ha
      have hb := p_byte hx (show k < 8 by omega)
      have e0 : ((k + 1 : Nat) : Int) - 1 = (k : Int) := by omega
      have e1 : imul .i64 8 (k : Int) = ((8 * k : Nat) : Int) := by
        simp only [imul]; rw [pwi64 (by omega) (by omega)]; omega
      have hlt : x / 256 ^ k % 256 < 256 := Nat.mod_lt _ (by omega)
      have e2 : isub .i64 (k : Int) 1 = (k : Int) - 1 := by simp only [isub]; rw [pwi64 (by omega) (by omega)]
      rw [e0, iter_inl (y := ((k : Int) - 1, acc ++ [UInt8.ofNat (x / 256 ^ k % 256)]))]
      · rw [ih _ (by omega) (by simp; omega)]
        simp [bigB]
      · unfold F_octet_Big_L1
        dsimp only
        rw [if_pos (by rw [pile]; omega), if_pos (by rw [e1]; omega), hb, if_pos ⟨by omega, by omega⟩, if_pos (by simp [xlen]; omega), e2]
        rfl
  have e : isub .i64 (n : Int) 1 = (n : Int) - 1 := by simp only [isub]; rw [pwi64 (by omega) (by omega)]
  rw [e, key n [] h (by simp; omega)]
  rfl

/-- How many bytes a number has. -/
theorem notV (x : BitVec 32) : isub .u32 4294967295 (x.toNat : Int) = ((4294967295#32 ^^^ x).toNat : Int) := by
  have e : 4294967295#32 ^^^ x = ~~~x := by
    apply BitVec.eq_of_getLsbD_eq
    intro i hi
    have h1 : (4294967295#32).getLsbD i = true := by
      have key : ∀ j : Fin 32, (4294967295#32).getLsbD j.val = true := by decide
      exact key ⟨i, hi⟩
    rw [BitVec.getLsbD_xor, BitVec.getLsbD_not, h1]
    simp [hi]
  have := x.isLt
  rw [e, BitVec.toNat_not]
  simp only [isub]
  rw [pu32 (by omega) (by omega)]
  omega
theorem bit_step (y : BitVec 32) : (if ieq (irem (y.toNat : Int) 2) 1 = true then ixor .u32 (iquo .u32 (y.toNat : Int) 2) 2197175160 else iquo .u32 (y.toNat : Int) 2) = ((stepC y).toNat : Int) := by
  have hq : iquo .u32 (y.toNat : Int) 2 = ((y >>> 1).toNat : Int) := by
    have := y.isLt
    simp only [iquo]
    rw [Int.tdiv_eq_ediv_of_nonneg (by omega), pu32 (by omega) (by omega), BitVec.toNat_ushiftRight, Nat.shiftRight_eq_div_pow]
    rfl
  have hb : y.getLsbD 0 = decide (y.toNat % 2 = 1) := by
    rw [BitVec.getLsbD, Nat.testBit_zero]
  have hr : irem (y.toNat : Int) 2 = ((y.toNat % 2 : Nat) : Int) := by
    simp only [irem]
    rw [Int.tmod_eq_emod_of_nonneg (by omega)]
    omega
  by_cases h : y.toNat % 2 = 1
  · rw [if_pos (by rw [pieq, hr, h]; rfl), hq, stepC_t (by rw [hb]; simp [h])]
    exact ixV _ 2197175160#32
  · rw [if_neg (by rw [pieq, hr]; omega), hq, stepC_f (by rw [hb]; simp [h])]
theorem p_rsum {s : List UInt8} (hs : s.length ≤ 1000000) : F_tollbarref04_Sum s = some ((sumV s).toNat : Int) := by
  have key : ∀ m i : Nat, i + m = s.length → iter (F_tollbarref04_Sum_L1 s) (((crcs 4294967295#32 (s.take i)).toNat : Int), (i : Int)) = some ((sumV s).toNat : Int) := by
    intro m
    induction m with
    | zero =>
      intro i hi
      apply iter_inr
      unfold F_tollbarref04_Sum_L1
      dsimp only
      rw [if_neg (by rw [pilt]; simp only [ofN, xlen]; omega), notV, List.take_of_length_le (by omega)]
      rfl
    | succ m ih =>
      intro i hi
      have hlt : i < s.length := by omega
      rw [iter_inl (y := (((crcs 4294967295#32 (s.take (i + 1))).toNat : Int), ((i + 1 : Nat) : Int)))]
      · exact ih (i + 1) (by omega)
      · unfold F_tollbarref04_Sum_L1
        dsimp only
        rw [if_pos (by rw [pilt]; simp only [ofN, xlen]; omega), if_pos (by simp only [ofN, xlen]; omega), ptoN, pgetB hlt, u8V, ixV, crcs_take hlt]
        generalize crcs 4294967295#32 (s.take i) = x
        have one : ∀ (y : BitVec 32) (j : Nat), j < 8 → F_tollbarref04_Sum_L2 (i : Int) ((y.toNat : Int), (j : Int)) = some (.inl (((stepC y).toNat : Int), ((j + 1 : Nat) : Int))) := by
          intro y j hj
          have hh := bit_step y
          unfold F_tollbarref04_Sum_L2
          dsimp only
          rw [if_pos (by rw [pilt]; omega), pnext (by omega)]
          by_cases h : ieq (irem (y.toNat : Int) 2) 1 = true
          · rw [if_pos h] at hh
            rw [if_pos h, hh]
          · rw [if_neg h] at hh
            rw [if_neg h, hh]
        generalize hy : x ^^^ BitVec.ofNat 32 s[i].toNat = y
        have e0 : (0 : Int) = ((0 : Nat) : Int) := rfl
        rw [e0, iter_inl (one y 0 (by omega)), iter_inl (one _ 1 (by omega)), iter_inl (one _ 2 (by omega)), iter_inl (one _ 3 (by omega)), iter_inl (one _ 4 (by omega)), iter_inl (one _ 5 (by omega)), iter_inl (one _ 6 (by omega)), iter_inl (one _ 7 (by omega))]
        apply iter_inr
        unfold F_tollbarref04_Sum_L2
        dsimp only
        rw [if_neg (by rw [pilt]; omega), pnext (by omega)]
        unfold crcB
        rw [hy]
        rfl
  unfold F_tollbarref04_Sum
  exact key s.length 0 (by omega)
theorem p_rbig {x : Nat} (hx : x < 18446744073709551616) : F_tollbarref01_Big (x : Int) 4 = some (bigB x 4) := by
  have key : ∀ m j : Nat, j + m = 4 → iter (F_tollbarref01_Big_L1 4) (((x / 256 ^ j : Nat) : Int), bigB x j, (j : Int)) = some (bigB x 4) := by
    intro m
    induction m with
    | zero =>
      intro j hj
      obtain rfl : j = 4 := by omega
      apply iter_inr
      unfold F_tollbarref01_Big_L1
      dsimp only
      rw [if_neg (by rw [pilt]; omega)]
    | succ m ih =>
      intro j hj
      rw [iter_inl (y := (((x / 256 ^ (j + 1) : Nat) : Int), bigB x (j + 1), ((j + 1 : Nat) : Int)))]
      · exact ih (j + 1) (by omega)
      · have hlt : x / 256 ^ j < 18446744073709551616 := Nat.lt_of_le_of_lt (Nat.div_le_self _ _) hx
        have hd : x / 256 ^ (j + 1) = x / 256 ^ j / 256 := by rw [Nat.pow_succ, Nat.div_div_eq_div_mul]
        have hb : bigB x (j + 1) = UInt8.ofNat (x / 256 ^ j % 256) :: bigB x j := rfl
        have hl := bigB_len x j
        rw [hd, hb]
        generalize x / 256 ^ j = z at *
        have er : iconv .u8 (irem (z : Int) 256) = ((z % 256 : Nat) : Int) := by
          simp only [iconv, irem]
          rw [Int.tmod_eq_emod_of_nonneg (by omega), pu8 (by omega) (by omega)]
          omega
        have eo : F_tollbarref01_one (z : Int) = some [UInt8.ofNat (z % 256)] := by
          unfold F_tollbarref01_one
          rw [er, if_pos (by omega)]
          rfl
        have eq : iquo .u64 (z : Int) 256 = ((z / 256 : Nat) : Int) := by
          simp only [iquo]
          rw [Int.tdiv_eq_ediv_of_nonneg (by omega), pu64 (by omega) (by omega)]
          omega
        unfold F_tollbarref01_Big_L1
        dsimp only
        rw [if_pos (by rw [pilt]; omega), if_pos (by rw [pile]; omega), eo]
        dsimp only
        rw [if_pos (by simp only [xlen, List.length_cons, List.length_nil]; omega), eq, pnext (by omega)]
        rfl
  have h := key 4 0 (by omega)
  rw [Nat.pow_zero, Nat.div_one] at h
  exact h
/-- A record. -/
def headB (s : List UInt8) : List UInt8 := putV s.length ++ s
def recB (s : List UInt8) : List UInt8 := headB s ++ bigB (sumV (headB s)).toNat 4
theorem sum64 (s : List UInt8) : (sumV s).toNat < 18446744073709551616 := by have := (sumV s).isLt; omega
theorem cv64 (s : List UInt8) : iconv .u64 ((sumV s).toNat : Int) = ((sumV s).toNat : Int) := by
  have := sum64 s
  simp only [iconv]
  rw [pu64 (by omega) (by omega)]
theorem p_big4 (s : List UInt8) : F_octet_Big (iconv .u64 ((sumV s).toNat : Int)) 4 = some (bigB (sumV s).toNat 4) := by
  rw [cv64]
  exact p_big (sum64 s) 4 (by omega)
theorem p_rbig4 (s : List UInt8) : F_tollbarref01_Big (iconv .u64 ((sumV s).toNat : Int)) 4 = some (bigB (sumV s).toNat 4) := by
  rw [cv64]
  exact p_rbig (sum64 s)
theorem cvlen {n : Nat} (h : n ≤ 1000000) : iconv .u64 (ofN n) = (n : Int) := by
  simp only [iconv, ofN]
  rw [pu64 (by omega) (by omega)]
theorem p_fput {s : List UInt8} (hs : s.length ≤ 100000) : F_frame_Put s = some (if 8192 < s.length then (14, []) else (0, recB s)) := by
  unfold F_frame_Put
  have h10 := putV_10 (x := s.length) (by omega)
  have hx : xlen s = s.length := rfl
  by_cases h : 8192 < s.length
  · rw [if_pos (by rw [pilt]; simp only [ofN, xlen]; omega), if_pos h]
  · rw [if_neg (by rw [pilt]; simp only [ofN, xlen]; omega), if_neg h, hx, cvlen (by omega), p_put (by omega)]
    dsimp only
    have ec : cat (putV s.length) s = headB s := rfl
    have hl : (headB s).length ≤ 110000 := by unfold headB; rw [List.length_append]; omega
    rw [if_pos (by simp only [xlen]; omega), ec, p_sum (by omega)]
    dsimp only
    rw [p_big4]
    dsimp only
    have hb := bigB_len (sumV (headB s)).toNat 4
    rw [if_pos (by simp only [xlen, hb]; omega)]
    rfl
theorem p_rfput {s : List UInt8} (hs : s.length ≤ 100000) : F_tollbarref04_Put s = some (if 8192 < s.length then ([], 14) else (recB s, 0)) := by
  unfold F_tollbarref04_Put
  have h10 := putV_10 (x := s.length) (by omega)
  have hx : xlen s = s.length := rfl
  by_cases h : 8192 < s.length
  · rw [if_pos (by rw [pilt]; simp only [ofN, xlen]; omega), if_pos h]
  · rw [if_neg (by rw [pilt]; simp only [ofN, xlen]; omega), if_neg h, hx, cvlen (by omega), p_rput (by omega)]
    dsimp only
    have ec : cat (putV s.length) s = headB s := rfl
    have hl : (headB s).length ≤ 110000 := by unfold headB; rw [List.length_append]; omega
    rw [if_pos (by simp only [xlen]; omega), ec, p_rsum (by omega)]
    dsimp only
    rw [p_rbig4]
    dsimp only
    have hb := bigB_len (sumV (headB s)).toNat 4
    rw [if_pos (by simp only [xlen, hb]; omega)]
    rfl
/-- What is got. -/
def getF (s : List UInt8) : List UInt8 × Int × Int :=
  if (getV s).2.2 ≠ 0 then ([], 0, (getV s).2.2) else if 8192 < (getV s).1 then ([], 0, 14)
  else if s.length < (getV s).2.1.toNat + (getV s).1.toNat + 4 then ([], 0, 10)
  else if bigB (sumV (s.take ((getV s).2.1.toNat + (getV s).1.toNat))).toNat 4 ≠ (s.drop ((getV s).2.1.toNat + (getV s).1.toNat)).take 4 then ([], 0, 12)
  else ((s.drop (getV s).2.1.toNat).take (getV s).1.toNat, (((getV s).2.1.toNat + (getV s).1.toNat + 4 : Nat) : Int), 0)
theorem p_fget2 {s : List UInt8} (hs : s.length ≤ 100000) : F_frame_Get s = some ((getF s).2.1, (getF s).2.2, (getF s).1) ∧ F_tollbarref04_Get s = some (getF s) := by
  have he : ∀ x : Int, ieq x x = true := fun x => by rw [pieq]
  have xs : ofN (xlen s) = (s.length : Int) := rfl
  rcases getV_own s with ⟨v, n, hv, h1, h2, h3, h4⟩ | ⟨e, h1, h2⟩
  · by_cases hb : 8192 < v
    · have hg : getF s = ([], 0, 14) := by
        unfold getF
        rw [h3]
        dsimp only
        rw [if_neg (by simp), if_pos (by omega)]
      rw [hg]
      refine ⟨?_, ?_⟩
      · unfold F_frame_Get
        rw [p_get (by omega), h3]
        dsimp only
        rw [if_pos (he _), if_pos (by rw [pilt]; omega)]
      · unfold F_tollbarref04_Get
        rw [p_rget (by omega), h3]
        dsimp only
        rw [if_pos (he _), if_pos (by rw [pilt]; omega)]
    · have e1 : iconv .i64 (v : Int) = (v : Int) := by simp only [iconv]; rw [pwi64 (by omega) (by omega)]
      have e2 : iadd .i64 (n : Int) (v : Int) = ((n + v : Nat) : Int) := by simp only [iadd]; rw [pwi64 (by omega) (by omega)]; omega
      have e3 : iadd .i64 ((n + v : Nat) : Int) 4 = ((n + v + 4 : Nat) : Int) := by simp only [iadd]; rw [pwi64 (by omega) (by omega)]; omega
      by_cases hl : s.length < n + v + 4
      · have hg : getF s = ([], 0, 10) := by
          unfold getF
          rw [h3]
          dsimp only
          rw [Int.toNat_natCast, Int.toNat_natCast, if_neg (by simp), if_neg (by omega), if_pos hl]
        rw [hg]
        refine ⟨?_, ?_⟩
        · unfold F_frame_Get
          rw [p_get (by omega), h3]
          dsimp only
          rw [e1, e2, e3, xs, if_pos (he _), if_neg (by rw [pilt]; omega), if_pos (by rw [pilt]; omega)]
        · unfold F_tollbarref04_Get
          rw [p_rget (by omega), h3]
          dsimp only
          rw [e1, e2, e3, xs, if_pos (he _), if_neg (by rw [pilt]; omega), if_pos (by rw [pilt]; omega)]
      · have c1 : lsub s 0 (toN ((n + v : Nat) : Int)) = s.take (n + v) := rfl
        have c2 : lsub s (toN ((n + v : Nat) : Int)) (ndec (toN ((n + v + 4 : Nat) : Int)) (toN ((n + v : Nat) : Int))) = (s.drop (n + v)).take 4 := by
          show (s.drop (n + v)).take (n + v + 4 - (n + v)) = _
          rw [Nat.add_sub_cancel_left]
        have c3 : lsub s (toN (n : Int)) (ndec (toN ((n + v : Nat) : Int)) (toN (n : Int))) = (s.drop n).take v := by
          show (s.drop n).take (n + v - n) = _
          rw [Nat.add_sub_cancel_left]
        have hc : cloneB ((s.drop n).take v) = some ((s.drop n).take v) := by
          unfold cloneB
          rw [if_pos (by simp only [xlen, List.length_take, List.length_drop]; omega)]
        have lt : (s.take (n + v)).length ≤ 1000000 := by rw [List.length_take]; omega
        by_cases hq : bigB (sumV (s.take (n + v))).toNat 4 = (s.drop (n + v)).take 4
        · have hg : getF s = ((s.drop n).take v, ((n + v + 4 : Nat) : Int), 0) := by
            unfold getF
            rw [h3]
            dsimp only
            rw [Int.toNat_natCast, Int.toNat_natCast, if_neg (by simp), if_neg (by omega), if_neg hl, if_neg (by simpa using hq)]
          rw [hg]
          refine ⟨?_, ?_⟩
          · unfold F_frame_Get
            rw [p_get (by omega), h3]
            dsimp only
            rw [e1, e2, e3, xs, if_pos (he _), if_neg (by rw [pilt]; omega), if_neg (by rw [pilt]; omega), if_pos (by omega), c1, p_sum lt]
            dsimp only
            rw [p_big4]
            dsimp only
            rw [if_pos (by omega), c2, c3]
            unfold F_bytes_Equal
            dsimp only
            rw [if_pos (by rw [pseq]; exact hq), if_pos (by omega), hc]
          · unfold F_tollbarref04_Get
            rw [p_rget (by omega), h3]
            dsimp only
            rw [e1, e2, e3, xs, if_pos (he _), if_neg (by rw [pilt]; omega), if_neg (by rw [pilt]; omega), if_pos (by omega), c1, p_rsum lt]
            dsimp only
            rw [p_rbig4]
            dsimp only
            rw [if_pos (by omega), c2, c3, if_pos (by rw [pseq]; exact hq), if_pos (by omega)]
        · have hg : getF s = ([], 0, 12) := by
            unfold getF
            rw [h3]
            dsimp only
            rw [Int.toNat_natCast, Int.toNat_natCast, if_neg (by simp), if_neg (by omega), if_neg hl, if_pos hq]
          rw [hg]
          refine ⟨?_, ?_⟩
          · unfold F_frame_Get
            rw [p_get (by omega), h3]
            dsimp only
            rw [e1, e2, e3, xs, if_pos (he _), if_neg (by rw [pilt]; omega), if_neg (by rw [pilt]; omega), if_pos (by omega), c1, p_sum lt]
            dsimp only
            rw [p_big4]
            dsimp only
            rw [if_pos (by omega), c2]
            unfold F_bytes_Equal
            dsimp only
            rw [if_neg (by rw [pseq]; exact hq)]
          · unfold F_tollbarref04_Get
            rw [p_rget (by omega), h3]
            dsimp only
            rw [e1, e2, e3, xs, if_pos (he _), if_neg (by rw [pilt]; omega), if_neg (by rw [pilt]; omega), if_pos (by omega), c1, p_rsum lt]
            dsimp only
            rw [p_rbig4]
            dsimp only
            rw [if_pos (by omega), c2, if_neg (by rw [pseq]; exact hq)]
  · have hg : getF s = ([], 0, e) := by
      unfold getF
      rw [h2]
      dsimp only
      rw [if_pos h1]
    rw [hg]
    refine ⟨?_, ?_⟩
    · unfold F_frame_Get
      rw [p_get (by omega), h2]
      dsimp only
      rw [if_neg (by rw [pieq]; exact h1)]
    · unfold F_tollbarref04_Get
      rw [p_rget (by omega), h2]
      dsimp only
      rw [if_neg (by rw [pieq]; exact h1)]
theorem p_fget {s : List UInt8} (hs : s.length ≤ 100000) : F_frame_Get s = some ((getF s).2.1, (getF s).2.2, (getF s).1) := (p_fget2 hs).1
theorem p_rfget {s : List UInt8} (hs : s.length ≤ 100000) : F_tollbarref04_Get s = some (getF s) := (p_fget2 hs).2
end Go.Proofs.YtnkfginlmdenjaaDoor
end
section
/-
  What is known of arguments: their numbers fit.
-/
set_option linter.unusedVariables false
set_option linter.unusedSimpArgs false
namespace Go.Proofs.YtnkfginlmdenjaaDoor
theorem wf_U {x : Int} (h : (Lit.int .u64 x).wf = true) : U x := by
  have : 0 ≤ x ∧ x ≤ 18446744073709551615 := by simpa [Lit.wf, IntKind.min, IntKind.max, IntKind.signed, IntKind.bits, Int.lt_add_one_iff, Int.le_sub_one_iff] using h
  unfold U; omega
theorem wf_u32 {x : Int} (h : (Lit.int .u32 x).wf = true) : 0 ≤ x ∧ x < 4294967296 := by
  have : 0 ≤ x ∧ x ≤ 4294967295 := by simpa [Lit.wf, IntKind.min, IntKind.max, IntKind.signed, IntKind.bits, Int.lt_add_one_iff, Int.le_sub_one_iff] using h
  omega
theorem wf_u16 {x : Int} (h : (Lit.int .u16 x).wf = true) : 0 ≤ x ∧ x < 65536 := by
  have : 0 ≤ x ∧ x ≤ 65535 := by simpa [Lit.wf, IntKind.min, IntKind.max, IntKind.signed, IntKind.bits, Int.lt_add_one_iff, Int.le_sub_one_iff] using h
  omega
theorem wf_u8 {x : Int} (h : (Lit.int .u8 x).wf = true) : 0 ≤ x ∧ x < 256 := by
  have : 0 ≤ x ∧ x ≤ 255 := by simpa [Lit.wf, IntKind.min, IntKind.max, IntKind.signed, IntKind.bits, Int.lt_add_one_iff, Int.le_sub_one_iff] using h
  omega
theorem wf_i64 {x : Int} (h : (Lit.int .i64 x).wf = true) : -9223372036854775808 ≤ x ∧ x ≤ 9223372036854775807 := by
  simpa [Lit.wf, IntKind.min, IntKind.max, IntKind.signed, IntKind.bits, Int.lt_add_one_iff, Int.le_sub_one_iff] using h
end Go.Proofs.YtnkfginlmdenjaaDoor
end
section
/-
  Package frame in plain words: all records, the example, FrameTells and FrameAlls.
-/
set_option linter.unusedVariables false
set_option linter.unusedSimpArgs false
namespace Go.Proofs.YtnkfginlmdenjaaDoor

theorem getF_n {s : List UInt8} (h : (getF s).2.2 = 0) : ∃ n : Nat, (getF s).2.1 = (n : Int) ∧ 1 ≤ n ∧ n ≤ s.length := by
  revert h
  unfold getF
  split
  · intro h; rename_i h1; exact absurd h h1
  · split
    · intro h; simp at h
    · split
      · intro h; simp at h
      · split
        · intro h; simp at h
        · intro _
          exact ⟨_, rfl, by omega, by omega⟩
/-- The records that bytes begin with. -/
def allN : Nat → List UInt8 → List (List UInt8) × Nat × Int
  | 0, _ => ([], 0, 0)
  | m + 1, s => if s = [] then ([], 0, 0) else if (getF s).2.2 ≠ 0 then ([], 0, (getF s).2.2)
    else ((getF s).1 :: (allN m (s.drop (getF s).2.1.toNat)).1, (getF s).2.1.toNat + (allN m (s.drop (getF s).2.1.toNat)).2.1, (allN m (s.drop (getF s).2.1.toNat)).2.2)
theorem allN_nil (m : Nat) : allN m [] = ([], 0, 0) := by cases m <;> rfl
theorem allN_err {m : Nat} {s : List UInt8} (h : s ≠ []) (e : (getF s).2.2 ≠ 0) : allN (m + 1) s = ([], 0, (getF s).2.2) := by
  unfold allN; rw [if_neg h, if_pos e]
theorem allN_ok {m : Nat} {s : List UInt8} (h : s ≠ []) (e : (getF s).2.2 = 0) : allN (m + 1) s = ((getF s).1 :: (allN m (s.drop (getF s).2.1.toNat)).1, (getF s).2.1.toNat + (allN m (s.drop (getF s).2.1.toNat)).2.1, (allN m (s.drop (getF s).2.1.toNat)).2.2) := by
  conv => lhs; unfold allN
  rw [if_neg h, if_neg (by simpa using e)]
theorem rest_all {s : List UInt8} {i : Nat} (h : i ≤ s.length) : lsub s (toN (i : Int)) (ndec (xlen s) (toN (i : Int))) = s.drop i := by
  show (s.drop i).take (s.length - i) = s.drop i
  exact List.take_of_length_le (by simp)
theorem p_all_loop {s : List UInt8} (hs : s.length ≤ 100000) : ∀ (m i : Nat) (r : List D), i ≤ s.length → s.length - i ≤ m → r.length ≤ i →
    iter (F_frame_All_L1 s) ((i : Int), 0, (i : Int), r) = some (((i + (allN m (s.drop i)).2.1 : Nat) : Int), (allN m (s.drop i)).2.2, r ++ (allN m (s.drop i)).1.map D.s) ∧
    iter (F_tollbarref04_All_L1 s) ((i : Int), r) = some (((i + (allN m (s.drop i)).2.1 : Nat) : Int), (allN m (s.drop i)).2.2, r ++ (allN m (s.drop i)).1.map D.s) := by
  have he : ∀ x : Int, ieq x x = true := fun x => by rw [pieq]
  have xs : ofN (xlen s) = (s.length : Int) := rfl
  intro m
  induction m with
  | zero =>
    intro i r hi hm hr
    have e0 : s.drop i = [] := by rw [List.drop_eq_nil_iff]; omega
    rw [e0, allN_nil]
    refine ⟨iter_inr ?_, iter_inr ?_⟩
    · unfold F_frame_All_L1
      dsimp only
      rw [xs, if_neg (by rw [pilt]; omega), List.map_nil, List.append_nil]
      rfl
    · unfold F_tollbarref04_All_L1
      dsimp only
      rw [xs, if_neg (by rw [pilt]; omega), List.map_nil, List.append_nil]
      rfl
  | succ m ih =>
    intro i r hi hm hr
    by_cases hil : i = s.length
    · have e0 : s.drop i = [] := by rw [List.drop_eq_nil_iff]; omega
      rw [e0, allN_nil]
      refine ⟨iter_inr ?_, iter_inr ?_⟩
      · unfold F_frame_All_L1
        dsimp only
        rw [xs, if_neg (by rw [pilt]; omega), List.map_nil, List.append_nil]
        rfl
      · unfold F_tollbarref04_All_L1
        dsimp only
        rw [xs, if_neg (by rw [pilt]; omega), List.map_nil, List.append_nil]
        rfl
    · have hlt : i < s.length := by omega
      have hne : s.drop i ≠ [] := by rw [Ne, List.drop_eq_nil_iff]; omega
      have hld : (s.drop i).length ≤ 100000 := by rw [List.length_drop]; omega
      have g1 := p_fget hld
      have g2 := p_rfget hld
      have hr2 := rest_all (s := s) hi
      by_cases hz : (getF (s.drop i)).2.2 = 0
      · obtain ⟨n, hn, n1, n2⟩ := getF_n hz
        rw [List.length_drop] at n2
        rw [allN_ok hne hz]
        generalize hG : getF (s.drop i) = G at *
        obtain ⟨b, gn, ge⟩ := G
        dsimp only at hz hn g1 g2 ⊢
        subst hz
        subst hn
        rw [Int.toNat_natCast, List.drop_drop]
        obtain ⟨i1, i2⟩ := ih (i + n) (r ++ [D.s b]) (by omega) (by omega) (by simp only [List.length_append, List.length_cons, List.length_nil]; omega)
        have ea : iadd .i64 (i : Int) (n : Int) = ((i + n : Nat) : Int) := by simp only [iadd]; rw [pwi64 (by omega) (by omega)]; omega
        have er : ∀ x : List (List UInt8), r ++ (b :: x).map D.s = (r ++ [D.s b]) ++ x.map D.s := fun x => by rw [List.map_cons, List.append_assoc]; rfl
        rw [er, ← Nat.add_assoc]
        refine ⟨?_, ?_⟩
        · rw [iter_inl (y := (((i + n : Nat) : Int), 0, ((i + n : Nat) : Int), r ++ [D.s b]))]
          · exact i1
          · unfold F_frame_All_L1
            dsimp only
            rw [xs, if_pos (by rw [pilt]; omega), if_pos (by omega), hr2, g1]
            dsimp only
            rw [if_pos (he _), if_pos (by simp only [xlen, List.length_cons, List.length_nil]; omega), ea]
            rfl
        · rw [iter_inl (y := (((i + n : Nat) : Int), r ++ [D.s b]))]
          · exact i2
          · unfold F_tollbarref04_All_L1
            dsimp only
            rw [xs, if_pos (by rw [pilt]; omega), if_pos (by omega), hr2, g2]
            dsimp only
            rw [if_pos (he _), if_pos (by simp only [xlen, List.length_cons, List.length_nil]; omega), ea]
            rfl
      · rw [allN_err hne hz]
        generalize hG : getF (s.drop i) = G at *
        obtain ⟨b, gn, ge⟩ := G
        dsimp only at hz g1 g2 ⊢
        rw [List.map_nil, List.append_nil, Nat.add_zero]
        refine ⟨iter_inr ?_, iter_inr ?_⟩
        · unfold F_frame_All_L1
          dsimp only
          rw [xs, if_pos (by rw [pilt]; omega), if_pos (by omega), hr2, g1]
          dsimp only
          rw [if_neg (by rw [pieq]; exact hz)]
        · unfold F_tollbarref04_All_L1
          dsimp only
          rw [xs, if_pos (by rw [pilt]; omega), if_pos (by omega), hr2, g2]
          dsimp only
          rw [if_neg (by rw [pieq]; exact hz)]
def allF (s : List UInt8) : List (List UInt8) × Nat × Int := allN s.length s
theorem p_all {s : List UInt8} (hs : s.length ≤ 100000) : F_frame_All s = some (((allF s).2.1 : Int), (allF s).2.2, (allF s).1.map D.s) := by
  have h := (p_all_loop hs s.length 0 [] (by omega) (by omega) (by simp)).1
  rw [List.drop_zero, Nat.zero_add, List.nil_append] at h
  unfold F_frame_All F_frame_records
  dsimp only
  exact h
theorem p_rall {s : List UInt8} (hs : s.length ≤ 100000) : F_tollbarref04_All s = some (((allF s).2.1 : Int), (allF s).2.2, (allF s).1.map D.s) := by
  have h := (p_all_loop hs s.length 0 [] (by omega) (by omega) (by simp)).2
  rw [List.drop_zero, Nat.zero_add, List.nil_append] at h
  exact h
theorem p_texts {l : List (List UInt8)} (hl : l.length ≤ 1000000) : F_tollbarlaw04_texts (l.map D.s) = some (l.map D.s) := by
  have key : ∀ m i : Nat, i + m = l.length → iter (F_tollbarlaw04_texts_L1 (l.map D.s)) ((i : Int), (l.take i).map D.s) = some (l.map D.s) := by
    intro m
    induction m with
    | zero =>
      intro i hi
      apply iter_inr
      unfold F_tollbarlaw04_texts_L1
      dsimp only
      rw [if_neg (by rw [pilt]; simp only [ofN, xlen, List.length_map]; omega), List.take_of_length_le (by omega)]
    | succ m ih =>
      intro i hi
      have hlt : i < l.length := by omega
      rw [iter_inl (y := (((i + 1 : Nat) : Int), (l.take (i + 1)).map D.s))]
      · exact ih (i + 1) (by omega)
      · have eg : getD (l.map D.s) (toN (i : Int)) = D.s l[i] := by
          rw [ptoN, pgetD (by rw [List.length_map]; exact hlt), List.getElem_map]
        unfold F_tollbarlaw04_texts_L1
        dsimp only
        rw [if_pos (by rw [pilt]; simp only [ofN, xlen, List.length_map]; omega), if_pos (by simp only [ofN, xlen, List.length_map]; omega), eg, if_pos (by simp only [xlen, List.length_map, List.length_take, List.length_cons, List.length_nil]; omega), pnext (by omega), List.take_succ_eq_append_getElem hlt, List.map_append]
        rfl
  exact key l.length 0 (by omega)
theorem p_same {l : List (List UInt8)} (hl : l.length ≤ 1000000) : F_tollbarref04_Same (l.map D.s) (l.map D.s) = some true := by
  have key : ∀ m i : Nat, i + m = l.length → iter (F_tollbarref04_Same_L1 (l.map D.s) (l.map D.s)) (i : Int) = some true := by
    intro m
    induction m with
    | zero =>
      intro i hi
      apply iter_inr
      unfold F_tollbarref04_Same_L1
      dsimp only
      rw [if_neg (by rw [pilt]; simp only [ofN, xlen, List.length_map]; omega)]
    | succ m ih =>
      intro i hi
      rw [iter_inl (y := ((i + 1 : Nat) : Int))]
      · exact ih (i + 1) (by omega)
      · unfold F_tollbarref04_Same_L1
        dsimp only
        rw [if_pos (by rw [pilt]; simp only [ofN, xlen, List.length_map]; omega), if_pos (by simp only [ofN, xlen, List.length_map]; omega), if_pos (by simp only [ofN, xlen, List.length_map]; omega), if_pos (by rw [pseq]), pnext (by omega)]
  unfold F_tollbarref04_Same
  rw [if_pos (by rw [pieq])]
  exact key l.length 0 (by omega)
theorem allN_len : ∀ (m : Nat) (s : List UInt8), (allN m s).1.length ≤ m
  | 0, s => Nat.le_refl _
  | m + 1, s => by
    unfold allN
    split
    · exact Nat.zero_le _
    · split
      · exact Nat.zero_le _
      · have := allN_len m (s.drop (getF s).2.1.toNat)
        simp only [List.length_cons]
        omega
theorem pb {x : Nat} (h : x < 256) : 0 ≤ (x : Int) ∧ (x : Int) < 256 := by omega
theorem p_wawake : F_tollbarlaw04_awake = some true := by
  have l2 : (byteOf (97 : Int) :: (byteOf (98 : Int) :: ([] : List UInt8))) = [97, 98] := by decide
  have l9 : (byteOf (49 : Int) :: (byteOf (50 : Int) :: (byteOf (51 : Int) :: (byteOf (52 : Int) :: (byteOf (53 : Int) :: (byteOf (54 : Int) :: (byteOf (55 : Int) :: (byteOf (56 : Int) :: (byteOf (57 : Int) :: ([] : List UInt8)))))))))) = [49, 50, 51, 52, 53, 54, 55, 56, 57] := by decide
  have p2 : putV 2 = [2] := by rw [putV_lo (by omega)]; decide
  have hh : headB [97, 98] = [2, 97, 98] := by
    show putV 2 ++ [97, 98] = _
    rw [p2]
    rfl
  obtain ⟨t, ht⟩ : ∃ t : List UInt8, t = [2, 97, 98] ++ bigB (sumV [2, 97, 98]).toNat 4 := ⟨_, rfl⟩
  have hr : recB [97, 98] = t := by unfold recB; rw [hh, ht]
  have tl : t.length = 7 := by rw [ht, List.length_append, bigB_len]; rfl
  have f1 : F_frame_Put [97, 98] = some (0, t) := by rw [p_fput (by simp), if_neg (by simp), hr]
  have e1 : getF t = ([97, 98], 7, 0) := by rw [ht]; decide +kernel
  have e2 : allF t = ([[97, 98]], 7, 0) := by rw [ht]; decide +kernel
  have f2 : F_frame_Get t = some (7, 0, [97, 98]) := by rw [p_fget (by omega), e1]
  have f3 : F_frame_All t = some (7, 0, [D.s [97, 98]]) := by rw [p_all (by omega), e2]; rfl
  have e3 : sumV [49, 50, 51, 52, 53, 54, 55, 56, 57] = 3808858755#32 := by decide +kernel
  have f4 : F_frame_Sum [49, 50, 51, 52, 53, 54, 55, 56, 57] = some 3808858755 := by rw [p_sum (by simp), e3]; rfl
  unfold F_tollbarlaw04_awake
  rw [if_pos (by decide), if_pos (by decide), l2, if_pos (by decide), f1]
  dsimp only
  rw [f2]
  dsimp only
  rw [f3]
  dsimp only
  rw [if_pos (by decide), if_pos (by decide), if_pos (by decide), if_pos (by decide), if_pos (by decide), if_pos (by decide), if_pos (by decide), if_pos (by decide), if_pos (by decide), l9, if_pos (by decide), f4]
  dsimp only
  rw [if_pos (by decide), if_pos (by decide), if_pos (by rw [pieq]; simp only [ofN, xlen, tl]; rfl), if_pos (by decide), if_pos (by decide), if_pos (by decide), if_pos (by decide), if_pos (by decide)]
  rfl
theorem tells_law {s : List UInt8} : F_tollbarlaw04_FrameTells s = some true := by
  have he : ∀ x : Int, ieq x x = true := fun x => by rw [pieq]
  unfold F_tollbarlaw04_FrameTells
  rw [p_wawake]
  dsimp only
  rw [if_pos rfl]
  by_cases hl : 9000 < s.length
  · rw [if_pos (by rw [pilt]; simp only [ofN, xlen]; omega)]
  · rw [if_neg (by rw [pilt]; simp only [ofN, xlen]; omega), p_fput (by omega), p_rfput (by omega), p_fget (by omega), p_rfget (by omega), p_sum (by omega), p_rsum (by omega)]
    generalize getF s = g
    obtain ⟨b, n, e⟩ := g
    by_cases h8 : 8192 < s.length
    · rw [if_pos h8, if_pos h8]
      dsimp only
      rw [if_pos (he _), if_pos (by rw [pseq]), if_pos (he _), if_pos (by rw [pseq]), if_pos (he _), he]
    · rw [if_neg h8, if_neg h8]
      dsimp only
      rw [if_pos (he _), if_pos (by rw [pseq]), if_pos (he _), if_pos (by rw [pseq]), if_pos (he _), he]
theorem p_FrameTells (s : List UInt8) (h1 : (Ty.bytes 5).rng (.s s)) : F_tollbarlaw04_FrameTells s = some true := tells_law
theorem alls_law {s : List UInt8} : F_tollbarlaw04_FrameAlls s = some true := by
  have he : ∀ x : Int, ieq x x = true := fun x => by rw [pieq]
  unfold F_tollbarlaw04_FrameAlls
  rw [p_wawake]
  dsimp only
  rw [if_pos rfl]
  by_cases hl : 2000 < s.length
  · rw [if_pos (by rw [pilt]; simp only [ofN, xlen]; omega)]
  · have hn : (allF s).1.length ≤ 1000000 := by have := allN_len s.length s; unfold allF; omega
    rw [if_neg (by rw [pilt]; simp only [ofN, xlen]; omega), p_all (by omega), p_rall (by omega)]
    dsimp only
    rw [p_texts hn]
    dsimp only
    rw [p_same hn]
    dsimp only
    rw [if_pos rfl, if_pos (he _), he]
theorem p_FrameAlls (s : List UInt8) (h1 : (Ty.bytes 5).rng (.s s)) : F_tollbarlaw04_FrameAlls s = some true := alls_law
end Go.Proofs.YtnkfginlmdenjaaDoor
end
section
/-
  Package frame in plain words: a record that is put is got; FrameBehind and FrameXors.
-/
set_option linter.unusedVariables false
set_option linter.unusedSimpArgs false
namespace Go.Proofs.YtnkfginlmdenjaaDoor

theorem recB_len (s : List UInt8) : (recB s).length = (putV s.length).length + s.length + 4 := by
  unfold recB headB
  rw [List.length_append, List.length_append, bigB_len]
theorem getF_rec {s t : List UInt8} (h : s.length ≤ 8192) : getF (recB s ++ t) = (s, ((recB s).length : Int), 0) := by
  have h10 := putV_10 (x := s.length) (by omega)
  have hb := bigB_len (sumV (headB s)).toNat 4
  have e : recB s ++ t = putV s.length ++ (s ++ (bigB (sumV (headB s)).toNat 4 ++ t)) := by
    unfold recB
    conv => lhs; lhs; lhs; unfold headB
    simp only [List.append_assoc]
  have hv : getV (recB s ++ t) = ((s.length : Int), ((putV s.length).length : Int), 0) := by rw [e]; exact getV_put (by omega) _
  have hl := recB_len s
  have e1 : (recB s ++ t).take ((putV s.length).length + s.length) = headB s := by
    rw [e, ← List.append_assoc]
    have : (putV s.length ++ s).length = (putV s.length).length + s.length := by rw [List.length_append]
    rw [← this, List.take_left]
    rfl
  have e2 : (recB s ++ t).drop ((putV s.length).length + s.length) = bigB (sumV (headB s)).toNat 4 ++ t := by
    rw [e, ← List.append_assoc]
    have : (putV s.length ++ s).length = (putV s.length).length + s.length := by rw [List.length_append]
    rw [← this, List.drop_left]
  have e3 : (recB s ++ t).drop (putV s.length).length = s ++ (bigB (sumV (headB s)).toNat 4 ++ t) := by rw [e, List.drop_left]
  unfold getF
  rw [hv]
  dsimp only
  simp only [Int.toNat_natCast]
  rw [if_neg (by simp), if_neg (by omega), if_neg (by rw [List.length_append]; omega), e1, e2, e3, if_neg ?_, List.take_left, hl]
  have : (bigB (sumV (headB s)).toNat 4 ++ t).take 4 = bigB (sumV (headB s)).toNat 4 := by
    have h4 := List.take_left (l₁ := bigB (sumV (headB s)).toNat 4) (l₂ := t)
    rwa [hb] at h4
  rw [this]
  simp
theorem rec_ne (s t : List UInt8) : recB s ++ t ≠ [] := by
  intro h
  have := congrArg List.length h
  rw [List.length_append, recB_len] at this
  simp at this
theorem allF_two {a b r : List UInt8} (ha : a.length ≤ 8192) (hb : b.length ≤ 8192) : ∃ (k : Nat) (l : List (List UInt8)) (e : Int), allF (recB a ++ (recB b ++ r)) = (a :: b :: l, (recB a).length + ((recB b).length + k), e) := by
  obtain ⟨m, hm⟩ : ∃ m, (recB a ++ (recB b ++ r)).length = m + 1 + 1 := by
    refine ⟨(recB a ++ (recB b ++ r)).length - 2, ?_⟩
    rw [List.length_append, List.length_append, recB_len, recB_len]
    omega
  unfold allF
  rw [hm, allN_ok (rec_ne _ _) (by rw [getF_rec ha]), getF_rec ha]
  dsimp only
  rw [Int.toNat_natCast, List.drop_left, allN_ok (rec_ne _ _) (by rw [getF_rec hb]), getF_rec hb]
  dsimp only
  rw [Int.toNat_natCast, List.drop_left]
  exact ⟨_, _, _, rfl⟩
theorem behind_law {a b r : List UInt8} : F_tollbarlaw04_FrameBehind a b r = some true := by
  have he : ∀ x : Int, ieq x x = true := fun x => by rw [pieq]
  unfold F_tollbarlaw04_FrameBehind
  rw [p_wawake]
  dsimp only
  rw [if_pos rfl]
  by_cases h1 : 300 < a.length
  · rw [if_pos (by rw [pilt]; simp only [ofN, xlen]; omega)]
  rw [if_neg (by rw [pilt]; simp only [ofN, xlen]; omega)]
  by_cases h2 : 300 < b.length
  · rw [if_pos (by rw [pilt]; simp only [ofN, xlen]; omega)]
  rw [if_neg (by rw [pilt]; simp only [ofN, xlen]; omega)]
  by_cases h3 : 300 < r.length
  · rw [if_pos (by rw [pilt]; simp only [ofN, xlen]; omega)]
  rw [if_neg (by rw [pilt]; simp only [ofN, xlen]; omega), p_fput (by omega), if_neg (by omega), p_fput (by omega), if_neg (by omega)]
  dsimp only
  have ha := recB_len a
  have hb := recB_len b
  have pa := putV_10 (x := a.length) (by omega)
  have pb := putV_10 (x := b.length) (by omega)
  have ec : cat (cat (recB a) (recB b)) r = recB a ++ (recB b ++ r) := by
    show recB a ++ recB b ++ r = _
    rw [List.append_assoc]
  have el : (recB a ++ (recB b ++ r)).length = (recB a).length + ((recB b).length + r.length) := by rw [List.length_append, List.length_append]
  have xl : (xlen (cat (recB a) (recB b))) = (recB a).length + (recB b).length := by show (recB a ++ recB b).length = _; rw [List.length_append]
  rw [if_pos (by simp only [xlen]; omega), if_pos (by simp only [xlen]; omega), xl, if_pos (by simp only [xlen]; omega), ec, p_fget (by omega), getF_rec (by omega)]
  dsimp only
  rw [if_pos (he _), if_pos (by rw [pieq]; rfl), if_pos (by rw [pseq]), if_pos (by simp only [ofN, xlen, el]; omega), rest_all (by omega), List.drop_left, p_fget (by rw [List.length_append]; omega), getF_rec (by omega)]
  dsimp only
  obtain ⟨k, l, e, hk⟩ := allF_two (a := a) (b := b) (r := r) (by omega) (by omega)
  have hall := p_all (s := recB a ++ (recB b ++ r)) (by omega)
  rw [hk] at hall
  rw [hall]
  dsimp only
  have ea : iadd .i64 ((recB a).length : Int) ((recB b).length : Int) = (((recB a).length + (recB b).length : Nat) : Int) := by simp only [iadd]; rw [pwi64 (by omega) (by omega)]; omega
  rw [if_pos (he _), if_pos (by rw [pieq]; rfl), if_pos (by rw [pseq]), if_pos (by rw [pile]; simp only [ofN, xlen, List.length_map, List.length_cons]; omega), ea]
  have : ile (((recB a).length + (recB b).length : Nat) : Int) (((recB a).length + ((recB b).length + k) : Nat) : Int) = true := by rw [pile]; omega
  rw [this]
theorem p_FrameBehind (a b r : List UInt8) (h1 : (Ty.bytes 5).rng (.s a)) (h2 : (Ty.bytes 5).rng (.s b)) (h3 : (Ty.bytes 5).rng (.s r)) : F_tollbarlaw04_FrameBehind a b r = some true := behind_law

/-! Sums of rows that are xored. -/
theorem ofNat_xor (p q : Nat) : BitVec.ofNat 32 (p ^^^ q) = BitVec.ofNat 32 p ^^^ BitVec.ofNat 32 q := by
  apply BitVec.eq_of_toNat_eq
  rw [BitVec.toNat_xor, BitVec.toNat_ofNat, BitVec.toNat_ofNat, BitVec.toNat_ofNat, Nat.xor_mod_two_pow]
theorem crcB_xor (x y : BitVec 32) (c d : UInt8) : crcB (x ^^^ y) (c ^^^ d) = crcB x c ^^^ crcB y d := by
  unfold crcB
  have e : x ^^^ y ^^^ BitVec.ofNat 32 (c ^^^ d).toNat = (x ^^^ BitVec.ofNat 32 c.toNat) ^^^ (y ^^^ BitVec.ofNat 32 d.toNat) := by
    rw [UInt8.toNat_xor, ofNat_xor]
    generalize BitVec.ofNat 32 c.toNat = p
    generalize BitVec.ofNat 32 d.toNat = q
    rw [BitVec.xor_assoc, BitVec.xor_assoc, ← BitVec.xor_assoc y p q, BitVec.xor_comm y p, BitVec.xor_assoc p y q]
  rw [e, step4_xor, step4_xor]
theorem crcs_cons (x : BitVec 32) (c : UInt8) (s : List UInt8) : crcs x (c :: s) = crcs (crcB x c) s := rfl
theorem crc3 (d : List UInt8) : ∀ (a b c : List UInt8) (x y z : BitVec 32), a.length = d.length → b.length = d.length → c.length = d.length →
    (∀ j, j < d.length → d.getD j 0 = a.getD j 0 ^^^ b.getD j 0 ^^^ c.getD j 0) → crcs (x ^^^ y ^^^ z) d = crcs x a ^^^ crcs y b ^^^ crcs z c := by
  induction d with
  | nil =>
    intro a b c x y z h1 h2 h3 h
    rw [List.length_eq_zero_iff.1 h1, List.length_eq_zero_iff.1 h2, List.length_eq_zero_iff.1 h3]
    rfl
  | cons s d ih =>
    intro a b c x y z h1 h2 h3 h
    cases a with
    | nil => simp at h1
    | cons p a =>
      cases b with
      | nil => simp at h2
      | cons q b =>
        cases c with
        | nil => simp at h3
        | cons r c =>
          have h0' : s = p ^^^ q ^^^ r := h 0 (by simp)
          rw [crcs_cons, crcs_cons, crcs_cons, crcs_cons, h0', crcB_xor, crcB_xor]
          exact ih a b c _ _ _ (by simpa using h1) (by simpa using h2) (by simpa using h3) (fun j hj => h (j + 1) (by simpa using hj))
theorem sum3 {a b c d : List UInt8} (h1 : a.length = d.length) (h2 : b.length = d.length) (h3 : c.length = d.length) (h : ∀ j, j < d.length → d.getD j 0 = a.getD j 0 ^^^ b.getD j 0 ^^^ c.getD j 0) :
    sumV d = sumV a ^^^ sumV b ^^^ sumV c := by
  have hc := crc3 d a b c 4294967295#32 4294967295#32 4294967295#32 h1 h2 h3 h
  have hf : 4294967295#32 ^^^ 4294967295#32 ^^^ 4294967295#32 = 4294967295#32 := by decide
  rw [hf] at hc
  unfold sumV
  rw [hc]
  generalize crcs 4294967295#32 a = p
  generalize crcs 4294967295#32 b = q
  generalize crcs 4294967295#32 c = r
  apply BitVec.eq_of_getLsbD_eq
  intro i hi
  simp only [BitVec.getLsbD_xor]
  cases (4294967295#32).getLsbD i <;> cases p.getLsbD i <;> cases q.getLsbD i <;> cases r.getLsbD i <;> rfl
theorem ixor8 (a b : UInt8) : ixor .u8 ((a.toNat : Nat) : Int) ((b.toNat : Nat) : Int) = (((a ^^^ b).toNat : Nat) : Int) := by
  show IntKind.u8.wrap (((BitVec.ofInt 8 ((a.toNat : Nat) : Int) ^^^ BitVec.ofInt 8 ((b.toNat : Nat) : Int)).toNat : Nat) : Int) = _
  have e : ∀ c : UInt8, BitVec.ofInt 8 ((c.toNat : Nat) : Int) = c.toBitVec := by
    intro c
    rw [show BitVec.ofInt 8 ((c.toNat : Nat) : Int) = BitVec.ofNat 8 c.toNat from BitVec.ofInt_natCast 8 _]
    apply BitVec.eq_of_toNat_eq
    rw [BitVec.toNat_ofNat, Nat.mod_eq_of_lt c.toNat_lt]
    rfl
  rw [e, e, ← UInt8.toBitVec_xor]
  have := (a ^^^ b).toNat_lt
  exact pu8 (by omega) (by omega)
theorem p_sum0 : F_frame_Sum [] = some 0 := by
  rw [p_sum (by simp)]
  have : sumV [] = 0#32 := by decide
  rw [this]
  rfl
theorem xors_law {a b c : List UInt8} : F_tollbarlaw04_FrameXors a b c = some true := by
  have he : ∀ x : Int, ieq x x = true := fun x => by rw [pieq]
  obtain ⟨n, hn⟩ : ∃ n, n = min (min a.length b.length) c.length := ⟨_, rfl⟩
  have em : imin (imin (ofN (xlen a)) (ofN (xlen b))) (ofN (xlen c)) = (n : Int) := by
    rw [pimin, pimin]
    simp only [ofN, xlen]
    omega
  unfold F_tollbarlaw04_FrameXors
  rw [p_wawake]
  dsimp only
  rw [if_pos rfl, em]
  by_cases hl : 500 < n
  · rw [if_pos (by rw [pilt]; omega)]
  have key : ∀ (m i : Nat) (s : List UInt8), i + m = n → s.length = n → (∀ j, j < i → s.getD j 0 = a.getD j 0 ^^^ b.getD j 0 ^^^ c.getD j 0) →
      iter (F_tollbarlaw04_FrameXors_L1 a b c) ((i : Int), s) = some true := by
    intro m
    induction m with
    | zero =>
      intro i s hi hs hj
      have hin : i = n := by omega
      subst hin
      have c0 : ∀ l : List UInt8, lsub l 0 (toN (i : Int)) = l.take i := fun l => rfl
      have tl : ∀ l : List UInt8, i ≤ l.length → (l.take i).length = i := fun l h => by rw [List.length_take]; omega
      have gt : ∀ (l : List UInt8) (j : Nat), j < i → (l.take i).getD j 0 = l.getD j 0 := fun l j h => by
        simp only [List.getD_eq_getElem?_getD, List.getElem?_take]
        rw [if_pos h]
      have la := tl a (by omega)
      have lb := tl b (by omega)
      have lc := tl c (by omega)
      have h3 := sum3 (a := a.take i) (b := b.take i) (c := c.take i) (d := s) (by omega) (by omega) (by omega) (fun j hj' => by rw [gt a j (by omega), gt b j (by omega), gt c j (by omega)]; exact hj j (by omega))
      apply iter_inr
      unfold F_tollbarlaw04_FrameXors_L1
      dsimp only
      rw [em, if_neg (by rw [pilt]; omega), p_sum (by omega)]
      dsimp only
      rw [if_pos (by simp only [ofN, xlen]; omega), c0, p_sum (by omega)]
      dsimp only
      rw [if_pos (by simp only [ofN, xlen]; omega), c0, p_sum (by omega)]
      dsimp only
      rw [if_pos (by simp only [ofN, xlen]; omega), c0, p_sum (by omega)]
      dsimp only
      rw [ixV, ixV, ← h3, if_pos (he _), p_sum0]
      dsimp only
      rw [he]
    | succ m ih =>
      intro i s hi hs hj
      have e3 : ixor .u8 (ixor .u8 (getB a (toN (i : Int))) (getB b (toN (i : Int)))) (getB c (toN (i : Int))) = (((a.getD i 0 ^^^ b.getD i 0 ^^^ c.getD i 0).toNat : Nat) : Int) := by
        show ixor .u8 (ixor .u8 (((a.getD i 0).toNat : Nat) : Int) (((b.getD i 0).toNat : Nat) : Int)) (((c.getD i 0).toNat : Nat) : Int) = _
        rw [ixor8, ixor8]
      have hv := (a.getD i 0 ^^^ b.getD i 0 ^^^ c.getD i 0).toNat_lt
      have es : setB s (toN (i : Int)) (((a.getD i 0 ^^^ b.getD i 0 ^^^ c.getD i 0).toNat : Nat) : Int) = s.set i (a.getD i 0 ^^^ b.getD i 0 ^^^ c.getD i 0) := by
        show s.set i (UInt8.ofNat _) = _
        simp
      rw [iter_inl (y := (((i + 1 : Nat) : Int), s.set i (a.getD i 0 ^^^ b.getD i 0 ^^^ c.getD i 0)))]
      · refine ih (i + 1) _ (by omega) (by rw [List.length_set]; exact hs) (fun j hj' => ?_)
        by_cases hji : j = i
        · subst hji
          simp only [List.getD_eq_getElem?_getD]
          rw [List.getElem?_set_self (by omega)]
          rfl
        · have := hj j (by omega)
          simp only [List.getD_eq_getElem?_getD] at this ⊢
          rw [List.getElem?_set_ne (by omega)]
          exact this
      · unfold F_tollbarlaw04_FrameXors_L1
        dsimp only
        rw [em, if_pos (by rw [pilt]; omega), if_pos (by simp only [ofN, xlen]; omega), if_pos (by simp only [ofN, xlen]; omega), if_pos (by simp only [ofN, xlen]; omega), if_pos (by simp only [ofN, xlen]; omega), e3, if_pos (by omega), es, pnext (by omega)]
  rw [if_neg (by rw [pilt]; omega), if_pos (by simp; omega)]
  exact key n 0 _ (by omega) (by simp [lrep, toN]) (fun j hj => absurd hj (by omega))
theorem p_FrameXors (a b r : List UInt8) (h1 : (Ty.bytes 5).rng (.s a)) (h2 : (Ty.bytes 5).rng (.s b)) (h3 : (Ty.bytes 5).rng (.s r)) : F_tollbarlaw04_FrameXors a b r = some true := xors_law
end Go.Proofs.YtnkfginlmdenjaaDoor
end
section
/-
  Package frame in plain words: FrameBack.
-/
set_option linter.unusedVariables false
set_option linter.unusedSimpArgs false
namespace Go.Proofs.YtnkfginlmdenjaaDoor

/-- Records one behind the other. -/
def recs : List (List UInt8) → List UInt8
  | [] => []
  | s :: l => recB s ++ recs l
theorem recs_app : ∀ a b : List (List UInt8), recs (a ++ b) = recs a ++ recs b
  | [], b => rfl
  | s :: a, b => by
    show recB s ++ recs (a ++ b) = recB s ++ recs a ++ recs b
    rw [recs_app a b, List.append_assoc]
theorem recs_take {l : List (List UInt8)} {i : Nat} (h : i < l.length) : recs (l.take (i + 1)) = recs (l.take i) ++ recB l[i] := by
  rw [List.take_succ_eq_append_getElem h, recs_app]
  show _ ++ (recB l[i] ++ []) = _
  rw [List.append_nil]
theorem recs_drop {l : List (List UInt8)} {i : Nat} (h : i < l.length) : recs l = recs (l.take i) ++ (recB l[i] ++ recs (l.drop (i + 1))) := by
  conv => lhs; rw [← List.take_append_drop i l, recs_app, List.drop_eq_getElem_cons h]
  rfl
theorem recs_len : ∀ l : List (List UInt8), (∀ s ∈ l, s.length ≤ 300) → l.length ≤ (recs l).length ∧ (recs l).length ≤ 400 * l.length
  | [], _ => by simp [recs]
  | s :: l, h => by
    have h1 := recs_len l (fun y hy => h y (by simp [hy]))
    have hs := h s (by simp)
    have h2 := putV_10 (x := s.length) (by omega)
    have h3 := recB_len s
    show (s :: l).length ≤ (recB s ++ recs l).length ∧ (recB s ++ recs l).length ≤ 400 * (s :: l).length
    rw [List.length_append, List.length_cons]
    omega
/-- A front of a record is none. -/
theorem getF_front {s : List UInt8} {c : Nat} (hs : s.length ≤ 8192) (hc : c < (recB s).length) : getF ((recB s).take c) = ([], 0, 10) := by
  have h10 := putV_10 (x := s.length) (by omega)
  have hl := recB_len s
  have e : recB s = putV s.length ++ (s ++ bigB (sumV (headB s)).toNat 4) := by
    unfold recB
    conv => lhs; lhs; unfold headB
    rw [List.append_assoc]
  have hlt : ((recB s).take c).length = c := by rw [List.length_take]; omega
  by_cases h : c < (putV s.length).length
  · have e1 : (recB s).take c = (putV s.length).take c := by rw [e, List.take_append_of_le_length (by omega)]
    have h1 := putV_ld s.length []
    rw [List.append_nil] at h1
    have h3 := ld_take (putV s.length) c
    have hv : getV ((recB s).take c) = (0, 0, 10) := by
      rw [e1] at hlt ⊢
      exact getV_short (by omega) (by omega)
    unfold getF
    rw [hv, if_pos (by simp)]
  · have e1 : (recB s).take c = putV s.length ++ (s ++ bigB (sumV (headB s)).toNat 4).take (c - (putV s.length).length) := by
      rw [e, List.take_append, List.take_of_length_le (by omega)]
    have hv : getV ((recB s).take c) = ((s.length : Int), ((putV s.length).length : Int), 0) := by rw [e1]; exact getV_put (by omega) _
    unfold getF
    rw [hv]
    dsimp only
    rw [Int.toNat_natCast, Int.toNat_natCast, if_neg (by simp), if_neg (by omega), hlt, if_pos (by omega)]
theorem allN_recs : ∀ (l : List (List UInt8)) (t : List UInt8) (m : Nat), (∀ s ∈ l, s.length ≤ 8192) → (recs l ++ t).length ≤ m → (t ≠ [] → getF t = ([], 0, 10)) → allN m (recs l ++ t) = (l, (recs l).length, if t = [] then 0 else 10)
  | [], t, m, _, hm, ht => by
    show allN m t = ([], 0, _)
    by_cases h : t = []
    · rw [h, allN_nil, if_pos rfl]
    · cases m with
      | zero =>
        have : t.length ≤ 0 := hm
        exact absurd (List.length_eq_zero_iff.1 (by omega)) h
      | succ m => rw [allN_err h (by rw [ht h]; simp), ht h, if_neg h]
  | s :: l, t, m, hl, hm, ht => by
    have e : recs (s :: l) ++ t = recB s ++ (recs l ++ t) := by
      show recB s ++ recs l ++ t = _
      rw [List.append_assoc]
    rw [e] at hm ⊢
    rw [List.length_append, recB_len] at hm
    have hs := hl s (by simp)
    cases m with
    | zero => omega
    | succ m =>
      rw [allN_ok (rec_ne _ _) (by rw [getF_rec hs]), getF_rec hs]
      dsimp only
      rw [Int.toNat_natCast, List.drop_left, allN_recs l t m (fun y hy => hl y (by simp [hy])) (by omega) ht]
      show (s :: l, (recB s).length + (recs l).length, _) = (s :: l, (recB s ++ recs l).length, _)
      rw [List.length_append]
def tx (r : List D) : List (List UInt8) := r.map D.toS
theorem p_textsD {r : List D} (hl : r.length ≤ 1000000) : F_tollbarlaw04_texts r = some ((tx r).map D.s) := by
  have key : ∀ m i : Nat, i + m = r.length → iter (F_tollbarlaw04_texts_L1 r) ((i : Int), ((tx r).take i).map D.s) = some ((tx r).map D.s) := by
    intro m
    induction m with
    | zero =>
      intro i hi
      apply iter_inr
      unfold F_tollbarlaw04_texts_L1
      dsimp only
      rw [if_neg (by rw [pilt]; simp only [ofN, xlen]; omega), List.take_of_length_le (by simp only [tx, List.length_map]; omega)]
    | succ m ih =>
      intro i hi
      have hlt : i < r.length := by omega
      have hlt' : i < (tx r).length := by simp only [tx, List.length_map]; omega
      rw [iter_inl (y := (((i + 1 : Nat) : Int), ((tx r).take (i + 1)).map D.s))]
      · exact ih (i + 1) (by omega)
      · have eg : D.toS (getD r (toN (i : Int))) = (tx r)[i] := by
          rw [ptoN, pgetD hlt]
          simp only [tx, List.getElem_map]
        unfold F_tollbarlaw04_texts_L1
        dsimp only
        rw [if_pos (by rw [pilt]; simp only [ofN, xlen]; omega), if_pos (by simp only [ofN, xlen]; omega), eg, if_pos (by simp only [xlen, List.length_map, List.length_take, List.length_cons, List.length_nil]; omega), pnext (by omega), List.take_succ_eq_append_getElem hlt', List.map_append]
        rfl
  exact key r.length 0 (by omega)
/-- What All tells of a front of records. -/
theorem all_front {l : List (List UInt8)} (hl : ∀ s ∈ l, s.length ≤ 300) (hn : l.length ≤ 20) {i k : Nat} (hi : i ≤ l.length) (h1 : (recs (l.take i)).length ≤ k) (h2 : k ≤ (recs l).length) (h3 : ∀ h : i < l.length, k < (recs (l.take (i + 1))).length) :
    F_frame_All ((recs l).take k) = some (((recs (l.take i)).length : Int), (if k = (recs (l.take i)).length then 0 else 10), (l.take i).map D.s) := by
  have hlen := recs_len l hl
  have hlt : ((recs l).take k).length = k := by rw [List.length_take]; omega
  have h8 : ∀ s ∈ l.take i, s.length ≤ 8192 := fun s hs => by have := hl s (List.mem_of_mem_take hs); omega
  rw [p_all (by omega)]
  by_cases hil : i < l.length
  · have e := recs_drop hil
    have h3' := h3 hil
    rw [recs_take hil, List.length_append] at h3'
    have ht : (recs l).take k = recs (l.take i) ++ (recB l[i]).take (k - (recs (l.take i)).length) := by
      rw [e, List.take_append, List.take_of_length_le h1, List.take_append_of_le_length (by omega)]
    have hs := hl _ (List.getElem_mem hil)
    have hf : (recB l[i]).take (k - (recs (l.take i)).length) = [] ↔ k = (recs (l.take i)).length := by
      rw [← List.length_eq_zero_iff, List.length_take]
      omega
    have hall : allF ((recs l).take k) = (l.take i, (recs (l.take i)).length, if (recB l[i]).take (k - (recs (l.take i)).length) = [] then 0 else 10) := by
      unfold allF
      rw [hlt, ht]
      exact allN_recs _ _ _ h8 (by rw [← ht]; omega) (fun _ => getF_front (by omega) (by omega))
    rw [hall]
    dsimp only
    simp only [hf]
  · have hil' : l.take i = l := List.take_of_length_le (by omega)
    rw [hil'] at h1 h8 ⊢
    have hk : k = (recs l).length := by omega
    have ht : (recs l).take k = recs l ++ [] := by rw [hk, List.take_length, List.append_nil]
    have hall : allF ((recs l).take k) = (l, (recs l).length, 0) := by
      unfold allF
      rw [hlt, ht]
      have h9 := allN_recs l [] k h8 (by rw [List.append_nil]; omega) (fun h => absurd rfl h)
      rw [if_pos rfl] at h9
      exact h9
    rw [hall, if_pos hk]
def endsL (l : List (List UInt8)) (i : Nat) : List Int := (List.range i).map fun j => ((recs (l.take (j + 1))).length : Int)
theorem endsL_len (l : List (List UInt8)) (i : Nat) : (endsL l i).length = i := by simp [endsL]
theorem endsL_get {l : List (List UInt8)} {n i : Nat} (h : i < n) : getI (endsL l n) (toN (i : Int)) = ((recs (l.take (i + 1))).length : Int) := by
  rw [ptoN, pgetI (by rw [endsL_len]; exact h)]
  simp [endsL]
theorem back_L2 {r : List D} {x k : Nat} (hl : ∀ s ∈ tx r, s.length ≤ 300) (hn : (tx r).length ≤ 20) (hk : irem (iconv .i64 (x : Int)) (iadd .i64 (ofN (xlen (recs (tx r)))) 1) = (k : Int)) (hk2 : k ≤ (recs (tx r)).length) :
    ∀ m i : Nat, i + m = (tx r).length → (recs ((tx r).take i)).length ≤ k → iter (F_tollbarlaw04_FrameBack_L2 (endsL (tx r) (tx r).length) (x : Int) (recs (tx r)) r) ((i : Int), ((recs ((tx r).take i)).length : Int), (i : Int)) = some true := by
  have he : ∀ x : Int, ieq x x = true := fun x => by rw [pieq]
  have hlen := recs_len (tx r) hl
  have hrl : (tx r).length = r.length := by simp [tx]
  have xl : ofN (xlen (endsL (tx r) (tx r).length)) = ((tx r).length : Int) := by simp only [ofN, xlen, endsL_len]
  have xs : ofN (xlen (recs (tx r))) = ((recs (tx r)).length : Int) := rfl
  have xr : ofN (xlen r) = (r.length : Int) := rfl
  have c1 : lsub (recs (tx r)) 0 (toN (k : Int)) = (recs (tx r)).take k := rfl
  have tak : ∀ i : Nat, i ≤ (tx r).length → F_tollbarlaw04_texts (lsub r 0 (toN (i : Int))) = some (((tx r).take i).map D.s) := by
    intro i hi
    have e : lsub r 0 (toN (i : Int)) = r.take i := rfl
    have e2 : tx (r.take i) = (tx r).take i := by simp only [tx, List.map_take]
    rw [e, p_textsD (by rw [List.length_take]; omega), e2]
  have fin : ∀ (i : Nat) (q : Int × Int × List D), (∀ h : i < (tx r).length, k < (recs ((tx r).take (i + 1))).length) → i ≤ (tx r).length → (recs ((tx r).take i)).length ≤ k →
      F_frame_All ((recs (tx r)).take k) = some (((recs ((tx r).take i)).length : Int), (if k = (recs ((tx r).take i)).length then 0 else 10), ((tx r).take i).map D.s) := fun i _ h3 h4 h5 => all_front hl hn h4 h5 hk2 h3
  have bq : ∀ i : Nat, beq2 (ieq (if k = (recs ((tx r).take i)).length then (0 : Int) else 10) 0) (ieq ((recs ((tx r).take i)).length : Int) (k : Int)) = true := by
    intro i
    by_cases h : k = (recs ((tx r).take i)).length
    · rw [if_pos h, ← h, he, he]
      rfl
    · have h1 : ieq ((recs ((tx r).take i)).length : Int) (k : Int) = false := by rw [Bool.eq_false_iff, Ne, pieq]; omega
      have h2 : ieq (10 : Int) 0 = false := by rw [Bool.eq_false_iff, Ne, pieq]; omega
      rw [if_neg h, h1, h2]
      rfl
  have ln : ∀ i : Nat, i ≤ (tx r).length → ((tx r).take i).length ≤ 1000000 := fun i hi => by rw [List.length_take]; omega
  intro m
  induction m with
  | zero =>
    intro i hi h1
    have hall := fin i (0, 0, []) (fun h => by omega) (by omega) h1
    have hb := bq i
    apply iter_inr
    unfold F_tollbarlaw04_FrameBack_L2
    dsimp only
    rw [xl, hk, xs, xr, if_neg (by rw [pilt]; omega), if_pos (by omega), c1, hall]
    dsimp only
    rw [p_texts (ln i (by omega))]
    dsimp only
    rw [if_pos (by omega), tak i (by omega)]
    dsimp only
    rw [p_same (ln i (by omega))]
    dsimp only
    rw [if_pos rfl, if_pos (he _), if_pos hb]
    by_cases h : k = (recs ((tx r).take i)).length
    · rw [if_pos h, if_pos (he _)]
    · rw [if_neg h, if_neg (by rw [pieq]; omega), he]
  | succ m ih =>
    intro i hi h1
    have hlt : i < (tx r).length := by omega
    have eg := endsL_get (l := tx r) hlt
    by_cases hle : (recs ((tx r).take (i + 1))).length ≤ k
    · rw [iter_inl (y := (((i + 1 : Nat) : Int), ((recs ((tx r).take (i + 1))).length : Int), ((i + 1 : Nat) : Int)))]
      · exact ih (i + 1) (by omega) hle
      · unfold F_tollbarlaw04_FrameBack_L2
        dsimp only
        rw [xl, hk, eg, if_pos (by rw [pilt]; omega), if_pos (by omega), if_pos (by rw [pile]; omega), if_pos (by omega), pnext (by omega)]
    · have hall := fin i (0, 0, []) (fun _ => by omega) (by omega) h1
      have hb := bq i
      apply iter_inr
      unfold F_tollbarlaw04_FrameBack_L2
      dsimp only
      rw [xl, hk, eg, xs, xr, if_pos (by rw [pilt]; omega), if_pos (by omega), if_neg (by rw [pile]; omega), if_pos (by omega), c1, hall]
      dsimp only
      rw [p_texts (ln i (by omega))]
      dsimp only
      rw [if_pos (by omega), tak i (by omega)]
      dsimp only
      rw [p_same (ln i (by omega))]
      dsimp only
      rw [if_pos rfl, if_pos (he _), if_pos hb]
      by_cases h : k = (recs ((tx r).take i)).length
      · rw [if_pos h, if_pos (he _)]
      · rw [if_neg h, if_neg (by rw [pieq]; omega), he]
theorem back_L1 {r : List D} {x : Nat} (hx : x < 65536) (hn : (tx r).length ≤ 20) : ∀ m i : Nat, i + m = (tx r).length → (∀ s ∈ (tx r).take i, s.length ≤ 300) →
    iter (F_tollbarlaw04_FrameBack_L1 r (x : Int)) ((i : Int), recs ((tx r).take i), endsL (tx r) i) = some true := by
  have he : ∀ x : Int, ieq x x = true := fun x => by rw [pieq]
  have hrl : (tx r).length = r.length := by simp [tx]
  have xr : ofN (xlen r) = (r.length : Int) := rfl
  intro m
  induction m with
  | zero =>
    intro i hi hs
    have ht : (tx r).take i = tx r := List.take_of_length_le (by omega)
    have hin : i = (tx r).length := by omega
    rw [ht] at hs
    rw [ht, hin]
    have hlen := recs_len (tx r) hs
    have xs : ofN (xlen (recs (tx r))) = ((recs (tx r)).length : Int) := rfl
    have hall : F_frame_All (recs (tx r)) = some (((recs (tx r)).length : Int), 0, (tx r).map D.s) := by
      have h := all_front (l := tx r) hs hn (i := (tx r).length) (k := (recs (tx r)).length) (Nat.le_refl _) (by rw [List.take_length]; exact Nat.le_refl _) (Nat.le_refl _) (fun h => absurd h (Nat.lt_irrefl _))
      rw [List.take_length, List.take_length, if_pos rfl] at h
      exact h
    have hm : x % ((recs (tx r)).length + 1) < (recs (tx r)).length + 1 := Nat.mod_lt _ (by omega)
    have e1 : iadd .i64 ((recs (tx r)).length : Int) 1 = (((recs (tx r)).length + 1 : Nat) : Int) := pnext (by omega)
    have hk : irem (iconv .i64 (x : Int)) (iadd .i64 (ofN (xlen (recs (tx r)))) 1) = ((x % ((recs (tx r)).length + 1) : Nat) : Int) := by
      rw [xs, e1]
      simp only [iconv, irem]
      rw [pwi64 (by omega) (by omega), Int.tmod_eq_emod_of_nonneg (by omega)]
      exact (Int.natCast_emod _ _).symm
    have h2 := back_L2 hs hn hk (by omega) (tx r).length 0 (by omega) (by simp [recs])
    have h2' : iter (F_tollbarlaw04_FrameBack_L2 (endsL (tx r) (tx r).length) (x : Int) (recs (tx r)) r) (0, 0, 0) = some true := h2
    apply iter_inr
    unfold F_tollbarlaw04_FrameBack_L1
    dsimp only
    rw [xr, if_neg (by rw [pilt]; omega), hall]
    dsimp only
    rw [p_texts (by omega)]
    dsimp only
    rw [p_textsD (by omega)]
    dsimp only
    rw [p_same (by omega)]
    dsimp only
    rw [if_pos rfl, if_pos (by rw [pieq, xs]), if_pos (he _), if_pos (by rw [xs, e1]; omega), h2']
    rfl
  | succ m ih =>
    intro i hi hs
    have hlt : i < (tx r).length := by omega
    have eg : D.toS (getD r (toN (i : Int))) = (tx r)[i] := by
      rw [ptoN, pgetD (by omega)]
      simp only [tx, List.getElem_map]
    have xq : ofN (xlen (tx r)[i]) = ((tx r)[i].length : Int) := rfl
    have b2 : ∀ c d : Bool, c = d → beq2 c d = true := fun c d h => by subst h; cases c <;> rfl
    by_cases hbig : 8192 < (tx r)[i].length
    · have hp : F_frame_Put (tx r)[i] = some (14, []) := by
        unfold F_frame_Put
        rw [if_pos (by rw [pilt, xq]; omega)]
      apply iter_inr
      unfold F_tollbarlaw04_FrameBack_L1
      dsimp only
      rw [xr, eg, if_pos (by rw [pilt]; omega), if_pos (by omega), hp]
      dsimp only
      have h1 : ieq (14 : Int) 0 = false := by rw [Bool.eq_false_iff, Ne, pieq]; omega
      have h2 : ile (ofN (xlen (tx r)[i])) 8192 = false := by rw [Bool.eq_false_iff, Ne, pile, xq]; omega
      rw [if_pos (by omega), if_pos (b2 _ _ (by rw [h1, h2])), if_pos (by omega), if_pos (by rw [pilt, xq]; omega)]
    · have hp : F_frame_Put (tx r)[i] = some (0, recB (tx r)[i]) := by rw [p_fput (by omega), if_neg hbig]
      have h1 : ieq (0 : Int) 0 = true := he _
      have h2 : ile (ofN (xlen (tx r)[i])) 8192 = true := by rw [pile, xq]; omega
      by_cases h3 : 300 < (tx r)[i].length
      · apply iter_inr
        unfold F_tollbarlaw04_FrameBack_L1
        dsimp only
        rw [xr, eg, if_pos (by rw [pilt]; omega), if_pos (by omega), hp]
        dsimp only
        rw [if_pos (by omega), if_pos (b2 _ _ (by rw [h1, h2])), if_pos (by omega), if_pos (by rw [pilt, xq]; omega)]
      · have hs' : ∀ s ∈ (tx r).take (i + 1), s.length ≤ 300 := by
          intro s h
          rw [List.take_succ_eq_append_getElem hlt] at h
          rcases List.mem_append.1 h with h | h
          · exact hs s h
          · rw [List.mem_singleton.1 h]; omega
        have hl1 := recs_len _ hs
        rw [List.length_take] at hl1
        have hrb := recB_len (tx r)[i]
        have h10 := putV_10 (x := (tx r)[i].length) (by omega)
        have ec : cat (recs ((tx r).take i)) (recB (tx r)[i]) = recs ((tx r).take (i + 1)) := (recs_take hlt).symm
        have ee : cat (endsL (tx r) i) [ofN (xlen (recs ((tx r).take (i + 1))))] = endsL (tx r) (i + 1) := by
          unfold endsL
          rw [List.range_succ, List.map_append]
          rfl
        have xe : xlen (endsL (tx r) i) = i := endsL_len _ _
        rw [iter_inl (y := (((i + 1 : Nat) : Int), recs ((tx r).take (i + 1)), endsL (tx r) (i + 1)))]
        · exact ih (i + 1) (by omega) hs'
        · unfold F_tollbarlaw04_FrameBack_L1
          dsimp only
          rw [xr, eg, if_pos (by rw [pilt]; omega), if_pos (by omega), hp]
          dsimp only
          rw [if_pos (by omega), if_pos (b2 _ _ (by rw [h1, h2])), if_pos (by omega), if_neg (by rw [pilt, xq]; omega), if_pos (by simp only [xlen]; omega), ec, xe, if_pos (by simp only [xlen, List.length_cons, List.length_nil]; omega), ee, pnext (by omega)]
theorem fback_law {r : List D} {x : Int} (hx : 0 ≤ x ∧ x < 65536) : F_tollbarlaw04_FrameBack r x = some true := by
  obtain ⟨x, rfl⟩ := Int.eq_ofNat_of_zero_le hx.1
  have hrl : (tx r).length = r.length := by simp [tx]
  unfold F_tollbarlaw04_FrameBack
  rw [p_wawake]
  dsimp only
  rw [if_pos rfl]
  by_cases hl : 20 < r.length
  · rw [if_pos (by rw [pilt]; simp only [ofN, xlen]; omega)]
  rw [if_neg (by rw [pilt]; simp only [ofN, xlen]; omega)]
  exact back_L1 (by omega) (by omega) (tx r).length 0 (by omega) (fun s h => by simp at h)
theorem p_FrameBack (r : List D) (x : Int) (h1 : (Ty.row 22 (.bytes 5)).rng (.l r)) (h2 : (Lit.int .u16 x).wf = true) : F_tollbarlaw04_FrameBack r x = some true := fback_law (wf_u16 h2)
end Go.Proofs.YtnkfginlmdenjaaDoor
end
section
/-
  The table `half` of package frame, as the row lays it: what it holds, where it stands.
-/
set_option linter.unusedVariables false
set_option linter.unusedSimpArgs false
namespace Go.Proofs.YtnkfginlmdenjaaDoor
open Go.ChangeShapes Go.WideShapes Go.ChangeAt Go.WideMaps Go.WideElems Go.RowKit

def laidL : List (String × DataW Unit) := [("tollbar/frame.half", Rows.laid_tollbar_frame_half)]
def halfL : List Int := [0, 274646895, 549293790, 820201905, 1098587580, 1361435347, 1640403810, 1905808397, 2197175160, 2460548119, 2722870694, 2987750089, 3280807620, 3553878443, 3811616794, 4084100981]
theorem gHalf : Tryd.prog.globalNamed "tollbar/frame.half" = some 0 := by kernel_rfl
theorem tHalf : (Tryd.prog.globals[0]?).map (·.type) = some 61 := by kernel_rfl
theorem laid_is : (Rows.laid_tollbar_frame_half : DataW Unit) = .agg (halfL.map fun k => .lit (.int .u32 k)) := rfl
theorem laid_cells {W : World} (h : laidMetH Tryd.prog laidL W) : ∀ i, i < 16 → W.cell? ⟨0, i, none⟩ = some (.int .u32 (halfL.getD i 0)) := by
  rw [MakeChecks.laidMetH_plain _ _ _ (by kernel_rfl)] at h
  obtain ⟨ps, ⟨g0, t0, cs0, f0, p0, q0, hg0, ht0, hv0, hd0, _, _⟩, _, _⟩ := h
  obtain rfl := Option.some.inj (gHalf.symm.trans hg0)
  obtain rfl := Option.some.inj (tHalf.symm.trans ht0)
  obtain ⟨xs, m1, rfl, hx1, hlen, hn3, hel⟩ := DataW.trod_array Tryd.underlying61 hd0
  have c3 : Tryd.prog.cellsOf 33 = 1 := by kernel_rfl
  simp only [Prod.mk.injEq] at hx1
  obtain ⟨hx1, _⟩ := hx1
  rw [laid_is] at hx1
  simp only [DataW.agg.injEq] at hx1
  intro i hi
  have h0 := hel i hi
  have hxi : i < xs.length := by omega
  rw [List.getElem?_eq_getElem hxi] at h0
  obtain ⟨k, e1, e2, _⟩ := DataW.trod_int Tryd.underlying33 h0
  have hk := congrArg (fun l => l[i]?) hx1
  have hil : i < halfL.length := hi
  simp only [List.getElem?_map, List.getElem?_eq_getElem hxi, List.getElem?_eq_getElem hil, Option.map_some, Option.some.injEq, e2, DataW.lit.injEq, Lit.int.injEq, true_and] at hk
  have := World.var?_cell hg0 hv0 i
  rw [this]
  rw [c3] at e1
  have e3 : cs0.toList[i]? = some (.int .u32 k) := by
    have := congrArg (fun l => l[0]?) e1
    simpa [List.getElem?_take, List.getElem?_drop] using this
  have e4 : cs0[i]? = some (.int .u32 k) := by simpa using e3
  rw [e4, ← hk]
  simp [hil]
theorem laid_den {W : World} (h : laidMetH Tryd.prog laidL W) : ∀ g r, (g, r) ∈ globs → Den (fun _ => none) W (fun _ => False) (.rsl r) (.slice (some ⟨g, 0, none⟩) (rlen r) (rlen r)) := by
  intro g r hg
  have hc := laid_cells h
  have e : (g, r) = (0, R.ints 33 .u32 halfL) := List.mem_singleton.1 hg
  injection e with e1 e2
  subst e1
  subst e2
  refine .rsl (.ints 33 .u32 halfL) _ _ (fun i j => .int .u32 (halfL.getD i 0)) (Nat.le_refl _) (fun _ => ⟨_, rfl, ?_, fun h => h⟩) ?_ ?_
  · have h0 := hc 0 (by omega)
    unfold World.cell? at h0
    cases hb : W.heap[0]? with
    | none => rw [hb] at h0; cases h0
    | some o => exact (Array.getElem?_eq_some_iff.1 hb).1
  · intro i j ad e1 hi hj
    injection e1 with e1
    subst e1
    simp only [R.sz] at hj ⊢
    obtain rfl : j = 0 := by omega
    simp only [Nat.mul_one, add_zero', add_lit', Nat.zero_add]
    exact ⟨hc i hi, rfl⟩
  · intro i j hi hj
    simp only [R.elem, List.length_singleton] at hj
    obtain rfl : j = 0 := by omega
    simp only [R.elem, List.getElem_cons_zero, lock_eq, getI]
    exact .v _
end Go.Proofs.YtnkfginlmdenjaaDoor
end
