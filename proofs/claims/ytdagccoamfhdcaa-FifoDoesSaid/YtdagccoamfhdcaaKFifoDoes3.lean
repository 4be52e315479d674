/-
  Texts that the row of this claim stands on, one behind the other.
-/
import Derived.Test.YtdagccoamfhdcaaProg
import Derived.Below
import Derived.WalkLawsBesides
import Derived.WalkSpells
import Derived.Outline
import Derived.IntWalk
import Derived.Test.YtdagccoamfhdcaaKFifoDoes1
import Derived.Test.YtdagccoamfhdcaaKFifoDoes2
section
/-
  A walk that reckons, told by plain functions.
-/
set_option linter.unusedVariables false
set_option linter.unusedSimpArgs false
namespace Go.Proofs.Ytdagccoamfhdcaa
open Go.RowKit

def altC (x y : Option CEff) : Option CEff := match x with | some e => some e | none => y
theorem altC_inv {x y : Option CEff} {e : CEff} (h : altC x y = some e) : x = some e ∨ y = some e := by
  cases x with
  | none => exact .inr h
  | some a => exact .inl h
/-- A loop whose rounds are told by a plain function. -/
theorem LoopOK.iter {P : Program} {C : Ctx} {Γ : FuncId → Option Con} (T : Tab P Γ) (hD : DrawOK P C Γ) {c : IC} {s : St} {K : Ex → St → Prop} {X T' : Type} {B : X → Option (X ⊕ T')} {x0 : X} {t : T'} (h : iter B x0 = some t) (inv : X → St) (h0 : ∀ x1, x0 = x1 → Le C s (inv x1))
    (hr : ∀ x b, B x = some b → (∀ t', b = .inr t' → t' = t) → Hidden (vc Γ (LoopOK P C Γ) c (inv x) (fun e s' => match e with | .nxt => (∃ x', b = .inl x') ∧ ∀ x', b = .inl x' → Le C s' (inv x') | .ret => K .ret s' | .exit id => K (.exit id) s'))) : LoopOK P C Γ c s K where
  out := by
    intro code PL a w Q hc hs hQ
    obtain ⟨n, hn⟩ := iter_some.1 h
    obtain ⟨PL0, h1⟩ := h0 x0 rfl PL a w hs
    refine wp_loop_ghost (fun n a w => ∃ x PL, stepsN B n x = some t ∧ SatN C PL (inv x) a w) n ⟨x0, PL0, hn, h1⟩ ?_
    rintro n a w ⟨x, PL, hm, hx⟩
    cases n with
    | zero => cases hm
    | succ m =>
      simp only [stepsN] at hm
      cases hB : B x with
      | none => rw [hB] at hm; cases hm
      | some b =>
        rw [hB] at hm
        refine vc_sound T hD code c (inv x) _ PL a w _ hc ((hr x b hB (by
          intro t' e
          subst e
          simp only [] at hm
          exact Option.some.inj hm)).out) hx ?_
        intro e s' PL' a' w' hK hS
        cases e with
        | nxt =>
          obtain ⟨⟨x', rfl⟩, hle⟩ := hK
          obtain ⟨PL2, h2⟩ := hle x' rfl PL' a' w' hS
          exact ⟨m, by omega, x', PL2, hm, h2⟩
        | ret => exact hQ .ret s' PL' a' w' hK hS
        | exit id => exact hQ (.exit id) s' PL' a' w' hK hS
end Go.Proofs.Ytdagccoamfhdcaa
end
section
/-
  What the functions do, told plainly (printed by a program of ours).
-/
set_option linter.unusedVariables false
set_option linter.unusedSimpArgs false
namespace Go.Proofs.Ytdagccoamfhdcaa

noncomputable def growP (n : Int) : Option (Unit ⊕ Unit) := if n < 0 then none else if n = 0 then some (.inl ()) else if n * ((24 : Nat) : Int) ≤ 140737488355328 then some (.inr ()) else none

noncomputable def F_fifo_New (x1 : Int) : Option (Unit) :=
  some ()

noncomputable def F_fifo_Queue_grow (x1 : Int) (x2 : Int) (x3 : Int) : Option ((List D)) :=
  if 0 ≤ (imax (4 : Int) (imul .i64 (2 : Int) (ofN 0))) ∧ (imax (4 : Int) (imul .i64 (2 : Int) (ofN 0))) ≤ (imax (4 : Int) (imul .i64 (2 : Int) (ofN 0))) ∧ (imax (4 : Int) (imul .i64 (2 : Int) (ofN 0))) * ((24 : Nat) : Int) ≤ 140737488355328 ∧ (imax (4 : Int) (imul .i64 (2 : Int) (ofN 0))) ≤ 9223372036854775807 then
    if x2 = 0 then
      if 0 ≤ (0 : Int) ∧ (0 : Int) ≤ (ofN (xlen (@lrep D (toN (imax (4 : Int) (imul .i64 (2 : Int) (ofN 0)))) (D.l [(D.i (0 : Int)), (D.i (0 : Int)), (D.i (0 : Int))])))) then
        if x2 = 0 then
          some (@lrep D (toN (imax (4 : Int) (imul .i64 (2 : Int) (ofN 0)))) (D.l [(D.i (0 : Int)), (D.i (0 : Int)), (D.i (0 : Int))]))
        else none
      else none
    else none
  else none

noncomputable def F_fifo_Queue_at (x1 : Int) (x2 : Int) (x3 : Int) (x4 : Int) (r1 : List D) : Option (Int) :=
  if (ofN (xlen r1)) ≠ 0 then
    some (irem (iadd .i64 x3 x1) (ofN (xlen r1)))
  else none

noncomputable def F_fifo_Queue_put (x1 : Int) (x2 : Int) (x3 : Int) (x4 : Int) (x5 : Int) (x6 : Int) : Option (Int × (List D)) :=
  if (ieq x6 (ofN 0)) = true then
    match F_fifo_Queue_grow x4 x5 x6 with
    | none => none
    | some q1 =>
      match F_fifo_Queue_at x6 x4 (0 : Int) x6 q1 with
      | none => none
      | some y1 =>
        if 0 ≤ y1 ∧ y1 < (ofN (xlen q1)) then
          some ((iadd .i64 x6 (1 : Int)), (setD q1 (toN y1) (D.l [(D.i x1), (D.i x2), (D.i x3)])))
        else none
  else
    none

noncomputable def F_fifo_Queue_Push (x1 : Int) (x2 : Int) (x3 : Int) (x4 : Int) (x5 : Int) (x6 : Int) : Option (Bool × Int × Int × (List D)) :=
  if (ile x4 x6) = true then
    some (false, x5, x6, ([] : List D))
  else
    match F_fifo_Queue_put x1 x2 x3 x4 x5 x6 with
    | none => none
    | some (y1, q1) =>
      some (true, (0 : Int), y1, q1)

noncomputable def F_fifo_Queue_grow_2 (x1 : Int) (x2 : Int) (x3 : Int) (r1 : List D) : Option ((List D)) :=
  if 0 ≤ (imax (4 : Int) (imul .i64 (2 : Int) (ofN (xlen r1)))) ∧ (imax (4 : Int) (imul .i64 (2 : Int) (ofN (xlen r1)))) ≤ (imax (4 : Int) (imul .i64 (2 : Int) (ofN (xlen r1)))) ∧ (imax (4 : Int) (imul .i64 (2 : Int) (ofN (xlen r1)))) * ((24 : Nat) : Int) ≤ 140737488355328 ∧ (imax (4 : Int) (imul .i64 (2 : Int) (ofN (xlen r1)))) ≤ 9223372036854775807 then
    if 0 ≤ x2 ∧ x2 ≤ (ofN (xlen r1)) then
      if 0 ≤ (ofN (nmin (xlen (@lrep D (toN (imax (4 : Int) (imul .i64 (2 : Int) (ofN (xlen r1))))) (D.l [(D.i (0 : Int)), (D.i (0 : Int)), (D.i (0 : Int))]))) (xlen (lsub r1 (toN x2) (ndec (xlen r1) (toN x2)))))) ∧ (ofN (nmin (xlen (@lrep D (toN (imax (4 : Int) (imul .i64 (2 : Int) (ofN (xlen r1))))) (D.l [(D.i (0 : Int)), (D.i (0 : Int)), (D.i (0 : Int))]))) (xlen (lsub r1 (toN x2) (ndec (xlen r1) (toN x2)))))) ≤ (ofN (xlen (lspl (@lrep D (toN (imax (4 : Int) (imul .i64 (2 : Int) (ofN (xlen r1))))) (D.l [(D.i (0 : Int)), (D.i (0 : Int)), (D.i (0 : Int))])) 0 (lsub (lsub r1 (toN x2) (ndec (xlen r1) (toN x2))) 0 (nmin (xlen (@lrep D (toN (imax (4 : Int) (imul .i64 (2 : Int) (ofN (xlen r1))))) (D.l [(D.i (0 : Int)), (D.i (0 : Int)), (D.i (0 : Int))]))) (xlen (lsub r1 (toN x2) (ndec (xlen r1) (toN x2))))))))) then
        if 0 ≤ x2 ∧ x2 ≤ (ofN (xlen r1)) then
          some (lspl (lspl (@lrep D (toN (imax (4 : Int) (imul .i64 (2 : Int) (ofN (xlen r1))))) (D.l [(D.i (0 : Int)), (D.i (0 : Int)), (D.i (0 : Int))])) 0 (lsub (lsub r1 (toN x2) (ndec (xlen r1) (toN x2))) 0 (nmin (xlen (@lrep D (toN (imax (4 : Int) (imul .i64 (2 : Int) (ofN (xlen r1))))) (D.l [(D.i (0 : Int)), (D.i (0 : Int)), (D.i (0 : Int))]))) (xlen (lsub r1 (toN x2) (ndec (xlen r1) (toN x2))))))) (toN (ofN (nmin (xlen (@lrep D (toN (imax (4 : Int) (imul .i64 (2 : Int) (ofN (xlen r1))))) (D.l [(D.i (0 : Int)), (D.i (0 : Int)), (D.i (0 : Int))]))) (xlen (lsub r1 (toN x2) (ndec (xlen r1) (toN x2))))))) (lsub (lsub r1 0 (toN x2)) 0 (nmin (ndec (xlen (lspl (@lrep D (toN (imax (4 : Int) (imul .i64 (2 : Int) (ofN (xlen r1))))) (D.l [(D.i (0 : Int)), (D.i (0 : Int)), (D.i (0 : Int))])) 0 (lsub (lsub r1 (toN x2) (ndec (xlen r1) (toN x2))) 0 (nmin (xlen (@lrep D (toN (imax (4 : Int) (imul .i64 (2 : Int) (ofN (xlen r1))))) (D.l [(D.i (0 : Int)), (D.i (0 : Int)), (D.i (0 : Int))]))) (xlen (lsub r1 (toN x2) (ndec (xlen r1) (toN x2)))))))) (toN (ofN (nmin (xlen (@lrep D (toN (imax (4 : Int) (imul .i64 (2 : Int) (ofN (xlen r1))))) (D.l [(D.i (0 : Int)), (D.i (0 : Int)), (D.i (0 : Int))]))) (xlen (lsub r1 (toN x2) (ndec (xlen r1) (toN x2)))))))) (xlen (lsub r1 0 (toN x2))))))
        else none
      else none
    else none
  else none

noncomputable def F_fifo_Queue_put_2 (x1 : Int) (x2 : Int) (x3 : Int) (x4 : Int) (x5 : Int) (x6 : Int) (r1 : List D) : Option (Int × Int × (List D)) :=
  if (ieq x6 (ofN (xlen r1))) = true then
    match F_fifo_Queue_grow_2 x4 x5 x6 r1 with
    | none => none
    | some q1 =>
      match F_fifo_Queue_at x6 x4 (0 : Int) x6 q1 with
      | none => none
      | some y1 =>
        if 0 ≤ y1 ∧ y1 < (ofN (xlen q1)) then
          some ((0 : Int), (iadd .i64 x6 (1 : Int)), (setD q1 (toN y1) (D.l [(D.i x1), (D.i x2), (D.i x3)])))
        else none
  else
    match F_fifo_Queue_at x6 x4 x5 x6 r1 with
    | none => none
    | some y2 =>
      if 0 ≤ y2 ∧ y2 < (ofN (xlen r1)) then
        some (x5, (iadd .i64 x6 (1 : Int)), (setD r1 (toN y2) (D.l [(D.i x1), (D.i x2), (D.i x3)])))
      else none

noncomputable def F_fifo_Queue_Push_2 (x1 : Int) (x2 : Int) (x3 : Int) (x4 : Int) (x5 : Int) (x6 : Int) (r1 : List D) : Option (Bool × Int × Int × (List D)) :=
  if (ile x4 x6) = true then
    some (false, x5, x6, r1)
  else
    match F_fifo_Queue_put_2 x1 x2 x3 x4 x5 x6 r1 with
    | none => none
    | some (y1, y2, q1) =>
      some (true, y1, y2, q1)

noncomputable def F_fifo_Queue_Len (x1 : Int) (x2 : Int) (x3 : Int) (r1 : List D) : Option (Unit) :=
  some ()

noncomputable def F_fifo_Queue_Head (x1 : Int) (x2 : Int) (x3 : Int) (r1 : List D) : Option (Int × Int × Int × Bool) :=
  match F_fifo_Queue_Len x1 x2 x3 r1 with
  | none => none
  | some () =>
    if (ieq x3 (0 : Int)) = true then
      some ((0 : Int), (0 : Int), (0 : Int), false)
    else
      if 0 ≤ x2 ∧ x2 < (ofN (xlen r1)) then
        some ((D.toI (D.fld (getD r1 (toN x2)) 0)), (D.toI (D.fld (getD r1 (toN x2)) 1)), (D.toI (D.fld (getD r1 (toN x2)) 2)), true)
      else none

noncomputable def F_slices_Concat_L2 (r1 : List D) : Int × (List D) → Option ((Int × (List D)) ⊕ ((List D)))
  | (i3, r2) =>
    if (ilt i3 (ofN (xlen r1))) = true then
      if 0 ≤ i3 ∧ i3 < (ofN (xlen r1)) then
        if ((((xlen r2) : Nat) : Int) + (((xlen (D.toL (getD r1 (toN i3)))) : Nat) : Int)) * ((24 : Nat) : Int) ≤ 140737488355328 then
          some (.inl ((iadd .i64 i3 (1 : Int)), (cat r2 (D.toL (getD r1 (toN i3))))))
        else none
      else none
    else
      some (.inr r2)
noncomputable def F_slices_Concat_L3 (r1 : List D) : Int × (List D) → Option ((Int × (List D)) ⊕ ((List D)))
  | (i4, r3) =>
    if (ilt i4 (ofN (xlen r1))) = true then
      if 0 ≤ i4 ∧ i4 < (ofN (xlen r1)) then
        if ((((xlen r3) : Nat) : Int) + (((xlen (D.toL (getD r1 (toN i4)))) : Nat) : Int)) * ((24 : Nat) : Int) ≤ 140737488355328 then
          some (.inl ((iadd .i64 i4 (1 : Int)), (cat r3 (D.toL (getD r1 (toN i4))))))
        else none
      else none
    else
      some (.inr r3)
noncomputable def F_slices_Concat_L1 (r1 : List D) : Int × Int → Option ((Int × Int) ⊕ ((List D)))
  | (i1, i2) =>
    if (ilt i2 (ofN (xlen r1))) = true then
      if 0 ≤ i2 ∧ i2 < (ofN (xlen r1)) then
        if (ilt (iadd .i64 i1 (ofN (xlen (D.toL (getD r1 (toN i2)))))) (0 : Int)) = true then
          none
        else
          some (.inl ((iadd .i64 i1 (ofN (xlen (D.toL (getD r1 (toN i2)))))), (iadd .i64 i2 (1 : Int))))
      else none
    else
      match growP i1 with
      | none => none
      | some (.inl ()) =>
        Option.map (fun t => (.inr t)) (iter (F_slices_Concat_L2 r1) ((0 : Int), ([] : List D)))
      | some (.inr ()) =>
        Option.map (fun t => (.inr t)) (iter (F_slices_Concat_L3 r1) ((0 : Int), ([] : List D)))
noncomputable def F_slices_Concat (r1 : List D) : Option ((List D)) :=
  iter (F_slices_Concat_L1 r1) ((0 : Int), (0 : Int))

noncomputable def F_fifo_Merge_L1 : (List D) × (List D) × (List D) → Option (((List D) × (List D) × (List D)) ⊕ ((List D)))
  | (r5, r3, r4) =>
    if (ilt (0 : Int) (ofN (xlen r5))) = true then
      if (ilt (0 : Int) (ofN (xlen r3))) = true then
        if 0 ≤ (0 : Int) ∧ (0 : Int) < (ofN (xlen r3)) then
          if 0 ≤ (0 : Int) ∧ (0 : Int) < (ofN (xlen r5)) then
            if (ilt (D.toI (D.fld (getD r3 (toN (0 : Int))) 0)) (D.toI (D.fld (getD r5 (toN (0 : Int))) 0))) = true then
              if 0 ≤ (0 : Int) ∧ (0 : Int) < (ofN (xlen r3)) then
                if ((((xlen r4) : Nat) : Int) + (((xlen ([(D.l [(D.i (D.toI (D.fld (getD r3 (toN (0 : Int))) 0))), (D.i (D.toI (D.fld (getD r3 (toN (0 : Int))) 1))), (D.i (D.toI (D.fld (getD r3 (toN (0 : Int))) 2)))])] : List D)) : Nat) : Int)) * ((24 : Nat) : Int) ≤ 140737488355328 then
                  if 0 ≤ (1 : Int) ∧ (1 : Int) ≤ (ofN (xlen r3)) then
                    some (.inl (r5, (lsub r3 (toN (1 : Int)) (ndec (xlen r3) (toN (1 : Int)))), (cat r4 ([(D.l [(D.i (D.toI (D.fld (getD r3 (toN (0 : Int))) 0))), (D.i (D.toI (D.fld (getD r3 (toN (0 : Int))) 1))), (D.i (D.toI (D.fld (getD r3 (toN (0 : Int))) 2)))])] : List D))))
                  else none
                else none
              else none
            else
              if 0 ≤ (0 : Int) ∧ (0 : Int) < (ofN (xlen r5)) then
                if ((((xlen r4) : Nat) : Int) + (((xlen ([(D.l [(D.i (D.toI (D.fld (getD r5 (toN (0 : Int))) 0))), (D.i (D.toI (D.fld (getD r5 (toN (0 : Int))) 1))), (D.i (D.toI (D.fld (getD r5 (toN (0 : Int))) 2)))])] : List D)) : Nat) : Int)) * ((24 : Nat) : Int) ≤ 140737488355328 then
                  if 0 ≤ (1 : Int) ∧ (1 : Int) ≤ (ofN (xlen r5)) then
                    some (.inl ((lsub r5 (toN (1 : Int)) (ndec (xlen r5) (toN (1 : Int)))), r3, (cat r4 ([(D.l [(D.i (D.toI (D.fld (getD r5 (toN (0 : Int))) 0))), (D.i (D.toI (D.fld (getD r5 (toN (0 : Int))) 1))), (D.i (D.toI (D.fld (getD r5 (toN (0 : Int))) 2)))])] : List D))))
                  else none
                else none
              else none
          else none
        else none
      else
        match F_slices_Concat ([(D.l r4), (D.l r5), (D.l r3)] : List D) with
        | none => none
        | some q1 =>
          some (.inr q1)
    else
      match F_slices_Concat ([(D.l r4), (D.l r5), (D.l r3)] : List D) with
      | none => none
      | some q2 =>
        some (.inr q2)
noncomputable def F_fifo_Merge (r1 : List D) (r2 : List D) : Option ((List D)) :=
  iter F_fifo_Merge_L1 (r1, r2, ([] : List D))

noncomputable def F_fifo_Queue_Limit (x1 : Int) (x2 : Int) (x3 : Int) (r1 : List D) : Option (Unit) :=
  some ()

noncomputable def F_fifo_Queue_All_L1 (x3 : Int) (x1 : Int) (x2 : Int) (r1 : List D) : Int × (List D) → Option ((Int × (List D)) ⊕ ((List D)))
  | (i1, r2) =>
    if (ilt i1 x3) = true then
      match F_fifo_Queue_at i1 x1 x2 x3 r1 with
      | none => none
      | some y4 =>
        if 0 ≤ y4 ∧ y4 < (ofN (xlen r1)) then
          if ((((xlen r2) : Nat) : Int) + (((xlen ([(D.l [(D.i (D.toI (D.fld (getD r1 (toN y4)) 0))), (D.i (D.toI (D.fld (getD r1 (toN y4)) 1))), (D.i (D.toI (D.fld (getD r1 (toN y4)) 2)))])] : List D)) : Nat) : Int)) * ((24 : Nat) : Int) ≤ 140737488355328 then
            some (.inl ((iadd .i64 i1 (1 : Int)), (cat r2 ([(D.l [(D.i (D.toI (D.fld (getD r1 (toN y4)) 0))), (D.i (D.toI (D.fld (getD r1 (toN y4)) 1))), (D.i (D.toI (D.fld (getD r1 (toN y4)) 2)))])] : List D))))
          else none
        else none
    else
      some (.inr r2)
noncomputable def F_fifo_Queue_All (x1 : Int) (x2 : Int) (x3 : Int) (r1 : List D) : Option ((List D)) :=
  match F_fifo_Queue_Len x1 x2 x3 r1 with
  | none => none
  | some () =>
    iter (F_fifo_Queue_All_L1 x3 x1 x2 r1) ((0 : Int), ([] : List D))

noncomputable def F_tollbarlaw22_awake : Option (Bool) :=
  match F_fifo_New (1 : Int) with
  | none => none
  | some () =>
    match F_fifo_Queue_Push (5 : Int) (0 : Int) (0 : Int) (1 : Int) (0 : Int) (0 : Int) with
    | none => none
    | some (c1, y1, y2, q1) =>
      match F_fifo_Queue_Push_2 (6 : Int) (0 : Int) (0 : Int) (1 : Int) y1 y2 q1 with
      | none => none
      | some (c2, y3, y4, q2) =>
        match F_fifo_Queue_Head (1 : Int) y3 y4 q2 with
        | none => none
        | some (y5, y6, y7, c3) =>
          match F_fifo_Merge ([(D.l [(D.i (2 : Int)), (D.i (0 : Int)), (D.i (0 : Int))])] : List D) ([(D.l [(D.i (1 : Int)), (D.i (0 : Int)), (D.i (0 : Int))]), (D.l [(D.i (3 : Int)), (D.i (0 : Int)), (D.i (0 : Int))])] : List D) with
          | none => none
          | some q3 =>
            if c1 = true then
              if c2 = true then
                some false
              else
                if c3 = true then
                  if (ieq y5 (5 : Int)) = true then
                    match F_fifo_Queue_Len (1 : Int) y3 y4 q2 with
                    | none => none
                    | some () =>
                      if (ieq y4 (1 : Int)) = true then
                        match F_fifo_Queue_Limit (1 : Int) y3 y4 q2 with
                        | none => none
                        | some () =>
                          if (ieq (1 : Int) (1 : Int)) = true then
                            match F_fifo_Queue_All (1 : Int) y3 y4 q2 with
                            | none => none
                            | some q4 =>
                              if (ieq (ofN (xlen q4)) (1 : Int)) = true then
                                if (ieq (ofN (xlen q3)) (3 : Int)) = true then
                                  if 0 ≤ (0 : Int) ∧ (0 : Int) < (ofN (xlen q3)) then
                                    if (ieq (D.toI (D.fld (getD q3 (toN (0 : Int))) 0)) (1 : Int)) = true then
                                      if 0 ≤ (2 : Int) ∧ (2 : Int) < (ofN (xlen q3)) then
                                        some (ieq (D.toI (D.fld (getD q3 (toN (2 : Int))) 0)) (3 : Int))
                                      else none
                                    else
                                      some false
                                  else none
                                else
                                  some false
                              else
                                some false
                          else
                            some false
                      else
                        some false
                  else
                    some false
                else
                  some false
            else
              some false

noncomputable def F_tollbarref22_Merge_L1 : (List D) × (List D) × (List D) → Option (((List D) × (List D) × (List D)) ⊕ ((List D)))
  | (r5, r3, r4) =>
    if (ilt (0 : Int) (ofN (xlen r5))) = true then
      if (ieq (ofN (xlen r5)) (0 : Int)) = true then
        if 0 ≤ (0 : Int) ∧ (0 : Int) < (ofN (xlen r3)) then
          if ((((xlen r4) : Nat) : Int) + (((xlen ([(D.l [(D.i (D.toI (D.fld (getD r3 (toN (0 : Int))) 0))), (D.i (D.toI (D.fld (getD r3 (toN (0 : Int))) 1))), (D.i (D.toI (D.fld (getD r3 (toN (0 : Int))) 2)))])] : List D)) : Nat) : Int)) * ((24 : Nat) : Int) ≤ 140737488355328 then
            if 0 ≤ (1 : Int) ∧ (1 : Int) ≤ (ofN (xlen r3)) then
              some (.inl (r5, (lsub r3 (toN (1 : Int)) (ndec (xlen r3) (toN (1 : Int)))), (cat r4 ([(D.l [(D.i (D.toI (D.fld (getD r3 (toN (0 : Int))) 0))), (D.i (D.toI (D.fld (getD r3 (toN (0 : Int))) 1))), (D.i (D.toI (D.fld (getD r3 (toN (0 : Int))) 2)))])] : List D))))
            else none
          else none
        else none
      else
        if (ilt (0 : Int) (ofN (xlen r3))) = true then
          if 0 ≤ (0 : Int) ∧ (0 : Int) < (ofN (xlen r3)) then
            if 0 ≤ (0 : Int) ∧ (0 : Int) < (ofN (xlen r5)) then
              if (ilt (D.toI (D.fld (getD r3 (toN (0 : Int))) 0)) (D.toI (D.fld (getD r5 (toN (0 : Int))) 0))) = true then
                if 0 ≤ (0 : Int) ∧ (0 : Int) < (ofN (xlen r3)) then
                  if ((((xlen r4) : Nat) : Int) + (((xlen ([(D.l [(D.i (D.toI (D.fld (getD r3 (toN (0 : Int))) 0))), (D.i (D.toI (D.fld (getD r3 (toN (0 : Int))) 1))), (D.i (D.toI (D.fld (getD r3 (toN (0 : Int))) 2)))])] : List D)) : Nat) : Int)) * ((24 : Nat) : Int) ≤ 140737488355328 then
                    if 0 ≤ (1 : Int) ∧ (1 : Int) ≤ (ofN (xlen r3)) then
                      some (.inl (r5, (lsub r3 (toN (1 : Int)) (ndec (xlen r3) (toN (1 : Int)))), (cat r4 ([(D.l [(D.i (D.toI (D.fld (getD r3 (toN (0 : Int))) 0))), (D.i (D.toI (D.fld (getD r3 (toN (0 : Int))) 1))), (D.i (D.toI (D.fld (getD r3 (toN (0 : Int))) 2)))])] : List D))))
                    else none
                  else none
                else none
              else
                if 0 ≤ (0 : Int) ∧ (0 : Int) < (ofN (xlen r5)) then
                  if ((((xlen r4) : Nat) : Int) + (((xlen ([(D.l [(D.i (D.toI (D.fld (getD r5 (toN (0 : Int))) 0))), (D.i (D.toI (D.fld (getD r5 (toN (0 : Int))) 1))), (D.i (D.toI (D.fld (getD r5 (toN (0 : Int))) 2)))])] : List D)) : Nat) : Int)) * ((24 : Nat) : Int) ≤ 140737488355328 then
                    if 0 ≤ (1 : Int) ∧ (1 : Int) ≤ (ofN (xlen r5)) then
                      some (.inl ((lsub r5 (toN (1 : Int)) (ndec (xlen r5) (toN (1 : Int)))), r3, (cat r4 ([(D.l [(D.i (D.toI (D.fld (getD r5 (toN (0 : Int))) 0))), (D.i (D.toI (D.fld (getD r5 (toN (0 : Int))) 1))), (D.i (D.toI (D.fld (getD r5 (toN (0 : Int))) 2)))])] : List D))))
                    else none
                  else none
                else none
            else none
          else none
        else
          if 0 ≤ (0 : Int) ∧ (0 : Int) < (ofN (xlen r5)) then
            if ((((xlen r4) : Nat) : Int) + (((xlen ([(D.l [(D.i (D.toI (D.fld (getD r5 (toN (0 : Int))) 0))), (D.i (D.toI (D.fld (getD r5 (toN (0 : Int))) 1))), (D.i (D.toI (D.fld (getD r5 (toN (0 : Int))) 2)))])] : List D)) : Nat) : Int)) * ((24 : Nat) : Int) ≤ 140737488355328 then
              if 0 ≤ (1 : Int) ∧ (1 : Int) ≤ (ofN (xlen r5)) then
                some (.inl ((lsub r5 (toN (1 : Int)) (ndec (xlen r5) (toN (1 : Int)))), r3, (cat r4 ([(D.l [(D.i (D.toI (D.fld (getD r5 (toN (0 : Int))) 0))), (D.i (D.toI (D.fld (getD r5 (toN (0 : Int))) 1))), (D.i (D.toI (D.fld (getD r5 (toN (0 : Int))) 2)))])] : List D))))
              else none
            else none
          else none
    else
      if (ilt (0 : Int) (ofN (xlen r3))) = true then
        if (ieq (ofN (xlen r5)) (0 : Int)) = true then
          if 0 ≤ (0 : Int) ∧ (0 : Int) < (ofN (xlen r3)) then
            if ((((xlen r4) : Nat) : Int) + (((xlen ([(D.l [(D.i (D.toI (D.fld (getD r3 (toN (0 : Int))) 0))), (D.i (D.toI (D.fld (getD r3 (toN (0 : Int))) 1))), (D.i (D.toI (D.fld (getD r3 (toN (0 : Int))) 2)))])] : List D)) : Nat) : Int)) * ((24 : Nat) : Int) ≤ 140737488355328 then
              if 0 ≤ (1 : Int) ∧ (1 : Int) ≤ (ofN (xlen r3)) then
                some (.inl (r5, (lsub r3 (toN (1 : Int)) (ndec (xlen r3) (toN (1 : Int)))), (cat r4 ([(D.l [(D.i (D.toI (D.fld (getD r3 (toN (0 : Int))) 0))), (D.i (D.toI (D.fld (getD r3 (toN (0 : Int))) 1))), (D.i (D.toI (D.fld (getD r3 (toN (0 : Int))) 2)))])] : List D))))
              else none
            else none
          else none
        else
          if (ilt (0 : Int) (ofN (xlen r3))) = true then
            if 0 ≤ (0 : Int) ∧ (0 : Int) < (ofN (xlen r3)) then
              if 0 ≤ (0 : Int) ∧ (0 : Int) < (ofN (xlen r5)) then
                if (ilt (D.toI (D.fld (getD r3 (toN (0 : Int))) 0)) (D.toI (D.fld (getD r5 (toN (0 : Int))) 0))) = true then
                  if 0 ≤ (0 : Int) ∧ (0 : Int) < (ofN (xlen r3)) then
                    if ((((xlen r4) : Nat) : Int) + (((xlen ([(D.l [(D.i (D.toI (D.fld (getD r3 (toN (0 : Int))) 0))), (D.i (D.toI (D.fld (getD r3 (toN (0 : Int))) 1))), (D.i (D.toI (D.fld (getD r3 (toN (0 : Int))) 2)))])] : List D)) : Nat) : Int)) * ((24 : Nat) : Int) ≤ 140737488355328 then
                      if 0 ≤ (1 : Int) ∧ (1 : Int) ≤ (ofN (xlen r3)) then
                        some (.inl (r5, (lsub r3 (toN (1 : Int)) (ndec (xlen r3) (toN (1 : Int)))), (cat r4 ([(D.l [(D.i (D.toI (D.fld (getD r3 (toN (0 : Int))) 0))), (D.i (D.toI (D.fld (getD r3 (toN (0 : Int))) 1))), (D.i (D.toI (D.fld (getD r3 (toN (0 : Int))) 2)))])] : List D))))
                      else none
                    else none
                  else none
                else
                  if 0 ≤ (0 : Int) ∧ (0 : Int) < (ofN (xlen r5)) then
                    if ((((xlen r4) : Nat) : Int) + (((xlen ([(D.l [(D.i (D.toI (D.fld (getD r5 (toN (0 : Int))) 0))), (D.i (D.toI (D.fld (getD r5 (toN (0 : Int))) 1))), (D.i (D.toI (D.fld (getD r5 (toN (0 : Int))) 2)))])] : List D)) : Nat) : Int)) * ((24 : Nat) : Int) ≤ 140737488355328 then
                      if 0 ≤ (1 : Int) ∧ (1 : Int) ≤ (ofN (xlen r5)) then
                        some (.inl ((lsub r5 (toN (1 : Int)) (ndec (xlen r5) (toN (1 : Int)))), r3, (cat r4 ([(D.l [(D.i (D.toI (D.fld (getD r5 (toN (0 : Int))) 0))), (D.i (D.toI (D.fld (getD r5 (toN (0 : Int))) 1))), (D.i (D.toI (D.fld (getD r5 (toN (0 : Int))) 2)))])] : List D))))
                      else none
                    else none
                  else none
              else none
            else none
          else
            if 0 ≤ (0 : Int) ∧ (0 : Int) < (ofN (xlen r5)) then
              if ((((xlen r4) : Nat) : Int) + (((xlen ([(D.l [(D.i (D.toI (D.fld (getD r5 (toN (0 : Int))) 0))), (D.i (D.toI (D.fld (getD r5 (toN (0 : Int))) 1))), (D.i (D.toI (D.fld (getD r5 (toN (0 : Int))) 2)))])] : List D)) : Nat) : Int)) * ((24 : Nat) : Int) ≤ 140737488355328 then
                if 0 ≤ (1 : Int) ∧ (1 : Int) ≤ (ofN (xlen r5)) then
                  some (.inl ((lsub r5 (toN (1 : Int)) (ndec (xlen r5) (toN (1 : Int)))), r3, (cat r4 ([(D.l [(D.i (D.toI (D.fld (getD r5 (toN (0 : Int))) 0))), (D.i (D.toI (D.fld (getD r5 (toN (0 : Int))) 1))), (D.i (D.toI (D.fld (getD r5 (toN (0 : Int))) 2)))])] : List D))))
                else none
              else none
            else none
      else
        some (.inr r4)
noncomputable def F_tollbarref22_Merge (r1 : List D) (r2 : List D) : Option ((List D)) :=
  iter F_tollbarref22_Merge_L1 (r1, r2, ([] : List D))

noncomputable def F_tollbarref22_Same_L1 (r1 : List D) (r2 : List D) : Int → Option ((Int) ⊕ (Bool))
  | i1 =>
    if (ilt i1 (ofN (xlen r1))) = true then
      if 0 ≤ i1 ∧ i1 < (ofN (xlen r1)) then
        if 0 ≤ i1 ∧ i1 < (ofN (xlen r2)) then
          if (band (ieq (D.toI (D.fld (getD r1 (toN i1)) 0)) (D.toI (D.fld (getD r2 (toN i1)) 0))) (band (ieq (D.toI (D.fld (getD r1 (toN i1)) 1)) (D.toI (D.fld (getD r2 (toN i1)) 1))) (band (ieq (D.toI (D.fld (getD r1 (toN i1)) 2)) (D.toI (D.fld (getD r2 (toN i1)) 2))) true))) = true then
            some (.inl (iadd .i64 i1 (1 : Int)))
          else
            some (.inr false)
        else none
      else none
    else
      some (.inr true)
noncomputable def F_tollbarref22_Same (r1 : List D) (r2 : List D) : Option (Bool) :=
  if (ieq (ofN (xlen r1)) (ofN (xlen r2))) = true then
    iter (F_tollbarref22_Same_L1 r1 r2) (0 : Int)
  else
    some false

noncomputable def F_tollbarlaw22_FifoMerges_L3 (q1 : List D) (b2 : Bool) : Int → Option ((Int) ⊕ (Bool))
  | i3 =>
    if (ilt i3 (ofN (xlen q1))) = true then
      if b2 = true then
        if 0 ≤ i3 ∧ i3 < (ofN (xlen q1)) then
          if 0 ≤ (isub .i64 i3 (1 : Int)) ∧ (isub .i64 i3 (1 : Int)) < (ofN (xlen q1)) then
            if (ilt (D.toI (D.fld (getD q1 (toN i3)) 0)) (D.toI (D.fld (getD q1 (toN (isub .i64 i3 (1 : Int)))) 0))) = true then
              some (.inr false)
            else
              some (.inl (iadd .i64 i3 (1 : Int)))
          else none
        else none
      else
        some (.inr true)
    else
      some (.inr true)
noncomputable def F_tollbarlaw22_FifoMerges_L2 (r2 : List D) (q1 : List D) : Bool × Int → Option ((Bool × Int) ⊕ (Bool))
  | (b2, i2) =>
    if (ilt i2 (ofN (xlen r2))) = true then
      if b2 = true then
        if 0 ≤ (isub .i64 i2 (1 : Int)) ∧ (isub .i64 i2 (1 : Int)) < (ofN (xlen r2)) then
          if 0 ≤ i2 ∧ i2 < (ofN (xlen r2)) then
            some (.inl ((ilt (D.toI (D.fld (getD r2 (toN (isub .i64 i2 (1 : Int)))) 0)) (D.toI (D.fld (getD r2 (toN i2)) 0))), (iadd .i64 i2 (1 : Int))))
          else none
        else none
      else
        some (.inl (false, (iadd .i64 i2 (1 : Int))))
    else
      Option.map (fun t => (.inr t)) (iter (F_tollbarlaw22_FifoMerges_L3 q1 b2) (1 : Int))
noncomputable def F_tollbarlaw22_FifoMerges_L1 (r1 : List D) (r2 : List D) (q1 : List D) : Bool × Int → Option ((Bool × Int) ⊕ (Bool))
  | (b1, i1) =>
    if (ilt i1 (ofN (xlen r1))) = true then
      if b1 = true then
        if 0 ≤ (isub .i64 i1 (1 : Int)) ∧ (isub .i64 i1 (1 : Int)) < (ofN (xlen r1)) then
          if 0 ≤ i1 ∧ i1 < (ofN (xlen r1)) then
            some (.inl ((ilt (D.toI (D.fld (getD r1 (toN (isub .i64 i1 (1 : Int)))) 0)) (D.toI (D.fld (getD r1 (toN i1)) 0))), (iadd .i64 i1 (1 : Int))))
          else none
        else none
      else
        some (.inl (false, (iadd .i64 i1 (1 : Int))))
    else
      Option.map (fun t => (.inr t)) (iter (F_tollbarlaw22_FifoMerges_L2 r2 q1) (b1, (1 : Int)))
noncomputable def F_tollbarlaw22_FifoMerges (r1 : List D) (r2 : List D) : Option (Bool) :=
  match F_tollbarlaw22_awake with
  | none => none
  | some c1 =>
    if c1 = true then
      if (ilt (200 : Int) (ofN (xlen r1))) = true then
        some true
      else
        if (ilt (200 : Int) (ofN (xlen r2))) = true then
          some true
        else
          match F_fifo_Merge r1 r2 with
          | none => none
          | some q1 =>
            match F_tollbarref22_Merge r1 r2 with
            | none => none
            | some q2 =>
              match F_tollbarref22_Same q1 q2 with
              | none => none
              | some c2 =>
                if c2 = true then
                  if (ieq (ofN (xlen q1)) (iadd .i64 (ofN (xlen r1)) (ofN (xlen r2)))) = true then
                    iter (F_tollbarlaw22_FifoMerges_L1 r1 r2 q1) (true, (1 : Int))
                  else
                    some false
                else
                  some false
    else
      some false

noncomputable def F_fifo_Queue_Pop_2 (x1 : Int) (x2 : Int) (x3 : Int) (r1 : List D) : Option (Int × Int × Int × Bool × Int × Int) :=
  match F_fifo_Queue_Head x1 x2 x3 r1 with
  | none => none
  | some (y1, y2, y3, c1) =>
    if c1 = true then
      match F_fifo_Queue_at (1 : Int) x1 x2 x3 r1 with
      | none => none
      | some y4 =>
        some (y1, y2, y3, c1, y4, (isub .i64 x3 (1 : Int)))
    else
      some (y1, y2, y3, c1, x2, x3)

noncomputable def F_tollbarlaw22_FifoOrder_L1 (r1 : List D) (x1 : Int) : Int × Int × Int × Int × Int × Int × (List D) → Option ((Int × Int × Int × Int × Int × Int × (List D)) ⊕ (Bool))
  | (i1, i6, i2, i3, i4, i5, r2) =>
    if (ilt i3 (ofN (xlen r1))) = true then
      if 0 ≤ i3 ∧ i3 < (ofN (xlen r1)) then
        if (D.toB (getD r1 (toN i3))) = true then
          match F_fifo_Queue_Push_2 (iadd .u64 i1 (1 : Int)) (0 : Int) (0 : Int) (iconv .i64 x1) i4 i5 r2 with
          | none => none
          | some (c7, y17, y18, q4) =>
            if (beq2 c7 (ilt i2 (iconv .i64 x1))) = true then
              if c7 = true then
                match F_fifo_Queue_Len (iconv .i64 x1) y17 y18 q4 with
                | none => none
                | some () =>
                  if (ieq y18 (iadd .i64 i2 (1 : Int))) = true then
                    some (.inl ((iadd .u64 i1 (1 : Int)), i6, (iadd .i64 i2 (1 : Int)), (iadd .i64 i3 (1 : Int)), y17, y18, q4))
                  else
                    some (.inr false)
              else
                match F_fifo_Queue_Len (iconv .i64 x1) y17 y18 q4 with
                | none => none
                | some () =>
                  if (ieq y18 i2) = true then
                    some (.inl ((iadd .u64 i1 (1 : Int)), i6, i2, (iadd .i64 i3 (1 : Int)), y17, y18, q4))
                  else
                    some (.inr false)
            else
              some (.inr false)
        else
          match F_fifo_Queue_Pop_2 (iconv .i64 x1) i4 i5 r2 with
          | none => none
          | some (y19, y20, y21, c8, y22, y23) =>
            if (beq2 c8 (ilt (0 : Int) i2)) = true then
              if c8 = true then
                if (ile y19 i6) = true then
                  some (.inr false)
                else
                  if c8 = true then
                    match F_fifo_Queue_Len (iconv .i64 x1) y22 y23 r2 with
                    | none => none
                    | some () =>
                      if (ieq y23 (isub .i64 i2 (1 : Int))) = true then
                        some (.inl (i1, y19, (isub .i64 i2 (1 : Int)), (iadd .i64 i3 (1 : Int)), y22, y23, r2))
                      else
                        some (.inr false)
                  else
                    match F_fifo_Queue_Len (iconv .i64 x1) y22 y23 r2 with
                    | none => none
                    | some () =>
                      if (ieq y23 i2) = true then
                        some (.inl (i1, i6, i2, (iadd .i64 i3 (1 : Int)), y22, y23, r2))
                      else
                        some (.inr false)
              else
                if c8 = true then
                  match F_fifo_Queue_Len (iconv .i64 x1) y22 y23 r2 with
                  | none => none
                  | some () =>
                    if (ieq y23 (isub .i64 i2 (1 : Int))) = true then
                      some (.inl (i1, y19, (isub .i64 i2 (1 : Int)), (iadd .i64 i3 (1 : Int)), y22, y23, r2))
                    else
                      some (.inr false)
                else
                  match F_fifo_Queue_Len (iconv .i64 x1) y22 y23 r2 with
                  | none => none
                  | some () =>
                    if (ieq y23 i2) = true then
                      some (.inl (i1, i6, i2, (iadd .i64 i3 (1 : Int)), y22, y23, r2))
                    else
                      some (.inr false)
            else
              some (.inr false)
      else none
    else
      some (.inr true)
noncomputable def F_tollbarlaw22_FifoOrder (x1 : Int) (r1 : List D) : Option (Bool) :=
  match F_tollbarlaw22_awake with
  | none => none
  | some c1 =>
    if c1 = true then
      if (ilt (300 : Int) (ofN (xlen r1))) = true then
        some true
      else
        match F_fifo_New (iconv .i64 x1) with
        | none => none
        | some () =>
          iter (F_tollbarlaw22_FifoOrder_L1 r1 x1) ((0 : Int), (0 : Int), (0 : Int), (0 : Int), (0 : Int), (0 : Int), ([] : List D))
    else
      some false

noncomputable def F_fifo_Queue_Load_L1 (r1 : List D) (x1 : Int) : Int × Int × Int × (List D) → Option ((Int × Int × Int × (List D)) ⊕ (Int × Int × (List D)))
  | (i1, i2, i3, r2) =>
    if (ilt i1 (ofN (xlen r1))) = true then
      if 0 ≤ i1 ∧ i1 < (ofN (xlen r1)) then
        match F_fifo_Queue_put_2 (D.toI (D.fld (getD r1 (toN i1)) 0)) (D.toI (D.fld (getD r1 (toN i1)) 1)) (D.toI (D.fld (getD r1 (toN i1)) 2)) x1 i2 i3 r2 with
        | none => none
        | some (y6, y7, q4) =>
          some (.inl ((iadd .i64 i1 (1 : Int)), y6, y7, q4))
      else none
    else
      some (.inr (i2, i3, r2))
noncomputable def F_fifo_Queue_Load (r1 : List D) (x1 : Int) (x2 : Int) (x3 : Int) : Option (Int × Int × (List D)) :=
  iter (F_fifo_Queue_Load_L1 r1 x1) ((0 : Int), (0 : Int), (0 : Int), ([] : List D))

noncomputable def F_tollbarlaw22_FifoOwn_L3 (x1 : Int) (r1 : List D) (q1 : List D) : Int × Int × Int → Option ((Int × Int × Int) ⊕ (Bool))
  | (i3, i4, i5) =>
    if (ilt i3 (irem (iconv .i64 x1) (iadd .i64 (ofN (xlen r1)) (1 : Int)))) = true then
      match F_fifo_Queue_Pop_2 (3 : Int) i4 i5 q1 with
      | none => none
      | some (y13, y14, y15, c5, y16, y17) =>
        some (.inl ((iadd .i64 i3 (1 : Int)), y16, y17))
    else
      match F_fifo_Queue_Push_2 (7 : Int) (0 : Int) (0 : Int) (3 : Int) i4 i5 q1 with
      | none => none
      | some (c6, y18, y19, q4) =>
        if c6 = true then
          if (beq2 c6 (ilt (isub .i64 (ofN (xlen r1)) (irem (iconv .i64 x1) (iadd .i64 (ofN (xlen r1)) (1 : Int)))) (3 : Int))) = true then
            match F_fifo_Queue_Len (3 : Int) y18 y19 q4 with
            | none => none
            | some () =>
              some (.inr (ieq y19 (iadd .i64 (isub .i64 (ofN (xlen r1)) (irem (iconv .i64 x1) (iadd .i64 (ofN (xlen r1)) (1 : Int)))) (1 : Int))))
          else
            some (.inr false)
        else
          if (beq2 c6 (ilt (isub .i64 (ofN (xlen r1)) (irem (iconv .i64 x1) (iadd .i64 (ofN (xlen r1)) (1 : Int)))) (3 : Int))) = true then
            match F_fifo_Queue_Len (3 : Int) y18 y19 q4 with
            | none => none
            | some () =>
              some (.inr (ieq y19 (isub .i64 (ofN (xlen r1)) (irem (iconv .i64 x1) (iadd .i64 (ofN (xlen r1)) (1 : Int))))))
          else
            some (.inr false)
noncomputable def F_tollbarlaw22_FifoOwn_L2 (r1 : List D) (y1 : Int) (y2 : Int) (q1 : List D) (x1 : Int) : Int × (List D) → Option ((Int × (List D)) ⊕ (Bool))
  | (i2, r3) =>
    if (ilt i2 (ofN (xlen r3))) = true then
      if 0 ≤ i2 ∧ i2 < (ofN (xlen r3)) then
        some (.inl ((iadd .i64 i2 (1 : Int)), (setD r3 (toN i2) (D.l [(D.i (D.toI (D.fld (getD r3 (toN i2)) 0))), (D.i (D.toI (D.fld (getD r3 (toN i2)) 1))), (D.i (77 : Int))]))))
      else none
    else
      if (iadd .i64 (ofN (xlen r1)) (1 : Int)) ≠ 0 then
        match F_fifo_Queue_All (3 : Int) y1 y2 q1 with
        | none => none
        | some q3 =>
          match F_tollbarref22_Same q3 r1 with
          | none => none
          | some c2 =>
            if c2 = true then
              match F_fifo_Queue_Len (3 : Int) y1 y2 q1 with
              | none => none
              | some () =>
                if (ieq y2 (ofN (xlen r1))) = true then
                  Option.map (fun t => (.inr t)) (iter (F_tollbarlaw22_FifoOwn_L3 x1 r1 q1) ((0 : Int), y1, y2))
                else
                  some (.inr false)
            else
              some (.inr false)
      else none
noncomputable def F_tollbarlaw22_FifoOwn_L1 (y1 : Int) (y2 : Int) (q1 : List D) (r1 : List D) (x1 : Int) : Int × (List D) → Option ((Int × (List D)) ⊕ (Bool))
  | (i1, r2) =>
    if (ilt i1 (ofN (xlen r2))) = true then
      if 0 ≤ i1 ∧ i1 < (ofN (xlen r2)) then
        some (.inl ((iadd .i64 i1 (1 : Int)), (setD r2 (toN i1) (D.l [(D.i (99 : Int)), (D.i (D.toI (D.fld (getD r2 (toN i1)) 1))), (D.i (D.toI (D.fld (getD r2 (toN i1)) 2)))]))))
      else none
    else
      match F_fifo_Queue_All (3 : Int) y1 y2 q1 with
      | none => none
      | some q2 =>
        Option.map (fun t => (.inr t)) (iter (F_tollbarlaw22_FifoOwn_L2 r1 y1 y2 q1 x1) ((0 : Int), q2))
noncomputable def F_tollbarlaw22_FifoOwn (r1 : List D) (x1 : Int) : Option (Bool) :=
  match F_tollbarlaw22_awake with
  | none => none
  | some c1 =>
    if c1 = true then
      if (ilt (200 : Int) (ofN (xlen r1))) = true then
        some true
      else
        match F_fifo_New (3 : Int) with
        | none => none
        | some () =>
          if (((xlen r1) : Nat) : Int) * ((24 : Nat) : Int) ≤ 140737488355328 then
            match F_fifo_Queue_Load r1 (3 : Int) (0 : Int) (0 : Int) with
            | none => none
            | some (y1, y2, q1) =>
              iter (F_tollbarlaw22_FifoOwn_L1 y1 y2 q1 r1 x1) ((0 : Int), r1)
          else none
    else
      some false

noncomputable def F_tollbarlaw22_small_L1 (r1 : List D) : Int → Option ((Int) ⊕ (Bool))
  | i1 =>
    if (ilt i1 (ofN (xlen r1))) = true then
      if 0 ≤ i1 ∧ i1 < (ofN (xlen r1)) then
        if (ilt (100 : Int) (ofN (xlen (D.toL (D.fld (getD r1 (toN i1)) 3))))) = true then
          some (.inr false)
        else
          some (.inl (iadd .i64 i1 (1 : Int)))
      else none
    else
      some (.inr (ile (ofN (xlen r1)) (200 : Int)))
noncomputable def F_tollbarlaw22_small (r1 : List D) : Option (Bool) :=
  iter (F_tollbarlaw22_small_L1 r1) (0 : Int)

noncomputable def F_fifo_Queue_Tune_2 (x1 : Int) (x2 : Int) (x3 : Int) (x4 : Int) (r1 : List D) : Option (Unit) :=
  some ()

noncomputable def F_fifo_Queue_Load_2_L1 (r1 : List D) (x1 : Int) : Int × Int × Int × (List D) → Option ((Int × Int × Int × (List D)) ⊕ (Int × Int × (List D)))
  | (i1, i2, i3, r3) =>
    if (ilt i1 (ofN (xlen r1))) = true then
      if 0 ≤ i1 ∧ i1 < (ofN (xlen r1)) then
        match F_fifo_Queue_put_2 (D.toI (D.fld (getD r1 (toN i1)) 0)) (D.toI (D.fld (getD r1 (toN i1)) 1)) (D.toI (D.fld (getD r1 (toN i1)) 2)) x1 i2 i3 r3 with
        | none => none
        | some (y7, y8, q4) =>
          some (.inl ((iadd .i64 i1 (1 : Int)), y7, y8, q4))
      else none
    else
      some (.inr (i2, i3, r3))
noncomputable def F_fifo_Queue_Load_2 (r1 : List D) (x1 : Int) (x2 : Int) (x3 : Int) (r2 : List D) : Option (Int × Int × (List D)) :=
  iter (F_fifo_Queue_Load_2_L1 r1 x1) ((0 : Int), (0 : Int), (0 : Int), (@lrep D (xlen r2) (D.l [(D.i (0 : Int)), (D.i (0 : Int)), (D.i (0 : Int))])))

noncomputable def F_tollbarref22_Push_4 (r1 : List D) (x1 : Int) (x2 : Int) (x3 : Int) (x4 : Int) : Option ((List D) × Bool) :=
  if (ile x1 (ofN (xlen r1))) = true then
    some (r1, false)
  else
    if (((xlen r1) : Nat) : Int) * ((24 : Nat) : Int) ≤ 140737488355328 then
      if ((((xlen r1) : Nat) : Int) + (((xlen ([(D.l [(D.i x2), (D.i x3), (D.i x4)])] : List D)) : Nat) : Int)) * ((24 : Nat) : Int) ≤ 140737488355328 then
        some ((cat r1 ([(D.l [(D.i x2), (D.i x3), (D.i x4)])] : List D)), true)
      else none
    else none

noncomputable def F_tollbarref22_Pop_4 (r1 : List D) (x1 : Int) : Option ((List D) × Int × Int × Int × Bool) :=
  if (ieq (ofN (xlen r1)) (0 : Int)) = true then
    some (r1, (0 : Int), (0 : Int), (0 : Int), false)
  else
    if 0 ≤ (0 : Int) ∧ (0 : Int) < (ofN (xlen r1)) then
      if 0 ≤ (1 : Int) ∧ (1 : Int) ≤ (ofN (xlen r1)) then
        some ((lsub r1 (toN (1 : Int)) (ndec (xlen r1) (toN (1 : Int)))), (D.toI (D.fld (getD r1 (toN (0 : Int))) 0)), (D.toI (D.fld (getD r1 (toN (0 : Int))) 1)), (D.toI (D.fld (getD r1 (toN (0 : Int))) 2)), true)
      else none
    else none

noncomputable def F_fifo_Queue_Tune_3 (x1 : Int) : Option (Unit) :=
  some ()

noncomputable def F_fifo_Queue_Load_3 (r1 : List D) : Option (Unit) :=
  some ()

noncomputable def F_fifo_Queue_Len_3 : Option (Unit) :=
  some ()

noncomputable def F_fifo_Queue_Head_3 : Option (Unit) :=
  match F_fifo_Queue_Len_3 with
  | none => none
  | some () =>
    if (ieq (0 : Int) (0 : Int)) = true then
      some ()
    else
      none

noncomputable def F_fifo_Queue_Pop_3 : Option (Unit) :=
  match F_fifo_Queue_Head_3 with
  | none => none
  | some () =>
    some ()

noncomputable def F_fifo_Queue_Push_3 (x1 : Int) (x2 : Int) (x3 : Int) : Option (Unit) :=
  some ()

noncomputable def F_fifo_Queue_Limit_3 : Option (Unit) :=
  some ()

noncomputable def F_fifo_Queue_All_3_L1 : Unit → Option ((Unit) ⊕ (Unit))
  | () =>
    if (ilt (0 : Int) (0 : Int)) = true then
      none
    else
      some (.inr ())
noncomputable def F_fifo_Queue_All_3 : Option (Unit) :=
  match F_fifo_Queue_Len_3 with
  | none => none
  | some () =>
    iter F_fifo_Queue_All_3_L1 ()

noncomputable def F_tollbarlaw22_FifoDoes_L1 (r1 : List D) : Int × Int × Int × Int × (List D) × Int × (List D) → Option ((Int × Int × Int × Int × (List D) × Int × (List D)) ⊕ (Bool))
  | (i9, i12, i10, i11, r6, i13, r7) =>
    if (ilt i9 (ofN (xlen r1))) = true then
      if 0 ≤ i9 ∧ i9 < (ofN (xlen r1)) then
        if (ieq (D.toI (D.fld (getD r1 (toN i9)) 0)) (0 : Int)) = true then
          match F_tollbarref22_Push_4 r6 i13 (D.toI (D.fld (D.fld (getD r1 (toN i9)) 2) 0)) (D.toI (D.fld (D.fld (getD r1 (toN i9)) 2) 1)) (D.toI (D.fld (D.fld (getD r1 (toN i9)) 2) 2)) with
          | none => none
          | some (q40, c50) =>
            match F_fifo_Queue_Push_2 (D.toI (D.fld (D.fld (getD r1 (toN i9)) 2) 0)) (D.toI (D.fld (D.fld (getD r1 (toN i9)) 2) 1)) (D.toI (D.fld (D.fld (getD r1 (toN i9)) 2) 2)) i12 i10 i11 r7 with
            | none => none
            | some (c51, y65, y66, q41) =>
              if (beq2 c51 c50) = true then
                match F_fifo_Queue_Len i12 y65 y66 q41 with
                | none => none
                | some () =>
                  if (ieq y66 (ofN (xlen q40))) = true then
                    match F_fifo_Queue_Limit i12 y65 y66 q41 with
                    | none => none
                    | some () =>
                      if (ieq i12 i13) = true then
                        match F_fifo_Queue_All i12 y65 y66 q41 with
                        | none => none
                        | some q42 =>
                          match F_tollbarref22_Same q42 q40 with
                          | none => none
                          | some c52 =>
                            if c52 = true then
                              some (.inl ((iadd .i64 i9 (1 : Int)), i12, y65, y66, q40, i13, q41))
                            else
                              some (.inr false)
                      else
                        some (.inr false)
                  else
                    some (.inr false)
              else
                some (.inr false)
        else
          if (ieq (D.toI (D.fld (getD r1 (toN i9)) 0)) (1 : Int)) = true then
            match F_tollbarref22_Pop_4 r6 i13 with
            | none => none
            | some (q43, y67, y68, y69, c53) =>
              match F_fifo_Queue_Head i12 i10 i11 r7 with
              | none => none
              | some (y70, y71, y72, c54) =>
                match F_fifo_Queue_Pop_2 i12 i10 i11 r7 with
                | none => none
                | some (y73, y74, y75, c55, y76, y77) =>
                  if (band (ieq y73 y67) (band (ieq y74 y68) (band (ieq y75 y69) true))) = true then
                    if (beq2 c55 c53) = true then
                      if (band (ieq y70 y67) (band (ieq y71 y68) (band (ieq y72 y69) true))) = true then
                        if (beq2 c54 c53) = true then
                          match F_fifo_Queue_Len i12 y76 y77 r7 with
                          | none => none
                          | some () =>
                            if (ieq y77 (ofN (xlen q43))) = true then
                              match F_fifo_Queue_Limit i12 y76 y77 r7 with
                              | none => none
                              | some () =>
                                if (ieq i12 i13) = true then
                                  match F_fifo_Queue_All i12 y76 y77 r7 with
                                  | none => none
                                  | some q44 =>
                                    match F_tollbarref22_Same q44 q43 with
                                    | none => none
                                    | some c56 =>
                                      if c56 = true then
                                        some (.inl ((iadd .i64 i9 (1 : Int)), i12, y76, y77, q43, i13, r7))
                                      else
                                        some (.inr false)
                                else
                                  some (.inr false)
                            else
                              some (.inr false)
                        else
                          some (.inr false)
                      else
                        some (.inr false)
                    else
                      some (.inr false)
                  else
                    some (.inr false)
          else
            if (ieq (D.toI (D.fld (getD r1 (toN i9)) 0)) (2 : Int)) = true then
              match F_fifo_Queue_Tune_2 (D.toI (D.fld (getD r1 (toN i9)) 1)) i12 i10 i11 r7 with
              | none => none
              | some () =>
                match F_fifo_Queue_Len (D.toI (D.fld (getD r1 (toN i9)) 1)) i10 i11 r7 with
                | none => none
                | some () =>
                  if (ieq i11 (ofN (xlen r6))) = true then
                    match F_fifo_Queue_Limit (D.toI (D.fld (getD r1 (toN i9)) 1)) i10 i11 r7 with
                    | none => none
                    | some () =>
                      if (ieq (D.toI (D.fld (getD r1 (toN i9)) 1)) (D.toI (D.fld (getD r1 (toN i9)) 1))) = true then
                        match F_fifo_Queue_All (D.toI (D.fld (getD r1 (toN i9)) 1)) i10 i11 r7 with
                        | none => none
                        | some q45 =>
                          match F_tollbarref22_Same q45 r6 with
                          | none => none
                          | some c57 =>
                            if c57 = true then
                              some (.inl ((iadd .i64 i9 (1 : Int)), (D.toI (D.fld (getD r1 (toN i9)) 1)), i10, i11, r6, (D.toI (D.fld (getD r1 (toN i9)) 1)), r7))
                            else
                              some (.inr false)
                      else
                        some (.inr false)
                  else
                    some (.inr false)
            else
              if (ieq (D.toI (D.fld (getD r1 (toN i9)) 0)) (3 : Int)) = true then
                match F_fifo_Queue_Load_2 (D.toL (D.fld (getD r1 (toN i9)) 3)) i12 i10 i11 r7 with
                | none => none
                | some (y78, y79, q46) =>
                  match F_fifo_Queue_Len i12 y78 y79 q46 with
                  | none => none
                  | some () =>
                    if (ieq y79 (ofN (xlen (D.toL (D.fld (getD r1 (toN i9)) 3))))) = true then
                      match F_fifo_Queue_Limit i12 y78 y79 q46 with
                      | none => none
                      | some () =>
                        if (ieq i12 i13) = true then
                          match F_fifo_Queue_All i12 y78 y79 q46 with
                          | none => none
                          | some q47 =>
                            match F_tollbarref22_Same q47 (D.toL (D.fld (getD r1 (toN i9)) 3)) with
                            | none => none
                            | some c58 =>
                              if c58 = true then
                                some (.inl ((iadd .i64 i9 (1 : Int)), i12, y78, y79, (D.toL (D.fld (getD r1 (toN i9)) 3)), i13, q46))
                              else
                                some (.inr false)
                        else
                          some (.inr false)
                    else
                      some (.inr false)
              else
                match F_fifo_Queue_Len i12 i10 i11 r7 with
                | none => none
                | some () =>
                  if (ieq i11 (ofN (xlen r6))) = true then
                    match F_fifo_Queue_Limit i12 i10 i11 r7 with
                    | none => none
                    | some () =>
                      if (ieq i12 i13) = true then
                        match F_fifo_Queue_All i12 i10 i11 r7 with
                        | none => none
                        | some q48 =>
                          match F_tollbarref22_Same q48 r6 with
                          | none => none
                          | some c59 =>
                            if c59 = true then
                              some (.inl ((iadd .i64 i9 (1 : Int)), i12, i10, i11, r6, i13, r7))
                            else
                              some (.inr false)
                      else
                        some (.inr false)
                  else
                    some (.inr false)
      else none
    else
      match F_fifo_Queue_Tune_3 (5 : Int) with
      | none => none
      | some () =>
        match F_fifo_Queue_Load_3 ([] : List D) with
        | none => none
        | some () =>
          match F_fifo_Queue_Pop_3 with
          | none => none
          | some () =>
            match F_fifo_Queue_Head_3 with
            | none => none
            | some () =>
              match F_fifo_Queue_Push_3 (0 : Int) (0 : Int) (0 : Int) with
              | none => none
              | some () =>
                match F_fifo_Queue_Len_3 with
                | none => none
                | some () =>
                  match F_fifo_Queue_Limit_3 with
                  | none => none
                  | some () =>
                    match F_fifo_Queue_All_3 with
                    | none => none
                    | some () =>
                      some (.inr (ieq (iadd .i64 (iadd .i64 (0 : Int) (0 : Int)) (ofN 0)) (0 : Int)))
noncomputable def F_tollbarlaw22_FifoDoes (x1 : Int) (r1 : List D) : Option (Bool) :=
  match F_tollbarlaw22_awake with
  | none => none
  | some c1 =>
    if c1 = true then
      match F_tollbarlaw22_small r1 with
      | none => none
      | some c2 =>
        if c2 = true then
          match F_fifo_New x1 with
          | none => none
          | some () =>
            iter (F_tollbarlaw22_FifoDoes_L1 r1) ((0 : Int), x1, (0 : Int), (0 : Int), (lsub ([] : List D) 0 (xlen ([] : List D))), x1, ([] : List D))
        else
          some true
    else
      some false
end Go.Proofs.Ytdagccoamfhdcaa
end
section
/-
  The contracts of the functions (printed by a program of ours).
-/
set_option linter.unusedVariables false
set_option linter.unusedSimpArgs false
namespace Go.Proofs.Ytdagccoamfhdcaa
open Go.RowKit

noncomputable def con_slices_Grow_1 (a : List SV) (c : List Ck) : Option CEff := match a, c with
  | [.nsl, (.v (.int .i64 x1))], [] => some ⟨[lock Obl fun _ => ∃ r, lock growP x1 = some r], .many ((Unit) ⊕ (Unit)) (fun r => lock growP x1 = some r) (fun | (.inl _) => .nsl | (.inr _) => (.wsl 0)) (fun | (.inl _) => [] | (.inr _) => [.to (.row (.row 28 (.st [(.int .u64), (.int .i64), (.int .i64)]) ([] : List D)))]), []⟩
  | _, _ => none
noncomputable def con_slices_Grow : Con := ⟨[], fun a c => con_slices_Grow_1 a c⟩

noncomputable def con_fifo_New_1 (a : List SV) (c : List Ck) : Option CEff := match a, c with
  | [(.v (.int .i64 x1))], [] => some ⟨[lock Obl fun _ => ∃ r, lock F_fifo_New x1 = some r], .many (Unit) (fun r => lock F_fifo_New x1 = some r) (fun _ => (.ptr 0 0)) (fun _ => [.to (.blk 54 [(.v (.int .i64 x1)), .nsl, (.v (.int .i64 (0 : Int))), (.v (.int .i64 (0 : Int)))])]), []⟩
  | _, _ => none
noncomputable def con_fifo_New : Con := ⟨[none], fun a c => con_fifo_New_1 a c⟩

noncomputable def con_fifo_Queue_grow_1 (a : List SV) (c : List Ck) : Option CEff := match a, c with
  | [(.ptr 0 0)], [.blk 54 [(.v (.int .i64 x1)), .nsl, (.v (.int .i64 x2)), (.v (.int .i64 x3))]] => some ⟨[lock Obl fun _ => ∃ r, lock F_fifo_Queue_grow x1 x2 x3 = some r], .many ((List D)) (fun r => lock F_fifo_Queue_grow x1 x2 x3 = some r) (fun u0 => (.tup [])) (fun u0 => [.to (.blk 54 [(.v (.int .i64 x1)), (.wsl 1), (.v (.int .i64 (0 : Int))), (.v (.int .i64 x3))]), .to (.row (.row 28 (.st [(.int .u64), (.int .i64), (.int .i64)]) u0))]), [false]⟩
  | _, _ => none
noncomputable def con_fifo_Queue_grow_2 (a : List SV) (c : List Ck) : Option CEff := match a, c with
  | [(.ptr 0 0)], [.blk 54 [(.v (.int .i64 x1)), (.wsl 1), (.v (.int .i64 x2)), (.v (.int .i64 x3))], .row (.row 28 (.st [(.int .u64), (.int .i64), (.int .i64)]) r1)] => some ⟨[lock Obl fun _ => ∃ r, lock F_fifo_Queue_grow_2 x1 x2 x3 r1 = some r], .many ((List D)) (fun r => lock F_fifo_Queue_grow_2 x1 x2 x3 r1 = some r) (fun u0 => (.tup [])) (fun u0 => [.to (.blk 54 [(.v (.int .i64 x1)), (.wsl 2), (.v (.int .i64 (0 : Int))), (.v (.int .i64 x3))]), .same, .to (.row (.row 28 (.st [(.int .u64), (.int .i64), (.int .i64)]) u0))]), [false, true]⟩
  | _, _ => none
noncomputable def con_fifo_Queue_grow : Con := ⟨[none], fun a c => altC (con_fifo_Queue_grow_1 a c) (con_fifo_Queue_grow_2 a c)⟩

noncomputable def con_fifo_Queue_at_1 (a : List SV) (c : List Ck) : Option CEff := match a, c with
  | [(.ptr 0 0), (.v (.int .i64 x1))], [.blk 54 [(.v (.int .i64 x2)), (.wsl 1), (.v (.int .i64 x3)), (.v (.int .i64 x4))], .row (.row 28 (.st [(.int .u64), (.int .i64), (.int .i64)]) r1)] => some ⟨[lock Obl fun _ => ∃ r, lock F_fifo_Queue_at x1 x2 x3 x4 r1 = some r], .many (Int) (fun r => lock F_fifo_Queue_at x1 x2 x3 x4 r1 = some r) (fun u0 => (.v (.int .i64 u0))) (fun u0 => [.same, .same]), [true, true]⟩
  | _, _ => none
noncomputable def con_fifo_Queue_at : Con := ⟨[none, none], fun a c => con_fifo_Queue_at_1 a c⟩

noncomputable def con_fifo_Queue_put_1 (a : List SV) (c : List Ck) : Option CEff := match a, c with
  | [(.ptr 0 0), (.agg [(.v (.int .u64 x1)), (.v (.int .i64 x2)), (.v (.int .i64 x3))])], [.blk 54 [(.v (.int .i64 x4)), .nsl, (.v (.int .i64 x5)), (.v (.int .i64 x6))]] => some ⟨[lock Obl fun _ => ∃ r, lock F_fifo_Queue_put x1 x2 x3 x4 x5 x6 = some r], .many (Int × (List D)) (fun r => lock F_fifo_Queue_put x1 x2 x3 x4 x5 x6 = some r) (fun | (u0, u1) => (.tup [])) (fun | (u0, u1) => [.to (.blk 54 [(.v (.int .i64 x4)), (.wsl 1), (.v (.int .i64 (0 : Int))), (.v (.int .i64 u0))]), .to (.row (.row 28 (.st [(.int .u64), (.int .i64), (.int .i64)]) u1))]), [false]⟩
  | _, _ => none
noncomputable def con_fifo_Queue_put_2 (a : List SV) (c : List Ck) : Option CEff := match a, c with
  | [(.ptr 0 0), (.agg [(.v (.int .u64 x1)), (.v (.int .i64 x2)), (.v (.int .i64 x3))])], [.blk 54 [(.v (.int .i64 x4)), (.wsl 1), (.v (.int .i64 x5)), (.v (.int .i64 x6))], .row (.row 28 (.st [(.int .u64), (.int .i64), (.int .i64)]) r1)] => some ⟨[lock Obl fun _ => ∃ r, lock F_fifo_Queue_put_2 x1 x2 x3 x4 x5 x6 r1 = some r], .many (Int × Int × (List D)) (fun r => lock F_fifo_Queue_put_2 x1 x2 x3 x4 x5 x6 r1 = some r) (fun | (u0, u1, u2) => (.tup [])) (fun | (u0, u1, u2) => [.to (.blk 54 [(.v (.int .i64 x4)), (.wsl 2), (.v (.int .i64 u0)), (.v (.int .i64 u1))]), .gone, .to (.row (.row 28 (.st [(.int .u64), (.int .i64), (.int .i64)]) u2))]), [false, false]⟩
  | _, _ => none
noncomputable def con_fifo_Queue_put : Con := ⟨[none, none], fun a c => altC (con_fifo_Queue_put_1 a c) (con_fifo_Queue_put_2 a c)⟩

noncomputable def con_fifo_Queue_Push_1 (a : List SV) (c : List Ck) : Option CEff := match a, c with
  | [(.ptr 0 0), (.agg [(.v (.int .u64 x1)), (.v (.int .i64 x2)), (.v (.int .i64 x3))])], [.blk 54 [(.v (.int .i64 x4)), .nsl, (.v (.int .i64 x5)), (.v (.int .i64 x6))]] => some ⟨[lock Obl fun _ => ∃ r, lock F_fifo_Queue_Push x1 x2 x3 x4 x5 x6 = some r], .many (Bool × Int × Int × (List D)) (fun r => lock F_fifo_Queue_Push x1 x2 x3 x4 x5 x6 = some r) (fun | (u0, u1, u2, u3) => (.v (.bool u0))) (fun | (u0, u1, u2, u3) => [.to (.blk 54 [(.v (.int .i64 x4)), (.wsl 1), (.v (.int .i64 u1)), (.v (.int .i64 u2))]), .to (.row (.row 28 (.st [(.int .u64), (.int .i64), (.int .i64)]) u3))]), [false]⟩
  | _, _ => none
noncomputable def con_fifo_Queue_Push_2 (a : List SV) (c : List Ck) : Option CEff := match a, c with
  | [(.ptr 0 0), (.agg [(.v (.int .u64 x1)), (.v (.int .i64 x2)), (.v (.int .i64 x3))])], [.blk 54 [(.v (.int .i64 x4)), (.wsl 1), (.v (.int .i64 x5)), (.v (.int .i64 x6))], .row (.row 28 (.st [(.int .u64), (.int .i64), (.int .i64)]) r1)] => some ⟨[lock Obl fun _ => ∃ r, lock F_fifo_Queue_Push_2 x1 x2 x3 x4 x5 x6 r1 = some r], .many (Bool × Int × Int × (List D)) (fun r => lock F_fifo_Queue_Push_2 x1 x2 x3 x4 x5 x6 r1 = some r) (fun | (u0, u1, u2, u3) => (.v (.bool u0))) (fun | (u0, u1, u2, u3) => [.to (.blk 54 [(.v (.int .i64 x4)), (.wsl 2), (.v (.int .i64 u1)), (.v (.int .i64 u2))]), .gone, .to (.row (.row 28 (.st [(.int .u64), (.int .i64), (.int .i64)]) u3))]), [false, false]⟩
  | _, _ => none
noncomputable def con_fifo_Queue_Push_3 (a : List SV) (c : List Ck) : Option CEff := match a, c with
  | [(.v (.pointer none)), (.agg [(.v (.int .u64 x1)), (.v (.int .i64 x2)), (.v (.int .i64 x3))])], [] => some ⟨[lock Obl fun _ => ∃ r, lock F_fifo_Queue_Push_3 x1 x2 x3 = some r], .many (Unit) (fun r => lock F_fifo_Queue_Push_3 x1 x2 x3 = some r) (fun _ => (.v (.bool false))) (fun _ => []), []⟩
  | _, _ => none
noncomputable def con_fifo_Queue_Push : Con := ⟨[none, none], fun a c => altC (con_fifo_Queue_Push_1 a c) (altC (con_fifo_Queue_Push_2 a c) (con_fifo_Queue_Push_3 a c))⟩

noncomputable def con_fifo_Queue_Len_1 (a : List SV) (c : List Ck) : Option CEff := match a, c with
  | [(.ptr 0 0)], [.blk 54 [(.v (.int .i64 x1)), (.wsl 1), (.v (.int .i64 x2)), (.v (.int .i64 x3))], .row (.row 28 (.st [(.int .u64), (.int .i64), (.int .i64)]) r1)] => some ⟨[lock Obl fun _ => ∃ r, lock F_fifo_Queue_Len x1 x2 x3 r1 = some r], .many (Unit) (fun r => lock F_fifo_Queue_Len x1 x2 x3 r1 = some r) (fun _ => (.v (.int .i64 x3))) (fun _ => [.same, .same]), [true, true]⟩
  | _, _ => none
noncomputable def con_fifo_Queue_Len_2 (a : List SV) (c : List Ck) : Option CEff := match a, c with
  | [(.v (.pointer none))], [] => some ⟨[lock Obl fun _ => ∃ r, lock F_fifo_Queue_Len_3 = some r], .many (Unit) (fun r => lock F_fifo_Queue_Len_3 = some r) (fun _ => (.v (.int .i64 (0 : Int)))) (fun _ => []), []⟩
  | _, _ => none
noncomputable def con_fifo_Queue_Len : Con := ⟨[none], fun a c => altC (con_fifo_Queue_Len_1 a c) (con_fifo_Queue_Len_2 a c)⟩

noncomputable def con_fifo_Queue_Head_1 (a : List SV) (c : List Ck) : Option CEff := match a, c with
  | [(.ptr 0 0)], [.blk 54 [(.v (.int .i64 x1)), (.wsl 1), (.v (.int .i64 x2)), (.v (.int .i64 x3))], .row (.row 28 (.st [(.int .u64), (.int .i64), (.int .i64)]) r1)] => some ⟨[lock Obl fun _ => ∃ r, lock F_fifo_Queue_Head x1 x2 x3 r1 = some r], .many (Int × Int × Int × Bool) (fun r => lock F_fifo_Queue_Head x1 x2 x3 r1 = some r) (fun | (u0, u1, u2, u3) => (.tup [(.agg [(.v (.int .u64 u0)), (.v (.int .i64 u1)), (.v (.int .i64 u2))]), (.v (.bool u3))])) (fun | (u0, u1, u2, u3) => [.same, .same]), [true, true]⟩
  | _, _ => none
noncomputable def con_fifo_Queue_Head_2 (a : List SV) (c : List Ck) : Option CEff := match a, c with
  | [(.v (.pointer none))], [] => some ⟨[lock Obl fun _ => ∃ r, lock F_fifo_Queue_Head_3 = some r], .many (Unit) (fun r => lock F_fifo_Queue_Head_3 = some r) (fun _ => (.tup [(.agg [(.v (.int .u64 (0 : Int))), (.v (.int .i64 (0 : Int))), (.v (.int .i64 (0 : Int)))]), (.v (.bool false))])) (fun _ => []), []⟩
  | _, _ => none
noncomputable def con_fifo_Queue_Head : Con := ⟨[none], fun a c => altC (con_fifo_Queue_Head_1 a c) (con_fifo_Queue_Head_2 a c)⟩

noncomputable def con_slices_Concat_1 (a : List SV) (c : List Ck) : Option CEff := match a, c with
  | [(.rsl (.row 22 (.row 28 (.st [(.int .u64), (.int .i64), (.int .i64)])) r1))], [] => some ⟨[lock Obl fun _ => ∃ r, lock F_slices_Concat r1 = some r], .many ((List D)) (fun r => lock F_slices_Concat r1 = some r) (fun u0 => (.wsl 0)) (fun u0 => [.to (.row (.row 28 (.st [(.int .u64), (.int .i64), (.int .i64)]) u0))]), []⟩
  | _, _ => none
noncomputable def con_slices_Concat : Con := ⟨[(some (.row 22 (.row 28 (.st [(.int .u64), (.int .i64), (.int .i64)]))))], fun a c => con_slices_Concat_1 a c⟩

noncomputable def con_fifo_Merge_1 (a : List SV) (c : List Ck) : Option CEff := match a, c with
  | [(.rsl (.row 28 (.st [(.int .u64), (.int .i64), (.int .i64)]) r1)), (.rsl (.row 28 (.st [(.int .u64), (.int .i64), (.int .i64)]) r2))], [] => some ⟨[lock Obl fun _ => ∃ r, lock F_fifo_Merge r1 r2 = some r], .many ((List D)) (fun r => lock F_fifo_Merge r1 r2 = some r) (fun u0 => (.wsl 0)) (fun u0 => [.to (.row (.row 28 (.st [(.int .u64), (.int .i64), (.int .i64)]) u0))]), []⟩
  | _, _ => none
noncomputable def con_fifo_Merge : Con := ⟨[(some (.row 28 (.st [(.int .u64), (.int .i64), (.int .i64)]))), (some (.row 28 (.st [(.int .u64), (.int .i64), (.int .i64)])))], fun a c => con_fifo_Merge_1 a c⟩

noncomputable def con_fifo_Queue_Limit_1 (a : List SV) (c : List Ck) : Option CEff := match a, c with
  | [(.ptr 0 0)], [.blk 54 [(.v (.int .i64 x1)), (.wsl 1), (.v (.int .i64 x2)), (.v (.int .i64 x3))], .row (.row 28 (.st [(.int .u64), (.int .i64), (.int .i64)]) r1)] => some ⟨[lock Obl fun _ => ∃ r, lock F_fifo_Queue_Limit x1 x2 x3 r1 = some r], .many (Unit) (fun r => lock F_fifo_Queue_Limit x1 x2 x3 r1 = some r) (fun _ => (.v (.int .i64 x1))) (fun _ => [.same, .same]), [true, true]⟩
  | _, _ => none
noncomputable def con_fifo_Queue_Limit_2 (a : List SV) (c : List Ck) : Option CEff := match a, c with
  | [(.v (.pointer none))], [] => some ⟨[lock Obl fun _ => ∃ r, lock F_fifo_Queue_Limit_3 = some r], .many (Unit) (fun r => lock F_fifo_Queue_Limit_3 = some r) (fun _ => (.v (.int .i64 (0 : Int)))) (fun _ => []), []⟩
  | _, _ => none
noncomputable def con_fifo_Queue_Limit : Con := ⟨[none], fun a c => altC (con_fifo_Queue_Limit_1 a c) (con_fifo_Queue_Limit_2 a c)⟩

noncomputable def con_fifo_Queue_All_1 (a : List SV) (c : List Ck) : Option CEff := match a, c with
  | [(.ptr 0 0)], [.blk 54 [(.v (.int .i64 x1)), (.wsl 1), (.v (.int .i64 x2)), (.v (.int .i64 x3))], .row (.row 28 (.st [(.int .u64), (.int .i64), (.int .i64)]) r1)] => some ⟨[lock Obl fun _ => ∃ r, lock F_fifo_Queue_All x1 x2 x3 r1 = some r], .many ((List D)) (fun r => lock F_fifo_Queue_All x1 x2 x3 r1 = some r) (fun u0 => (.wsl 2)) (fun u0 => [.same, .same, .to (.row (.row 28 (.st [(.int .u64), (.int .i64), (.int .i64)]) u0))]), [true, true]⟩
  | _, _ => none
noncomputable def con_fifo_Queue_All_2 (a : List SV) (c : List Ck) : Option CEff := match a, c with
  | [(.v (.pointer none))], [] => some ⟨[lock Obl fun _ => ∃ r, lock F_fifo_Queue_All_3 = some r], .many (Unit) (fun r => lock F_fifo_Queue_All_3 = some r) (fun _ => .nsl) (fun _ => []), []⟩
  | _, _ => none
noncomputable def con_fifo_Queue_All : Con := ⟨[none], fun a c => altC (con_fifo_Queue_All_1 a c) (con_fifo_Queue_All_2 a c)⟩

noncomputable def con_tollbarlaw22_awake_1 (a : List SV) (c : List Ck) : Option CEff := match a, c with
  | [], [] => some ⟨[lock Obl fun _ => ∃ r, lock F_tollbarlaw22_awake = some r], .many (Bool) (fun r => lock F_tollbarlaw22_awake = some r) (fun u0 => (.v (.bool u0))) (fun u0 => []), []⟩
  | _, _ => none
noncomputable def con_tollbarlaw22_awake : Con := ⟨[], fun a c => con_tollbarlaw22_awake_1 a c⟩

noncomputable def con_tollbarref22_Merge_1 (a : List SV) (c : List Ck) : Option CEff := match a, c with
  | [(.rsl (.row 28 (.st [(.int .u64), (.int .i64), (.int .i64)]) r1)), (.rsl (.row 28 (.st [(.int .u64), (.int .i64), (.int .i64)]) r2))], [] => some ⟨[lock Obl fun _ => ∃ r, lock F_tollbarref22_Merge r1 r2 = some r], .many ((List D)) (fun r => lock F_tollbarref22_Merge r1 r2 = some r) (fun u0 => (.wsl 0)) (fun u0 => [.to (.row (.row 28 (.st [(.int .u64), (.int .i64), (.int .i64)]) u0))]), []⟩
  | _, _ => none
noncomputable def con_tollbarref22_Merge : Con := ⟨[(some (.row 28 (.st [(.int .u64), (.int .i64), (.int .i64)]))), (some (.row 28 (.st [(.int .u64), (.int .i64), (.int .i64)])))], fun a c => con_tollbarref22_Merge_1 a c⟩

noncomputable def con_tollbarref22_Same_1 (a : List SV) (c : List Ck) : Option CEff := match a, c with
  | [(.rsl (.row 28 (.st [(.int .u64), (.int .i64), (.int .i64)]) r1)), (.rsl (.row 28 (.st [(.int .u64), (.int .i64), (.int .i64)]) r2))], [] => some ⟨[lock Obl fun _ => ∃ r, lock F_tollbarref22_Same r1 r2 = some r], .many (Bool) (fun r => lock F_tollbarref22_Same r1 r2 = some r) (fun u0 => (.v (.bool u0))) (fun u0 => []), []⟩
  | _, _ => none
noncomputable def con_tollbarref22_Same : Con := ⟨[(some (.row 28 (.st [(.int .u64), (.int .i64), (.int .i64)]))), (some (.row 28 (.st [(.int .u64), (.int .i64), (.int .i64)])))], fun a c => con_tollbarref22_Same_1 a c⟩

noncomputable def con_tollbarlaw22_FifoMerges_1 (a : List SV) (c : List Ck) : Option CEff := match a, c with
  | [(.rsl (.row 28 (.st [(.int .u64), (.int .i64), (.int .i64)]) r1)), (.rsl (.row 28 (.st [(.int .u64), (.int .i64), (.int .i64)]) r2))], [] => some ⟨[lock Obl fun _ => ∃ r, lock F_tollbarlaw22_FifoMerges r1 r2 = some r], .many (Bool) (fun r => lock F_tollbarlaw22_FifoMerges r1 r2 = some r) (fun u0 => (.v (.bool u0))) (fun u0 => []), []⟩
  | _, _ => none
noncomputable def con_tollbarlaw22_FifoMerges : Con := ⟨[], fun a c => con_tollbarlaw22_FifoMerges_1 a c⟩

noncomputable def con_fifo_Queue_Pop_1 (a : List SV) (c : List Ck) : Option CEff := match a, c with
  | [(.ptr 0 0)], [.blk 54 [(.v (.int .i64 x1)), (.wsl 1), (.v (.int .i64 x2)), (.v (.int .i64 x3))], .row (.row 28 (.st [(.int .u64), (.int .i64), (.int .i64)]) r1)] => some ⟨[lock Obl fun _ => ∃ r, lock F_fifo_Queue_Pop_2 x1 x2 x3 r1 = some r], .many (Int × Int × Int × Bool × Int × Int) (fun r => lock F_fifo_Queue_Pop_2 x1 x2 x3 r1 = some r) (fun | (u0, u1, u2, u3, u4, u5) => (.tup [(.agg [(.v (.int .u64 u0)), (.v (.int .i64 u1)), (.v (.int .i64 u2))]), (.v (.bool u3))])) (fun | (u0, u1, u2, u3, u4, u5) => [.to (.blk 54 [(.v (.int .i64 x1)), (.wsl 1), (.v (.int .i64 u4)), (.v (.int .i64 u5))]), .same]), [false, true]⟩
  | _, _ => none
noncomputable def con_fifo_Queue_Pop_2 (a : List SV) (c : List Ck) : Option CEff := match a, c with
  | [(.v (.pointer none))], [] => some ⟨[lock Obl fun _ => ∃ r, lock F_fifo_Queue_Pop_3 = some r], .many (Unit) (fun r => lock F_fifo_Queue_Pop_3 = some r) (fun _ => (.tup [(.agg [(.v (.int .u64 (0 : Int))), (.v (.int .i64 (0 : Int))), (.v (.int .i64 (0 : Int)))]), (.v (.bool false))])) (fun _ => []), []⟩
  | _, _ => none
noncomputable def con_fifo_Queue_Pop : Con := ⟨[none], fun a c => altC (con_fifo_Queue_Pop_1 a c) (con_fifo_Queue_Pop_2 a c)⟩

noncomputable def con_tollbarlaw22_FifoOrder_1 (a : List SV) (c : List Ck) : Option CEff := match a, c with
  | [(.v (.int .u8 x1)), (.rsl (.row 4 .bool r1))], [] => some ⟨[lock Obl fun _ => ∃ r, lock F_tollbarlaw22_FifoOrder x1 r1 = some r], .many (Bool) (fun r => lock F_tollbarlaw22_FifoOrder x1 r1 = some r) (fun u0 => (.v (.bool u0))) (fun u0 => []), []⟩
  | _, _ => none
noncomputable def con_tollbarlaw22_FifoOrder : Con := ⟨[], fun a c => con_tollbarlaw22_FifoOrder_1 a c⟩

noncomputable def con_fifo_Queue_Load_1 (a : List SV) (c : List Ck) : Option CEff := match a, c with
  | [(.ptr 0 0), (.rsl (.row 28 (.st [(.int .u64), (.int .i64), (.int .i64)]) r1))], [.blk 54 [(.v (.int .i64 x1)), .nsl, (.v (.int .i64 x2)), (.v (.int .i64 x3))]] => some ⟨[lock Obl fun _ => ∃ r, lock F_fifo_Queue_Load r1 x1 x2 x3 = some r], .many (Int × Int × (List D)) (fun r => lock F_fifo_Queue_Load r1 x1 x2 x3 = some r) (fun | (u0, u1, u2) => (.tup [])) (fun | (u0, u1, u2) => [.to (.blk 54 [(.v (.int .i64 x1)), (.wsl 1), (.v (.int .i64 u0)), (.v (.int .i64 u1))]), .to (.row (.row 28 (.st [(.int .u64), (.int .i64), (.int .i64)]) u2))]), [false]⟩
  | _, _ => none
noncomputable def con_fifo_Queue_Load_2 (a : List SV) (c : List Ck) : Option CEff := match a, c with
  | [(.ptr 0 0), (.rsl (.row 28 (.st [(.int .u64), (.int .i64), (.int .i64)]) r1))], [.blk 54 [(.v (.int .i64 x1)), (.wsl 1), (.v (.int .i64 x2)), (.v (.int .i64 x3))], .row (.row 28 (.st [(.int .u64), (.int .i64), (.int .i64)]) r2)] => some ⟨[lock Obl fun _ => ∃ r, lock F_fifo_Queue_Load_2 r1 x1 x2 x3 r2 = some r], .many (Int × Int × (List D)) (fun r => lock F_fifo_Queue_Load_2 r1 x1 x2 x3 r2 = some r) (fun | (u0, u1, u2) => (.tup [])) (fun | (u0, u1, u2) => [.to (.blk 54 [(.v (.int .i64 x1)), (.wsl 2), (.v (.int .i64 u0)), (.v (.int .i64 u1))]), .gone, .to (.row (.row 28 (.st [(.int .u64), (.int .i64), (.int .i64)]) u2))]), [false, false]⟩
  | _, _ => none
noncomputable def con_fifo_Queue_Load_3 (a : List SV) (c : List Ck) : Option CEff := match a, c with
  | [(.v (.pointer none)), (.rsl (.row 28 (.st [(.int .u64), (.int .i64), (.int .i64)]) r1))], [] => some ⟨[lock Obl fun _ => ∃ r, lock F_fifo_Queue_Load_3 r1 = some r], .many (Unit) (fun r => lock F_fifo_Queue_Load_3 r1 = some r) (fun _ => (.tup [])) (fun _ => []), []⟩
  | _, _ => none
noncomputable def con_fifo_Queue_Load : Con := ⟨[none, (some (.row 28 (.st [(.int .u64), (.int .i64), (.int .i64)])))], fun a c => altC (con_fifo_Queue_Load_1 a c) (altC (con_fifo_Queue_Load_2 a c) (con_fifo_Queue_Load_3 a c))⟩

noncomputable def con_tollbarlaw22_FifoOwn_1 (a : List SV) (c : List Ck) : Option CEff := match a, c with
  | [(.rsl (.row 28 (.st [(.int .u64), (.int .i64), (.int .i64)]) r1)), (.v (.int .u8 x1))], [] => some ⟨[lock Obl fun _ => ∃ r, lock F_tollbarlaw22_FifoOwn r1 x1 = some r], .many (Bool) (fun r => lock F_tollbarlaw22_FifoOwn r1 x1 = some r) (fun u0 => (.v (.bool u0))) (fun u0 => []), []⟩
  | _, _ => none
noncomputable def con_tollbarlaw22_FifoOwn : Con := ⟨[], fun a c => con_tollbarlaw22_FifoOwn_1 a c⟩

noncomputable def con_tollbarlaw22_small_1 (a : List SV) (c : List Ck) : Option CEff := match a, c with
  | [(.rsl (.row 45 (.st [(.int .i64), (.int .i64), (.st [(.int .u64), (.int .i64), (.int .i64)]), (.row 28 (.st [(.int .u64), (.int .i64), (.int .i64)]))]) r1))], [] => some ⟨[lock Obl fun _ => ∃ r, lock F_tollbarlaw22_small r1 = some r], .many (Bool) (fun r => lock F_tollbarlaw22_small r1 = some r) (fun u0 => (.v (.bool u0))) (fun u0 => []), []⟩
  | _, _ => none
noncomputable def con_tollbarlaw22_small : Con := ⟨[(some (.row 45 (.st [(.int .i64), (.int .i64), (.st [(.int .u64), (.int .i64), (.int .i64)]), (.row 28 (.st [(.int .u64), (.int .i64), (.int .i64)]))])))], fun a c => con_tollbarlaw22_small_1 a c⟩

noncomputable def con_fifo_Queue_Tune_1 (a : List SV) (c : List Ck) : Option CEff := match a, c with
  | [(.ptr 0 0), (.v (.int .i64 x1))], [.blk 54 [(.v (.int .i64 x2)), (.wsl 1), (.v (.int .i64 x3)), (.v (.int .i64 x4))], .row (.row 28 (.st [(.int .u64), (.int .i64), (.int .i64)]) r1)] => some ⟨[lock Obl fun _ => ∃ r, lock F_fifo_Queue_Tune_2 x1 x2 x3 x4 r1 = some r], .many (Unit) (fun r => lock F_fifo_Queue_Tune_2 x1 x2 x3 x4 r1 = some r) (fun _ => (.tup [])) (fun _ => [.to (.blk 54 [(.v (.int .i64 x1)), (.wsl 1), (.v (.int .i64 x3)), (.v (.int .i64 x4))]), .same]), [false, true]⟩
  | _, _ => none
noncomputable def con_fifo_Queue_Tune_2 (a : List SV) (c : List Ck) : Option CEff := match a, c with
  | [(.v (.pointer none)), (.v (.int .i64 x1))], [] => some ⟨[lock Obl fun _ => ∃ r, lock F_fifo_Queue_Tune_3 x1 = some r], .many (Unit) (fun r => lock F_fifo_Queue_Tune_3 x1 = some r) (fun _ => (.tup [])) (fun _ => []), []⟩
  | _, _ => none
noncomputable def con_fifo_Queue_Tune : Con := ⟨[none, none], fun a c => altC (con_fifo_Queue_Tune_1 a c) (con_fifo_Queue_Tune_2 a c)⟩

noncomputable def con_tollbarref22_Push_1 (a : List SV) (c : List Ck) : Option CEff := match a, c with
  | [(.agg [(.rsl (.row 28 (.st [(.int .u64), (.int .i64), (.int .i64)]) r1)), (.v (.int .i64 x1))]), (.agg [(.v (.int .u64 x2)), (.v (.int .i64 x3)), (.v (.int .i64 x4))])], [] => some ⟨[lock Obl fun _ => ∃ r, lock F_tollbarref22_Push_4 r1 x1 x2 x3 x4 = some r], .many ((List D) × Bool) (fun r => lock F_tollbarref22_Push_4 r1 x1 x2 x3 x4 = some r) (fun | (u0, u1) => (.tup [(.agg [(.rsl (.row 28 (.st [(.int .u64), (.int .i64), (.int .i64)]) u0)), (.v (.int .i64 x1))]), (.v (.bool u1))])) (fun | (u0, u1) => []), []⟩
  | _, _ => none
noncomputable def con_tollbarref22_Push : Con := ⟨[none, none], fun a c => con_tollbarref22_Push_1 a c⟩

noncomputable def con_tollbarref22_Pop_1 (a : List SV) (c : List Ck) : Option CEff := match a, c with
  | [(.agg [(.rsl (.row 28 (.st [(.int .u64), (.int .i64), (.int .i64)]) r1)), (.v (.int .i64 x1))])], [] => some ⟨[lock Obl fun _ => ∃ r, lock F_tollbarref22_Pop_4 r1 x1 = some r], .many ((List D) × Int × Int × Int × Bool) (fun r => lock F_tollbarref22_Pop_4 r1 x1 = some r) (fun | (u0, u1, u2, u3, u4) => (.tup [(.agg [(.rsl (.row 28 (.st [(.int .u64), (.int .i64), (.int .i64)]) u0)), (.v (.int .i64 x1))]), (.agg [(.v (.int .u64 u1)), (.v (.int .i64 u2)), (.v (.int .i64 u3))]), (.v (.bool u4))])) (fun | (u0, u1, u2, u3, u4) => []), []⟩
  | _, _ => none
noncomputable def con_tollbarref22_Pop : Con := ⟨[none], fun a c => con_tollbarref22_Pop_1 a c⟩

noncomputable def con_tollbarlaw22_FifoDoes_1 (a : List SV) (c : List Ck) : Option CEff := match a, c with
  | [(.v (.int .i64 x1)), (.rsl (.row 45 (.st [(.int .i64), (.int .i64), (.st [(.int .u64), (.int .i64), (.int .i64)]), (.row 28 (.st [(.int .u64), (.int .i64), (.int .i64)]))]) r1))], [] => some ⟨[lock Obl fun _ => ∃ r, lock F_tollbarlaw22_FifoDoes x1 r1 = some r], .many (Bool) (fun r => lock F_tollbarlaw22_FifoDoes x1 r1 = some r) (fun u0 => (.v (.bool u0))) (fun u0 => []), []⟩
  | _, _ => none
noncomputable def con_tollbarlaw22_FifoDoes : Con := ⟨[], fun a c => con_tollbarlaw22_FifoDoes_1 a c⟩
end Go.Proofs.Ytdagccoamfhdcaa
end
section
/-
  The functions of this seat, made short (printed by a program of ours).
-/
set_option linter.unusedVariables false
set_option maxRecDepth 20000
namespace Go.Proofs.Ytdagccoamfhdcaa
open Go.RowKit

/-- tollbar/tollbarlaw22.FifoMerges -/
def ic_3 : IC := (.seq (.reg false [⟨some 4, none, [], .mv (.k (.v (.bool false)))⟩])
 (.seq (.reg false [⟨some 11, none, [], .call 7 []⟩,
  ⟨some 5, none, [], .mv (.t 11)⟩])
 (.seq (.seq (.reg false [⟨some 12, none, [], .mv (.t 5)⟩,
  ⟨some 13, none, [], .bnot (.t 12)⟩])
 (.cond (.t 13)
 (.seq (.reg false [⟨some 4, none, [], .mv (.k (.v (.bool false)))⟩])
 .ret)
 .skip))
 (.seq (.seq (.reg false [⟨some 14, none, [], .mv (.t 0)⟩,
  ⟨some 15, none, [], .len false (.t 14)⟩,
  ⟨some 16, none, [], .ib .gt .i64 (.t 15) (.k (.v (.int .i64 200)))⟩,
  ⟨some 17, none, [], .mv (.t 16)⟩,
  ⟨some 18, some (17, false), [], .mv (.t 1)⟩,
  ⟨some 19, some (17, false), [], .len false (.t 18)⟩,
  ⟨some 20, some (17, false), [], .ib .gt .i64 (.t 19) (.k (.v (.int .i64 200)))⟩,
  ⟨some 21, none, [], .pick (.t 17) (.k (.v (.bool true))) (.t 20)⟩])
 (.cond (.t 21)
 (.seq (.reg false [⟨some 4, none, [], .mv (.k (.v (.bool true)))⟩])
 .ret)
 .skip))
 (.seq (.reg false [⟨some 22, none, [], .mv (.t 0)⟩,
  ⟨some 23, none, [], .mv (.t 1)⟩,
  ⟨some 24, none, [], .call 8 [(.t 22), (.t 23)]⟩,
  ⟨some 6, none, [], .mv (.t 24)⟩])
 (.seq (.seq (.reg false [⟨some 25, none, [], .mv (.t 6)⟩,
  ⟨some 26, none, [], .mv (.t 0)⟩,
  ⟨some 27, none, [], .mv (.t 1)⟩,
  ⟨some 28, none, [], .call 10 [(.t 26), (.t 27)]⟩,
  ⟨some 29, none, [], .call 9 [(.t 25), (.t 28)]⟩,
  ⟨some 30, none, [], .bnot (.t 29)⟩,
  ⟨some 31, none, [], .mv (.t 30)⟩,
  ⟨some 32, some (31, false), [], .mv (.t 6)⟩,
  ⟨some 33, some (31, false), [], .len false (.t 32)⟩,
  ⟨some 34, some (31, false), [], .mv (.t 0)⟩,
  ⟨some 35, some (31, false), [], .len false (.t 34)⟩,
  ⟨some 36, some (31, false), [], .mv (.t 1)⟩,
  ⟨some 37, some (31, false), [], .len false (.t 36)⟩,
  ⟨some 38, some (31, false), [], .ib .add .i64 (.t 35) (.t 37)⟩,
  ⟨some 39, some (31, false), [], .ib .ne .i64 (.t 33) (.t 38)⟩,
  ⟨some 40, none, [], .pick (.t 31) (.k (.v (.bool true))) (.t 39)⟩])
 (.cond (.t 40)
 (.seq (.reg false [⟨some 4, none, [], .mv (.k (.v (.bool false)))⟩])
 .ret)
 .skip))
 (.seq (.reg false [⟨some 7, none, [], .mv (.k (.v (.bool true)))⟩])
 (.seq (.seq (.reg false [⟨some 8, none, [], .mv (.k (.v (.int .i64 1)))⟩])
 (.block 0
 (.loop
 (.seq (.seq (.reg false [⟨some 41, none, [], .mv (.t 8)⟩,
  ⟨some 42, none, [], .mv (.t 0)⟩,
  ⟨some 43, none, [], .len false (.t 42)⟩,
  ⟨some 44, none, [], .ib .lt .i64 (.t 41) (.t 43)⟩])
 (.cond (.t 44)
 .skip
 (.exit 0)))
 (.seq (.block 1
 (.reg true [⟨some 47, none, [], .mv (.t 7)⟩,
  ⟨some 48, none, [0], .mv (.t 47)⟩,
  ⟨some 49, some (48, true), [1, 0], .mv (.t 0)⟩,
  ⟨some 50, some (48, true), [1, 0], .mv (.t 8)⟩,
  ⟨some 51, some (48, true), [3, 1, 0], .ib .sub .i64 (.t 50) (.k (.v (.int .i64 1)))⟩,
  ⟨some 52, some (48, true), [2, 1, 0, 4, 3], .idx (.t 49) (.t 51) 3⟩,
  ⟨some 53, some (48, true), [5, 2, 1, 0, 4, 3], .fld (.t 52) 0⟩,
  ⟨some 54, some (48, true), [6, 5, 2, 1, 0, 4, 3], .ld (.t 53)⟩,
  ⟨some 55, some (48, true), [1, 0], .mv (.t 0)⟩,
  ⟨some 56, some (48, true), [1, 0], .mv (.t 8)⟩,
  ⟨some 57, some (48, true), [8, 1, 0, 9], .idx (.t 55) (.t 56) 3⟩,
  ⟨some 58, some (48, true), [10, 8, 1, 0, 9], .fld (.t 57) 0⟩,
  ⟨some 59, some (48, true), [11, 10, 8, 1, 0, 9], .ld (.t 58)⟩,
  ⟨some 60, some (48, true), [7, 6, 5, 2, 1, 0, 4, 3, 12, 11, 10, 8, 9], .ib .lt .u64 (.t 54) (.t 59)⟩,
  ⟨some 61, none, [1, 0, 13, 7, 6, 5, 2, 4, 3, 12, 11, 10, 8, 9], .pick (.t 48) (.t 60) (.k (.v (.bool false)))⟩,
  ⟨some 7, none, [14, 1, 0, 13, 7, 6, 5, 2, 4, 3, 12, 11, 10, 8, 9], .mv (.t 61)⟩]))
 (.reg false [⟨some 45, none, [], .mv (.t 8)⟩,
  ⟨some 46, none, [], .ib .add .i64 (.t 45) (.k (.v (.int .i64 1)))⟩,
  ⟨some 8, none, [], .mv (.t 46)⟩]))))))
 (.seq (.seq (.reg false [⟨some 9, none, [], .mv (.k (.v (.int .i64 1)))⟩])
 (.block 2
 (.loop
 (.seq (.seq (.reg false [⟨some 62, none, [], .mv (.t 9)⟩,
  ⟨some 63, none, [], .mv (.t 1)⟩,
  ⟨some 64, none, [], .len false (.t 63)⟩,
  ⟨some 65, none, [], .ib .lt .i64 (.t 62) (.t 64)⟩])
 (.cond (.t 65)
 .skip
 (.exit 2)))
 (.seq (.block 3
 (.reg true [⟨some 68, none, [], .mv (.t 7)⟩,
  ⟨some 69, none, [0], .mv (.t 68)⟩,
  ⟨some 70, some (69, true), [1, 0], .mv (.t 1)⟩,
  ⟨some 71, some (69, true), [1, 0], .mv (.t 9)⟩,
  ⟨some 72, some (69, true), [3, 1, 0], .ib .sub .i64 (.t 71) (.k (.v (.int .i64 1)))⟩,
  ⟨some 73, some (69, true), [2, 1, 0, 4, 3], .idx (.t 70) (.t 72) 3⟩,
  ⟨some 74, some (69, true), [5, 2, 1, 0, 4, 3], .fld (.t 73) 0⟩,
  ⟨some 75, some (69, true), [6, 5, 2, 1, 0, 4, 3], .ld (.t 74)⟩,
  ⟨some 76, some (69, true), [1, 0], .mv (.t 1)⟩,
  ⟨some 77, some (69, true), [1, 0], .mv (.t 9)⟩,
  ⟨some 78, some (69, true), [8, 1, 0, 9], .idx (.t 76) (.t 77) 3⟩,
  ⟨some 79, some (69, true), [10, 8, 1, 0, 9], .fld (.t 78) 0⟩,
  ⟨some 80, some (69, true), [11, 10, 8, 1, 0, 9], .ld (.t 79)⟩,
  ⟨some 81, some (69, true), [7, 6, 5, 2, 1, 0, 4, 3, 12, 11, 10, 8, 9], .ib .lt .u64 (.t 75) (.t 80)⟩,
  ⟨some 82, none, [1, 0, 13, 7, 6, 5, 2, 4, 3, 12, 11, 10, 8, 9], .pick (.t 69) (.t 81) (.k (.v (.bool false)))⟩,
  ⟨some 7, none, [14, 1, 0, 13, 7, 6, 5, 2, 4, 3, 12, 11, 10, 8, 9], .mv (.t 82)⟩]))
 (.reg false [⟨some 66, none, [], .mv (.t 9)⟩,
  ⟨some 67, none, [], .ib .add .i64 (.t 66) (.k (.v (.int .i64 1)))⟩,
  ⟨some 9, none, [], .mv (.t 67)⟩]))))))
 (.seq (.seq (.reg false [⟨some 10, none, [], .mv (.k (.v (.int .i64 1)))⟩])
 (.block 4
 (.loop
 (.seq (.seq (.reg false [⟨some 83, none, [], .mv (.t 10)⟩,
  ⟨some 84, none, [], .mv (.t 6)⟩,
  ⟨some 85, none, [], .len false (.t 84)⟩,
  ⟨some 86, none, [], .ib .lt .i64 (.t 83) (.t 85)⟩,
  ⟨some 87, none, [], .mv (.t 86)⟩,
  ⟨some 88, some (87, true), [], .mv (.t 7)⟩,
  ⟨some 89, none, [], .pick (.t 87) (.t 88) (.k (.v (.bool false)))⟩])
 (.cond (.t 89)
 .skip
 (.exit 4)))
 (.seq (.block 5
 (.seq (.reg true [⟨some 92, none, [], .mv (.t 6)⟩,
  ⟨some 93, none, [], .mv (.t 10)⟩,
  ⟨some 94, none, [0, 1], .idx (.t 92) (.t 93) 3⟩,
  ⟨some 95, none, [2, 0, 1], .fld (.t 94) 0⟩,
  ⟨some 96, none, [3, 2, 0, 1], .ld (.t 95)⟩,
  ⟨some 97, none, [], .mv (.t 6)⟩,
  ⟨some 98, none, [], .mv (.t 10)⟩,
  ⟨some 99, none, [6], .ib .sub .i64 (.t 98) (.k (.v (.int .i64 1)))⟩,
  ⟨some 100, none, [5, 7, 6], .idx (.t 97) (.t 99) 3⟩,
  ⟨some 101, none, [8, 5, 7, 6], .fld (.t 100) 0⟩,
  ⟨some 102, none, [9, 8, 5, 7, 6], .ld (.t 101)⟩,
  ⟨some 103, none, [4, 3, 2, 0, 1, 10, 9, 8, 5, 7, 6], .ib .lt .u64 (.t 96) (.t 102)⟩])
 (.cond (.t 103)
 (.seq (.reg false [⟨some 4, none, [], .mv (.k (.v (.bool false)))⟩])
 .ret)
 .skip)))
 (.reg false [⟨some 90, none, [], .mv (.t 10)⟩,
  ⟨some 91, none, [], .ib .add .i64 (.t 90) (.k (.v (.int .i64 1)))⟩,
  ⟨some 10, none, [], .mv (.t 91)⟩]))))))
 (.seq (.reg false [⟨some 4, none, [], .mv (.k (.v (.bool true)))⟩])
 .ret)))))))))))
theorem comp_3 : compF Try.prog Try.f3 = some (ic_3, [.t 4], 104) := by kernel_rfl
-- ros 3 [(some (.row 28 (.st [(.int .u64), (.int .i64), (.int .i64)]))), (some (.row 28 (.st [(.int .u64), (.int .i64), (.int .i64)])))] TYS [(.row 28 (.st [(.int .u64), (.int .i64), (.int .i64)])), (.row 28 (.st [(.int .u64), (.int .i64), (.int .i64)]))]

/-- tollbar/tollbarlaw22.FifoOrder -/
def ic_4 : IC := (.seq (.reg false [⟨some 4, none, [], .mv (.k (.v (.bool false)))⟩])
 (.seq (.reg false [⟨some 14, none, [], .call 7 []⟩,
  ⟨some 5, none, [], .mv (.t 14)⟩])
 (.seq (.seq (.reg false [⟨some 15, none, [], .mv (.t 5)⟩,
  ⟨some 16, none, [], .bnot (.t 15)⟩])
 (.cond (.t 16)
 (.seq (.reg false [⟨some 4, none, [], .mv (.k (.v (.bool false)))⟩])
 .ret)
 .skip))
 (.seq (.seq (.reg false [⟨some 17, none, [], .mv (.t 1)⟩,
  ⟨some 18, none, [], .len false (.t 17)⟩,
  ⟨some 19, none, [], .ib .gt .i64 (.t 18) (.k (.v (.int .i64 300)))⟩])
 (.cond (.t 19)
 (.seq (.reg false [⟨some 4, none, [], .mv (.k (.v (.bool true)))⟩])
 .ret)
 .skip))
 (.seq (.reg false [⟨some 20, none, [], .mv (.t 0)⟩,
  ⟨some 21, none, [], .conv .i64 (.t 20)⟩,
  ⟨some 22, none, [], .call 11 [(.t 21)]⟩,
  ⟨some 6, none, [], .mv (.t 22)⟩])
 (.seq (.reg false [⟨some 7, none, [], .mv (.k (.v (.int .u64 0)))⟩])
 (.seq (.reg false [⟨some 8, none, [], .mv (.k (.v (.int .u64 0)))⟩])
 (.seq (.reg false [⟨some 9, none, [], .mv (.k (.v (.int .i64 0)))⟩])
 (.seq (.seq (.reg false [⟨some 10, none, [], .mv (.k (.v (.int .i64 0)))⟩])
 (.block 0
 (.loop
 (.seq (.seq (.reg false [⟨some 23, none, [], .mv (.t 10)⟩,
  ⟨some 24, none, [], .mv (.t 1)⟩,
  ⟨some 25, none, [], .len false (.t 24)⟩,
  ⟨some 26, none, [], .ib .lt .i64 (.t 23) (.t 25)⟩])
 (.cond (.t 26)
 .skip
 (.exit 0)))
 (.seq (.block 1
 (.seq (.seq (.reg false [⟨some 29, none, [], .mv (.t 1)⟩,
  ⟨some 30, none, [], .mv (.t 10)⟩,
  ⟨some 31, none, [], .idx (.t 29) (.t 30) 1⟩,
  ⟨some 32, none, [], .ld (.t 31)⟩])
 (.cond (.t 32)
 (.seq (.reg false [⟨some 33, none, [], .mv (.t 7)⟩,
  ⟨some 34, none, [], .ib .add .u64 (.t 33) (.k (.v (.int .u64 1)))⟩,
  ⟨some 7, none, [], .mv (.t 34)⟩])
 (.seq (.reg false [⟨some 35, none, [], .mv (.t 6)⟩,
  ⟨some 36, none, [], .mv (.t 7)⟩,
  ⟨some 37, none, [], .build [(.v (.int .u64 0)), (.v (.int .i64 0)), (.v (.int .i64 0))] [(0, 1, (.t 36))]⟩,
  ⟨some 38, none, [], .call 12 [(.t 35), (.t 37)]⟩,
  ⟨some 11, none, [], .mv (.t 38)⟩])
 (.seq (.seq (.reg false [⟨some 39, none, [], .mv (.t 11)⟩,
  ⟨some 40, none, [], .mv (.t 9)⟩,
  ⟨some 41, none, [], .mv (.t 0)⟩,
  ⟨some 42, none, [], .conv .i64 (.t 41)⟩,
  ⟨some 43, none, [], .ib .lt .i64 (.t 40) (.t 42)⟩,
  ⟨some 44, none, [], .bb true (.t 39) (.t 43)⟩])
 (.cond (.t 44)
 (.seq (.reg false [⟨some 4, none, [], .mv (.k (.v (.bool false)))⟩])
 .ret)
 .skip))
 (.seq (.reg false [⟨some 45, none, [], .mv (.t 11)⟩])
 (.cond (.t 45)
 (.reg false [⟨some 46, none, [], .mv (.t 9)⟩,
  ⟨some 47, none, [], .ib .add .i64 (.t 46) (.k (.v (.int .i64 1)))⟩,
  ⟨some 9, none, [], .mv (.t 47)⟩])
 .skip)))))
 (.seq (.reg false [⟨some 49, none, [], .mv (.t 6)⟩,
  ⟨some 50, none, [], .call 13 [(.t 49)]⟩,
  ⟨some 48, none, [], .mv (.t 50)⟩,
  ⟨some 51, none, [], .ext (.t 48) 0⟩,
  ⟨some 52, none, [], .ext (.t 48) 1⟩,
  ⟨some 12, none, [], .new 28 [(.v (.int .u64 0)), (.v (.int .i64 0)), (.v (.int .i64 0))]⟩,
  ⟨none, none, [], .st (.t 12) (.t 51) 3⟩,
  ⟨some 13, none, [], .mv (.t 52)⟩])
 (.seq (.seq (.reg false [⟨some 53, none, [], .mv (.t 13)⟩,
  ⟨some 54, none, [], .mv (.t 9)⟩,
  ⟨some 55, none, [], .ib .gt .i64 (.t 54) (.k (.v (.int .i64 0)))⟩,
  ⟨some 56, none, [], .bb true (.t 53) (.t 55)⟩,
  ⟨some 57, none, [], .mv (.t 56)⟩,
  ⟨some 58, some (57, false), [], .mv (.t 13)⟩,
  ⟨some 59, some (57, false), [], .mv (.t 58)⟩,
  ⟨some 60, some (59, true), [], .fld (.t 12) 0⟩,
  ⟨some 61, some (59, true), [], .ld (.t 60)⟩,
  ⟨some 62, some (59, true), [], .mv (.t 8)⟩,
  ⟨some 63, some (59, true), [], .ib .le .u64 (.t 61) (.t 62)⟩,
  ⟨some 64, some (57, false), [], .pick (.t 59) (.t 63) (.k (.v (.bool false)))⟩,
  ⟨some 65, none, [], .pick (.t 57) (.k (.v (.bool true))) (.t 64)⟩])
 (.cond (.t 65)
 (.seq (.reg false [⟨some 4, none, [], .mv (.k (.v (.bool false)))⟩])
 .ret)
 .skip))
 (.seq (.reg false [⟨some 66, none, [], .mv (.t 13)⟩])
 (.cond (.t 66)
 (.seq (.reg false [⟨some 67, none, [], .mv (.t 9)⟩,
  ⟨some 68, none, [], .ib .sub .i64 (.t 67) (.k (.v (.int .i64 1)))⟩,
  ⟨some 9, none, [], .mv (.t 68)⟩])
 (.reg false [⟨some 69, none, [], .fld (.t 12) 0⟩,
  ⟨some 70, none, [], .ld (.t 69)⟩,
  ⟨some 8, none, [], .mv (.t 70)⟩]))
 .skip))))))
 (.seq (.reg false [⟨some 71, none, [], .mv (.t 6)⟩,
  ⟨some 72, none, [], .call 14 [(.t 71)]⟩,
  ⟨some 73, none, [], .mv (.t 9)⟩,
  ⟨some 74, none, [], .ib .ne .i64 (.t 72) (.t 73)⟩])
 (.cond (.t 74)
 (.seq (.reg false [⟨some 4, none, [], .mv (.k (.v (.bool false)))⟩])
 .ret)
 .skip))))
 (.reg false [⟨some 27, none, [], .mv (.t 10)⟩,
  ⟨some 28, none, [], .ib .add .i64 (.t 27) (.k (.v (.int .i64 1)))⟩,
  ⟨some 10, none, [], .mv (.t 28)⟩]))))))
 (.seq (.reg false [⟨some 4, none, [], .mv (.k (.v (.bool true)))⟩])
 .ret))))))))))
theorem comp_4 : compF Try.prog Try.f4 = some (ic_4, [.t 4], 75) := by kernel_rfl
-- ros 4 [none, (some (.row 4 .bool))] TYS [(.int .u8), (.row 4 .bool)]

/-- tollbar/tollbarlaw22.FifoOwn -/
def ic_5 : IC := (.seq (.reg false [⟨some 4, none, [], .mv (.k (.v (.bool false)))⟩])
 (.seq (.reg false [⟨some 15, none, [], .call 7 []⟩,
  ⟨some 5, none, [], .mv (.t 15)⟩])
 (.seq (.seq (.reg false [⟨some 16, none, [], .mv (.t 5)⟩,
  ⟨some 17, none, [], .bnot (.t 16)⟩])
 (.cond (.t 17)
 (.seq (.reg false [⟨some 4, none, [], .mv (.k (.v (.bool false)))⟩])
 .ret)
 .skip))
 (.seq (.seq (.reg false [⟨some 18, none, [], .mv (.t 0)⟩,
  ⟨some 19, none, [], .len false (.t 18)⟩,
  ⟨some 20, none, [], .ib .gt .i64 (.t 19) (.k (.v (.int .i64 200)))⟩])
 (.cond (.t 20)
 (.seq (.reg false [⟨some 4, none, [], .mv (.k (.v (.bool true)))⟩])
 .ret)
 .skip))
 (.seq (.reg false [⟨some 21, none, [], .call 11 [(.k (.v (.int .i64 3)))]⟩,
  ⟨some 6, none, [], .mv (.t 21)⟩])
 (.seq (.reg false [⟨some 7, none, [], .mv (.k .nsl)⟩])
 (.seq (.reg false [⟨some 22, none, [], .mv (.t 7)⟩,
  ⟨some 23, none, [], .mv (.t 0)⟩,
  ⟨some 24, none, [], .app (.row 28 (.st [(.int .u64), (.int .i64), (.int .i64)])) 24 (.t 22) (.t 23)⟩,
  ⟨some 7, none, [], .mv (.t 24)⟩])
 (.seq (.reg false [⟨some 25, none, [], .mv (.t 6)⟩,
  ⟨some 26, none, [], .mv (.t 7)⟩,
  ⟨some 27, none, [], .call 15 [(.t 25), (.t 26)]⟩])
 (.seq (.seq (.reg false [⟨some 8, none, [], .mv (.k (.v (.int .i64 0)))⟩])
 (.block 0
 (.loop
 (.seq (.seq (.reg false [⟨some 28, none, [], .mv (.t 8)⟩,
  ⟨some 29, none, [], .mv (.t 7)⟩,
  ⟨some 30, none, [], .len false (.t 29)⟩,
  ⟨some 31, none, [], .ib .lt .i64 (.t 28) (.t 30)⟩])
 (.cond (.t 31)
 .skip
 (.exit 0)))
 (.seq (.block 1
 (.reg false [⟨some 34, none, [], .mv (.t 7)⟩,
  ⟨some 35, none, [], .mv (.t 8)⟩,
  ⟨some 36, none, [], .idx (.t 34) (.t 35) 3⟩,
  ⟨some 37, none, [], .fld (.t 36) 0⟩,
  ⟨none, none, [], .st (.t 37) (.k (.v (.int .u64 99))) 1⟩]))
 (.reg false [⟨some 32, none, [], .mv (.t 8)⟩,
  ⟨some 33, none, [], .ib .add .i64 (.t 32) (.k (.v (.int .i64 1)))⟩,
  ⟨some 8, none, [], .mv (.t 33)⟩]))))))
 (.seq (.reg false [⟨some 38, none, [], .mv (.t 6)⟩,
  ⟨some 39, none, [], .call 16 [(.t 38)]⟩,
  ⟨some 9, none, [], .mv (.t 39)⟩])
 (.seq (.seq (.reg false [⟨some 10, none, [], .mv (.k (.v (.int .i64 0)))⟩])
 (.block 2
 (.loop
 (.seq (.seq (.reg false [⟨some 40, none, [], .mv (.t 10)⟩,
  ⟨some 41, none, [], .mv (.t 9)⟩,
  ⟨some 42, none, [], .len false (.t 41)⟩,
  ⟨some 43, none, [], .ib .lt .i64 (.t 40) (.t 42)⟩])
 (.cond (.t 43)
 .skip
 (.exit 2)))
 (.seq (.block 3
 (.reg false [⟨some 46, none, [], .mv (.t 9)⟩,
  ⟨some 47, none, [], .mv (.t 10)⟩,
  ⟨some 48, none, [], .idx (.t 46) (.t 47) 3⟩,
  ⟨some 49, none, [], .fld (.t 48) 2⟩,
  ⟨none, none, [], .st (.t 49) (.k (.v (.int .i64 77))) 1⟩]))
 (.reg false [⟨some 44, none, [], .mv (.t 10)⟩,
  ⟨some 45, none, [], .ib .add .i64 (.t 44) (.k (.v (.int .i64 1)))⟩,
  ⟨some 10, none, [], .mv (.t 45)⟩]))))))
 (.seq (.reg false [⟨some 50, none, [], .mv (.t 1)⟩,
  ⟨some 51, none, [], .conv .i64 (.t 50)⟩,
  ⟨some 52, none, [], .mv (.t 0)⟩,
  ⟨some 53, none, [], .len false (.t 52)⟩,
  ⟨some 54, none, [], .ib .add .i64 (.t 53) (.k (.v (.int .i64 1)))⟩,
  ⟨some 55, none, [], .ib .rem .i64 (.t 51) (.t 54)⟩,
  ⟨some 11, none, [], .mv (.t 55)⟩])
 (.seq (.seq (.reg false [⟨some 56, none, [], .mv (.t 6)⟩,
  ⟨some 57, none, [], .call 16 [(.t 56)]⟩,
  ⟨some 58, none, [], .mv (.t 0)⟩,
  ⟨some 59, none, [], .call 9 [(.t 57), (.t 58)]⟩,
  ⟨some 60, none, [], .bnot (.t 59)⟩,
  ⟨some 61, none, [], .mv (.t 60)⟩,
  ⟨some 62, some (61, false), [], .mv (.t 6)⟩,
  ⟨some 63, some (61, false), [], .call 14 [(.t 62)]⟩,
  ⟨some 64, some (61, false), [], .mv (.t 0)⟩,
  ⟨some 65, some (61, false), [], .len false (.t 64)⟩,
  ⟨some 66, some (61, false), [], .ib .ne .i64 (.t 63) (.t 65)⟩,
  ⟨some 67, none, [], .pick (.t 61) (.k (.v (.bool true))) (.t 66)⟩])
 (.cond (.t 67)
 (.seq (.reg false [⟨some 4, none, [], .mv (.k (.v (.bool false)))⟩])
 .ret)
 .skip))
 (.seq (.seq (.reg false [⟨some 12, none, [], .mv (.k (.v (.int .i64 0)))⟩])
 (.block 4
 (.loop
 (.seq (.seq (.reg false [⟨some 68, none, [], .mv (.t 12)⟩,
  ⟨some 69, none, [], .mv (.t 11)⟩,
  ⟨some 70, none, [], .ib .lt .i64 (.t 68) (.t 69)⟩])
 (.cond (.t 70)
 .skip
 (.exit 4)))
 (.seq (.block 5
 (.reg false [⟨some 73, none, [], .mv (.t 6)⟩,
  ⟨some 74, none, [], .call 13 [(.t 73)]⟩]))
 (.reg false [⟨some 71, none, [], .mv (.t 12)⟩,
  ⟨some 72, none, [], .ib .add .i64 (.t 71) (.k (.v (.int .i64 1)))⟩,
  ⟨some 12, none, [], .mv (.t 72)⟩]))))))
 (.seq (.reg false [⟨some 75, none, [], .mv (.t 6)⟩,
  ⟨some 76, none, [], .build [(.v (.int .u64 0)), (.v (.int .i64 0)), (.v (.int .i64 0))] [(0, 1, (.k (.v (.int .u64 7))))]⟩,
  ⟨some 77, none, [], .call 12 [(.t 75), (.t 76)]⟩,
  ⟨some 13, none, [], .mv (.t 77)⟩])
 (.seq (.reg false [⟨some 78, none, [], .mv (.t 0)⟩,
  ⟨some 79, none, [], .len false (.t 78)⟩,
  ⟨some 80, none, [], .mv (.t 11)⟩,
  ⟨some 81, none, [], .ib .sub .i64 (.t 79) (.t 80)⟩,
  ⟨some 14, none, [], .mv (.t 81)⟩])
 (.seq (.seq (.reg false [⟨some 82, none, [], .mv (.t 13)⟩])
 (.cond (.t 82)
 (.reg false [⟨some 83, none, [], .mv (.t 14)⟩,
  ⟨some 84, none, [], .ib .add .i64 (.t 83) (.k (.v (.int .i64 1)))⟩,
  ⟨some 14, none, [], .mv (.t 84)⟩])
 .skip))
 (.seq (.reg false [⟨some 85, none, [], .mv (.t 13)⟩,
  ⟨some 86, none, [], .mv (.t 0)⟩,
  ⟨some 87, none, [], .len false (.t 86)⟩,
  ⟨some 88, none, [], .mv (.t 11)⟩,
  ⟨some 89, none, [], .ib .sub .i64 (.t 87) (.t 88)⟩,
  ⟨some 90, none, [], .ib .lt .i64 (.t 89) (.k (.v (.int .i64 3)))⟩,
  ⟨some 91, none, [], .bb false (.t 85) (.t 90)⟩,
  ⟨some 92, none, [], .mv (.t 91)⟩,
  ⟨some 93, some (92, true), [], .mv (.t 6)⟩,
  ⟨some 94, some (92, true), [], .call 14 [(.t 93)]⟩,
  ⟨some 95, some (92, true), [], .mv (.t 14)⟩,
  ⟨some 96, some (92, true), [], .ib .eq .i64 (.t 94) (.t 95)⟩,
  ⟨some 97, none, [], .pick (.t 92) (.t 96) (.k (.v (.bool false)))⟩,
  ⟨some 4, none, [], .mv (.t 97)⟩])
 .ret))))))))))))))))))
theorem comp_5 : compF Try.prog Try.f5 = some (ic_5, [.t 4], 98) := by kernel_rfl
-- ros 5 [(some (.row 28 (.st [(.int .u64), (.int .i64), (.int .i64)]))), none] TYS [(.row 28 (.st [(.int .u64), (.int .i64), (.int .i64)])), (.int .u8)]

/-- tollbar/tollbarlaw22.FifoDoes -/
def ic_6 : IC := (.seq (.reg false [⟨some 4, none, [], .mv (.k (.v (.bool false)))⟩])
 (.seq (.reg false [⟨some 25, none, [], .call 7 []⟩,
  ⟨some 5, none, [], .mv (.t 25)⟩])
 (.seq (.seq (.reg false [⟨some 26, none, [], .mv (.t 5)⟩,
  ⟨some 27, none, [], .bnot (.t 26)⟩])
 (.cond (.t 27)
 (.seq (.reg false [⟨some 4, none, [], .mv (.k (.v (.bool false)))⟩])
 .ret)
 .skip))
 (.seq (.reg false [⟨some 28, none, [], .mv (.t 1)⟩,
  ⟨some 29, none, [], .call 17 [(.t 28)]⟩,
  ⟨some 6, none, [], .mv (.t 29)⟩])
 (.seq (.seq (.reg false [⟨some 30, none, [], .mv (.t 6)⟩,
  ⟨some 31, none, [], .bnot (.t 30)⟩])
 (.cond (.t 31)
 (.seq (.reg false [⟨some 4, none, [], .mv (.k (.v (.bool true)))⟩])
 .ret)
 .skip))
 (.seq (.reg false [⟨some 32, none, [], .mv (.t 0)⟩,
  ⟨some 33, none, [], .call 11 [(.t 32)]⟩,
  ⟨some 7, none, [], .mv (.t 33)⟩])
 (.seq (.reg false [⟨some 34, none, [], .mv (.t 0)⟩,
  ⟨some 35, none, [], .build [.nsl, (.v (.int .i64 0))] [(1, 1, (.t 34))]⟩,
  ⟨some 8, none, [], .new 43 [.nsl, (.v (.int .i64 0))]⟩,
  ⟨none, none, [], .st (.t 8) (.t 35) 2⟩])
 (.seq (.seq (.reg false [⟨some 9, none, [], .mv (.k (.v (.int .i64 0)))⟩])
 (.block 0
 (.loop
 (.seq (.seq (.reg false [⟨some 36, none, [], .mv (.t 9)⟩,
  ⟨some 37, none, [], .mv (.t 1)⟩,
  ⟨some 38, none, [], .len false (.t 37)⟩,
  ⟨some 39, none, [], .ib .lt .i64 (.t 36) (.t 38)⟩])
 (.cond (.t 39)
 .skip
 (.exit 0)))
 (.seq (.block 1
 (.seq (.reg false [⟨some 42, none, [], .mv (.t 1)⟩,
  ⟨some 43, none, [], .mv (.t 9)⟩,
  ⟨some 44, none, [], .idx (.t 42) (.t 43) 6⟩,
  ⟨some 45, none, [], .lda (.t 44) 6⟩,
  ⟨some 10, none, [], .new 45 [(.v (.int .i64 0)), (.v (.int .i64 0)), (.v (.int .u64 0)), (.v (.int .i64 0)), (.v (.int .i64 0)), .nsl]⟩,
  ⟨none, none, [], .st (.t 10) (.t 45) 6⟩])
 (.seq (.seq (.reg false [⟨some 46, none, [], .fld (.t 10) 0⟩,
  ⟨some 47, none, [], .ld (.t 46)⟩])
 (.block 2
 (.seq (.reg false [⟨some 49, none, [], .ib .eq .i64 (.t 47) (.k (.v (.int .i64 0)))⟩,
  ⟨some 48, none, [], .mv (.t 49)⟩])
 (.cond (.t 48)
 (.seq (.reg false [⟨some 51, none, [], .lda (.t 8) 2⟩,
  ⟨some 52, none, [], .fld (.t 10) 2⟩,
  ⟨some 53, none, [], .lda (.t 52) 3⟩,
  ⟨some 54, none, [], .call 18 [(.t 51), (.t 53)]⟩,
  ⟨some 50, none, [], .mv (.t 54)⟩,
  ⟨some 55, none, [], .ext (.t 50) 0⟩,
  ⟨some 56, none, [], .ext (.t 50) 1⟩,
  ⟨some 11, none, [], .new 43 [.nsl, (.v (.int .i64 0))]⟩,
  ⟨none, none, [], .st (.t 11) (.t 55) 2⟩,
  ⟨some 12, none, [], .mv (.t 56)⟩])
 (.seq (.seq (.reg false [⟨some 57, none, [], .mv (.t 7)⟩,
  ⟨some 58, none, [], .fld (.t 10) 2⟩,
  ⟨some 59, none, [], .lda (.t 58) 3⟩,
  ⟨some 60, none, [], .call 12 [(.t 57), (.t 59)]⟩,
  ⟨some 61, none, [], .mv (.t 12)⟩,
  ⟨some 62, none, [], .bb true (.t 60) (.t 61)⟩])
 (.cond (.t 62)
 (.seq (.reg false [⟨some 4, none, [], .mv (.k (.v (.bool false)))⟩])
 .ret)
 .skip))
 (.reg false [⟨some 63, none, [], .lda (.t 11) 2⟩,
  ⟨none, none, [], .st (.t 8) (.t 63) 2⟩])))
 (.seq (.reg false [⟨some 65, none, [], .ib .eq .i64 (.t 47) (.k (.v (.int .i64 1)))⟩,
  ⟨some 64, none, [], .mv (.t 65)⟩])
 (.cond (.t 64)
 (.seq (.reg false [⟨some 67, none, [], .lda (.t 8) 2⟩,
  ⟨some 68, none, [], .call 19 [(.t 67)]⟩,
  ⟨some 66, none, [], .mv (.t 68)⟩,
  ⟨some 69, none, [], .ext (.t 66) 0⟩,
  ⟨some 70, none, [], .ext (.t 66) 1⟩,
  ⟨some 71, none, [], .ext (.t 66) 2⟩,
  ⟨some 13, none, [], .new 43 [.nsl, (.v (.int .i64 0))]⟩,
  ⟨some 14, none, [], .new 28 [(.v (.int .u64 0)), (.v (.int .i64 0)), (.v (.int .i64 0))]⟩,
  ⟨none, none, [], .st (.t 13) (.t 69) 2⟩,
  ⟨none, none, [], .st (.t 14) (.t 70) 3⟩,
  ⟨some 15, none, [], .mv (.t 71)⟩])
 (.seq (.reg false [⟨some 73, none, [], .mv (.t 7)⟩,
  ⟨some 74, none, [], .call 20 [(.t 73)]⟩,
  ⟨some 72, none, [], .mv (.t 74)⟩,
  ⟨some 75, none, [], .ext (.t 72) 0⟩,
  ⟨some 76, none, [], .ext (.t 72) 1⟩,
  ⟨some 16, none, [], .new 28 [(.v (.int .u64 0)), (.v (.int .i64 0)), (.v (.int .i64 0))]⟩,
  ⟨none, none, [], .st (.t 16) (.t 75) 3⟩,
  ⟨some 17, none, [], .mv (.t 76)⟩])
 (.seq (.reg false [⟨some 78, none, [], .mv (.t 7)⟩,
  ⟨some 79, none, [], .call 13 [(.t 78)]⟩,
  ⟨some 77, none, [], .mv (.t 79)⟩,
  ⟨some 80, none, [], .ext (.t 77) 0⟩,
  ⟨some 81, none, [], .ext (.t 77) 1⟩,
  ⟨some 18, none, [], .new 28 [(.v (.int .u64 0)), (.v (.int .i64 0)), (.v (.int .i64 0))]⟩,
  ⟨none, none, [], .st (.t 18) (.t 80) 3⟩,
  ⟨some 19, none, [], .mv (.t 81)⟩])
 (.seq (.seq (.reg false [⟨some 82, none, [], .lda (.t 18) 3⟩,
  ⟨some 83, none, [], .lda (.t 14) 3⟩,
  ⟨some 84, none, [], .steq [0, 0, 0] true (.t 82) (.t 83)⟩,
  ⟨some 85, none, [], .mv (.t 84)⟩,
  ⟨some 86, some (85, false), [], .mv (.t 19)⟩,
  ⟨some 87, some (85, false), [], .mv (.t 15)⟩,
  ⟨some 88, some (85, false), [], .bb true (.t 86) (.t 87)⟩,
  ⟨some 89, none, [], .pick (.t 85) (.k (.v (.bool true))) (.t 88)⟩,
  ⟨some 90, none, [], .mv (.t 89)⟩,
  ⟨some 91, some (90, false), [], .lda (.t 16) 3⟩,
  ⟨some 92, some (90, false), [], .lda (.t 14) 3⟩,
  ⟨some 93, some (90, false), [], .steq [0, 0, 0] true (.t 91) (.t 92)⟩,
  ⟨some 94, none, [], .pick (.t 90) (.k (.v (.bool true))) (.t 93)⟩,
  ⟨some 95, none, [], .mv (.t 94)⟩,
  ⟨some 96, some (95, false), [], .mv (.t 17)⟩,
  ⟨some 97, some (95, false), [], .mv (.t 15)⟩,
  ⟨some 98, some (95, false), [], .bb true (.t 96) (.t 97)⟩,
  ⟨some 99, none, [], .pick (.t 95) (.k (.v (.bool true))) (.t 98)⟩])
 (.cond (.t 99)
 (.seq (.reg false [⟨some 4, none, [], .mv (.k (.v (.bool false)))⟩])
 .ret)
 .skip))
 (.reg false [⟨some 100, none, [], .lda (.t 13) 2⟩,
  ⟨none, none, [], .st (.t 8) (.t 100) 2⟩])))))
 (.seq (.reg false [⟨some 102, none, [], .ib .eq .i64 (.t 47) (.k (.v (.int .i64 2)))⟩,
  ⟨some 101, none, [], .mv (.t 102)⟩])
 (.cond (.t 101)
 (.seq (.reg false [⟨some 103, none, [], .mv (.t 7)⟩,
  ⟨some 104, none, [], .fld (.t 10) 1⟩,
  ⟨some 105, none, [], .ld (.t 104)⟩,
  ⟨some 106, none, [], .call 21 [(.t 103), (.t 105)]⟩])
 (.reg false [⟨some 107, none, [], .fld (.t 10) 1⟩,
  ⟨some 108, none, [], .ld (.t 107)⟩,
  ⟨some 109, none, [], .fld (.t 8) 1⟩,
  ⟨none, none, [], .st (.t 109) (.t 108) 1⟩]))
 (.seq (.reg false [⟨some 111, none, [], .ib .eq .i64 (.t 47) (.k (.v (.int .i64 3)))⟩,
  ⟨some 110, none, [], .mv (.t 111)⟩])
 (.cond (.t 110)
 (.seq (.reg false [⟨some 112, none, [], .mv (.t 7)⟩,
  ⟨some 113, none, [], .fld (.t 10) 5⟩,
  ⟨some 114, none, [], .ld (.t 113)⟩,
  ⟨some 115, none, [], .call 15 [(.t 112), (.t 114)]⟩])
 (.reg false [⟨some 116, none, [], .fld (.t 10) 5⟩,
  ⟨some 117, none, [], .ld (.t 116)⟩,
  ⟨some 118, none, [], .fld (.t 8) 0⟩,
  ⟨none, none, [], .st (.t 118) (.t 117) 1⟩]))
 .skip))))))))))
 (.seq (.reg true [⟨some 119, none, [], .mv (.t 7)⟩,
  ⟨some 120, none, [0], .call 14 [(.t 119)]⟩,
  ⟨some 121, none, [], .fld (.t 8) 0⟩,
  ⟨some 122, none, [2], .ld (.t 121)⟩,
  ⟨some 123, none, [3, 2], .len false (.t 122)⟩,
  ⟨some 124, none, [1, 0, 4, 3, 2], .ib .ne .i64 (.t 120) (.t 123)⟩,
  ⟨some 125, none, [5, 1, 0, 4, 3, 2], .mv (.t 124)⟩,
  ⟨some 126, some (125, false), [6, 5, 1, 0, 4, 3, 2], .mv (.t 7)⟩,
  ⟨some 127, some (125, false), [7, 6, 5, 1, 0, 4, 3, 2], .call 22 [(.t 126)]⟩,
  ⟨some 128, some (125, false), [6, 5, 1, 0, 4, 3, 2], .fld (.t 8) 1⟩,
  ⟨some 129, some (125, false), [9, 6, 5, 1, 0, 4, 3, 2], .ld (.t 128)⟩,
  ⟨some 130, some (125, false), [8, 7, 6, 5, 1, 0, 4, 3, 2, 10, 9], .ib .ne .i64 (.t 127) (.t 129)⟩,
  ⟨some 131, none, [6, 5, 1, 0, 4, 3, 2, 11, 8, 7, 10, 9], .pick (.t 125) (.k (.v (.bool true))) (.t 130)⟩,
  ⟨some 132, none, [12, 6, 5, 1, 0, 4, 3, 2, 11, 8, 7, 10, 9], .mv (.t 131)⟩,
  ⟨some 133, some (132, false), [13, 12, 6, 5, 1, 0, 4, 3, 2, 11, 8, 7, 10, 9], .mv (.t 7)⟩,
  ⟨some 134, some (132, false), [14, 13, 12, 6, 5, 1, 0, 4, 3, 2, 11, 8, 7, 10, 9], .call 16 [(.t 133)]⟩,
  ⟨some 135, some (132, false), [13, 12, 6, 5, 1, 0, 4, 3, 2, 11, 8, 7, 10, 9], .fld (.t 8) 0⟩,
  ⟨some 136, some (132, false), [16, 13, 12, 6, 5, 1, 0, 4, 3, 2, 11, 8, 7, 10, 9], .ld (.t 135)⟩,
  ⟨some 137, some (132, false), [15, 14, 13, 12, 6, 5, 1, 0, 4, 3, 2, 11, 8, 7, 10, 9, 17, 16], .call 9 [(.t 134), (.t 136)]⟩,
  ⟨some 138, some (132, false), [18, 15, 14, 13, 12, 6, 5, 1, 0, 4, 3, 2, 11, 8, 7, 10, 9, 17, 16], .bnot (.t 137)⟩,
  ⟨some 139, none, [13, 12, 6, 5, 1, 0, 4, 3, 2, 11, 8, 7, 10, 9, 19, 18, 15, 14, 17, 16], .pick (.t 132) (.k (.v (.bool true))) (.t 138)⟩])
 (.cond (.t 139)
 (.seq (.reg false [⟨some 4, none, [], .mv (.k (.v (.bool false)))⟩])
 .ret)
 .skip)))))
 (.reg false [⟨some 40, none, [], .mv (.t 9)⟩,
  ⟨some 41, none, [], .ib .add .i64 (.t 40) (.k (.v (.int .i64 1)))⟩,
  ⟨some 9, none, [], .mv (.t 41)⟩]))))))
 (.seq (.reg false [⟨some 20, none, [], .mv (.k (.v (.pointer none)))⟩])
 (.seq (.reg false [⟨some 140, none, [], .mv (.t 20)⟩,
  ⟨some 141, none, [], .call 21 [(.t 140), (.k (.v (.int .i64 5)))]⟩])
 (.seq (.reg false [⟨some 142, none, [], .mv (.t 20)⟩,
  ⟨some 143, none, [], .call 15 [(.t 142), (.k .nsl)]⟩])
 (.seq (.reg false [⟨some 145, none, [], .mv (.t 20)⟩,
  ⟨some 146, none, [], .call 13 [(.t 145)]⟩,
  ⟨some 144, none, [], .mv (.t 146)⟩,
  ⟨some 147, none, [], .ext (.t 144) 0⟩,
  ⟨some 148, none, [], .ext (.t 144) 1⟩,
  ⟨some 21, none, [], .new 28 [(.v (.int .u64 0)), (.v (.int .i64 0)), (.v (.int .i64 0))]⟩,
  ⟨none, none, [], .st (.t 21) (.t 147) 3⟩,
  ⟨some 22, none, [], .mv (.t 148)⟩])
 (.seq (.reg false [⟨some 150, none, [], .mv (.t 20)⟩,
  ⟨some 151, none, [], .call 20 [(.t 150)]⟩,
  ⟨some 149, none, [], .mv (.t 151)⟩,
  ⟨some 152, none, [], .ext (.t 149) 0⟩,
  ⟨some 153, none, [], .ext (.t 149) 1⟩,
  ⟨some 23, none, [], .new 28 [(.v (.int .u64 0)), (.v (.int .i64 0)), (.v (.int .i64 0))]⟩,
  ⟨none, none, [], .st (.t 23) (.t 152) 3⟩,
  ⟨some 24, none, [], .mv (.t 153)⟩])
 (.seq (.reg false [⟨some 154, none, [], .mv (.t 22)⟩,
  ⟨some 155, none, [], .bnot (.t 154)⟩,
  ⟨some 156, none, [], .mv (.t 155)⟩,
  ⟨some 157, some (156, true), [], .mv (.t 24)⟩,
  ⟨some 158, some (156, true), [], .bnot (.t 157)⟩,
  ⟨some 159, none, [], .pick (.t 156) (.t 158) (.k (.v (.bool false)))⟩,
  ⟨some 160, none, [], .mv (.t 159)⟩,
  ⟨some 161, some (160, true), [], .mv (.t 20)⟩,
  ⟨some 162, some (160, true), [], .build [(.v (.int .u64 0)), (.v (.int .i64 0)), (.v (.int .i64 0))] []⟩,
  ⟨some 163, some (160, true), [], .call 12 [(.t 161), (.t 162)]⟩,
  ⟨some 164, some (160, true), [], .bnot (.t 163)⟩,
  ⟨some 165, none, [], .pick (.t 160) (.t 164) (.k (.v (.bool false)))⟩,
  ⟨some 166, none, [], .mv (.t 165)⟩,
  ⟨some 167, some (166, true), [], .mv (.t 20)⟩,
  ⟨some 168, some (166, true), [], .call 14 [(.t 167)]⟩,
  ⟨some 169, some (166, true), [], .mv (.t 20)⟩,
  ⟨some 170, some (166, true), [], .call 22 [(.t 169)]⟩,
  ⟨some 171, some (166, true), [], .ib .add .i64 (.t 168) (.t 170)⟩,
  ⟨some 172, some (166, true), [], .mv (.t 20)⟩,
  ⟨some 173, some (166, true), [], .call 16 [(.t 172)]⟩,
  ⟨some 174, some (166, true), [], .len false (.t 173)⟩,
  ⟨some 175, some (166, true), [], .ib .add .i64 (.t 171) (.t 174)⟩,
  ⟨some 176, some (166, true), [], .ib .eq .i64 (.t 175) (.k (.v (.int .i64 0)))⟩,
  ⟨some 177, none, [], .pick (.t 166) (.t 176) (.k (.v (.bool false)))⟩,
  ⟨some 4, none, [], .mv (.t 177)⟩])
 .ret))))))))))))))
theorem comp_6 : compF Try.prog Try.f6 = some (ic_6, [.t 4], 178) := by kernel_rfl
-- ros 6 [none, (some (.row 45 (.st [(.int .i64), (.int .i64), (.st [(.int .u64), (.int .i64), (.int .i64)]), (.row 28 (.st [(.int .u64), (.int .i64), (.int .i64)]))])))] TYS [(.int .i64), (.row 45 (.st [(.int .i64), (.int .i64), (.st [(.int .u64), (.int .i64), (.int .i64)]), (.row 28 (.st [(.int .u64), (.int .i64), (.int .i64)]))]))]

/-- tollbar/tollbarlaw22.awake -/
def ic_7 : IC := (.seq (.reg false [⟨some 0, none, [], .mv (.k (.v (.bool false)))⟩])
 (.seq (.reg false [⟨some 7, none, [], .call 11 [(.k (.v (.int .i64 1)))]⟩,
  ⟨some 1, none, [], .mv (.t 7)⟩])
 (.seq (.seq (.reg false [⟨some 8, none, [], .mv (.t 1)⟩,
  ⟨some 9, none, [], .isn 0 false (.t 8)⟩])
 (.cond (.t 9)
 (.seq (.reg false [⟨some 0, none, [], .mv (.k (.v (.bool false)))⟩])
 .ret)
 .skip))
 (.seq (.reg false [⟨some 10, none, [], .mv (.t 1)⟩,
  ⟨some 11, none, [], .build [(.v (.int .u64 0)), (.v (.int .i64 0)), (.v (.int .i64 0))] [(0, 1, (.k (.v (.int .u64 5))))]⟩,
  ⟨some 12, none, [], .call 12 [(.t 10), (.t 11)]⟩,
  ⟨some 2, none, [], .mv (.t 12)⟩])
 (.seq (.reg false [⟨some 13, none, [], .mv (.t 1)⟩,
  ⟨some 14, none, [], .build [(.v (.int .u64 0)), (.v (.int .i64 0)), (.v (.int .i64 0))] [(0, 1, (.k (.v (.int .u64 6))))]⟩,
  ⟨some 15, none, [], .call 12 [(.t 13), (.t 14)]⟩,
  ⟨some 3, none, [], .mv (.t 15)⟩])
 (.seq (.reg false [⟨some 17, none, [], .mv (.t 1)⟩,
  ⟨some 18, none, [], .call 20 [(.t 17)]⟩,
  ⟨some 16, none, [], .mv (.t 18)⟩,
  ⟨some 19, none, [], .ext (.t 16) 0⟩,
  ⟨some 20, none, [], .ext (.t 16) 1⟩,
  ⟨some 4, none, [], .new 28 [(.v (.int .u64 0)), (.v (.int .i64 0)), (.v (.int .i64 0))]⟩,
  ⟨none, none, [], .st (.t 4) (.t 19) 3⟩,
  ⟨some 5, none, [], .mv (.t 20)⟩])
 (.seq (.reg false [⟨some 21, none, [], .build [(.v (.int .u64 0)), (.v (.int .i64 0)), (.v (.int .i64 0))] [(0, 1, (.k (.v (.int .u64 2))))]⟩,
  ⟨some 22, none, [], .bsl (.row 28 (.st [(.int .u64), (.int .i64), (.int .i64)])) 1 [(.v (.int .u64 0)), (.v (.int .i64 0)), (.v (.int .i64 0))] [(0, 3, (.t 21))]⟩,
  ⟨some 23, none, [], .build [(.v (.int .u64 0)), (.v (.int .i64 0)), (.v (.int .i64 0))] [(0, 1, (.k (.v (.int .u64 1))))]⟩,
  ⟨some 24, none, [], .build [(.v (.int .u64 0)), (.v (.int .i64 0)), (.v (.int .i64 0))] [(0, 1, (.k (.v (.int .u64 3))))]⟩,
  ⟨some 25, none, [], .bsl (.row 28 (.st [(.int .u64), (.int .i64), (.int .i64)])) 2 [(.v (.int .u64 0)), (.v (.int .i64 0)), (.v (.int .i64 0)), (.v (.int .u64 0)), (.v (.int .i64 0)), (.v (.int .i64 0))] [(0, 3, (.t 23)), (3, 3, (.t 24))]⟩,
  ⟨some 26, none, [], .call 8 [(.t 22), (.t 25)]⟩,
  ⟨some 6, none, [], .mv (.t 26)⟩])
 (.seq (.reg false [⟨some 27, none, [], .mv (.t 2)⟩,
  ⟨some 28, none, [], .mv (.t 27)⟩,
  ⟨some 29, some (28, true), [], .mv (.t 3)⟩,
  ⟨some 30, some (28, true), [], .bnot (.t 29)⟩,
  ⟨some 31, none, [], .pick (.t 28) (.t 30) (.k (.v (.bool false)))⟩,
  ⟨some 32, none, [], .mv (.t 31)⟩,
  ⟨some 33, some (32, true), [], .mv (.t 5)⟩,
  ⟨some 34, none, [], .pick (.t 32) (.t 33) (.k (.v (.bool false)))⟩,
  ⟨some 35, none, [], .mv (.t 34)⟩,
  ⟨some 36, some (35, true), [], .fld (.t 4) 0⟩,
  ⟨some 37, some (35, true), [], .ld (.t 36)⟩,
  ⟨some 38, some (35, true), [], .ib .eq .u64 (.t 37) (.k (.v (.int .u64 5)))⟩,
  ⟨some 39, none, [], .pick (.t 35) (.t 38) (.k (.v (.bool false)))⟩,
  ⟨some 40, none, [], .mv (.t 39)⟩,
  ⟨some 41, some (40, true), [], .mv (.t 1)⟩,
  ⟨some 42, some (40, true), [], .call 14 [(.t 41)]⟩,
  ⟨some 43, some (40, true), [], .ib .eq .i64 (.t 42) (.k (.v (.int .i64 1)))⟩,
  ⟨some 44, none, [], .pick (.t 40) (.t 43) (.k (.v (.bool false)))⟩,
  ⟨some 45, none, [], .mv (.t 44)⟩,
  ⟨some 46, some (45, true), [], .mv (.t 1)⟩,
  ⟨some 47, some (45, true), [], .call 22 [(.t 46)]⟩,
  ⟨some 48, some (45, true), [], .ib .eq .i64 (.t 47) (.k (.v (.int .i64 1)))⟩,
  ⟨some 49, none, [], .pick (.t 45) (.t 48) (.k (.v (.bool false)))⟩,
  ⟨some 50, none, [], .mv (.t 49)⟩,
  ⟨some 51, some (50, true), [], .mv (.t 1)⟩,
  ⟨some 52, some (50, true), [], .call 16 [(.t 51)]⟩,
  ⟨some 53, some (50, true), [], .len false (.t 52)⟩,
  ⟨some 54, some (50, true), [], .ib .eq .i64 (.t 53) (.k (.v (.int .i64 1)))⟩,
  ⟨some 55, none, [], .pick (.t 50) (.t 54) (.k (.v (.bool false)))⟩,
  ⟨some 56, none, [], .mv (.t 55)⟩,
  ⟨some 57, some (56, true), [], .mv (.t 6)⟩,
  ⟨some 58, some (56, true), [], .len false (.t 57)⟩,
  ⟨some 59, some (56, true), [], .ib .eq .i64 (.t 58) (.k (.v (.int .i64 3)))⟩,
  ⟨some 60, none, [], .pick (.t 56) (.t 59) (.k (.v (.bool false)))⟩,
  ⟨some 61, none, [], .mv (.t 60)⟩,
  ⟨some 62, some (61, true), [], .mv (.t 6)⟩,
  ⟨some 63, some (61, true), [], .idx (.t 62) (.k (.v (.int .i64 0))) 3⟩,
  ⟨some 64, some (61, true), [], .fld (.t 63) 0⟩,
  ⟨some 65, some (61, true), [], .ld (.t 64)⟩,
  ⟨some 66, some (61, true), [], .ib .eq .u64 (.t 65) (.k (.v (.int .u64 1)))⟩,
  ⟨some 67, none, [], .pick (.t 61) (.t 66) (.k (.v (.bool false)))⟩,
  ⟨some 68, none, [], .mv (.t 67)⟩,
  ⟨some 69, some (68, true), [], .mv (.t 6)⟩,
  ⟨some 70, some (68, true), [], .idx (.t 69) (.k (.v (.int .i64 2))) 3⟩,
  ⟨some 71, some (68, true), [], .fld (.t 70) 0⟩,
  ⟨some 72, some (68, true), [], .ld (.t 71)⟩,
  ⟨some 73, some (68, true), [], .ib .eq .u64 (.t 72) (.k (.v (.int .u64 3)))⟩,
  ⟨some 74, none, [], .pick (.t 68) (.t 73) (.k (.v (.bool false)))⟩,
  ⟨some 0, none, [], .mv (.t 74)⟩])
 .ret))))))))
theorem comp_7 : compF Try.prog Try.f7 = some (ic_7, [.t 0], 75) := by kernel_rfl
-- ros 7 [] TYS []

/-- tollbar/fifo.Merge -/
def ic_8 : IC := (.seq (.reg false [⟨some 4, none, [], .mv (.k .nsl)⟩])
 (.seq (.reg false [⟨some 5, none, [], .mv (.k .nsl)⟩])
 (.seq (.block 0
 (.loop
 (.seq (.seq (.reg false [⟨some 6, none, [], .mv (.t 0)⟩,
  ⟨some 7, none, [], .len false (.t 6)⟩,
  ⟨some 8, none, [], .ib .gt .i64 (.t 7) (.k (.v (.int .i64 0)))⟩,
  ⟨some 9, none, [], .mv (.t 8)⟩,
  ⟨some 10, some (9, true), [], .mv (.t 1)⟩,
  ⟨some 11, some (9, true), [], .len false (.t 10)⟩,
  ⟨some 12, some (9, true), [], .ib .gt .i64 (.t 11) (.k (.v (.int .i64 0)))⟩,
  ⟨some 13, none, [], .pick (.t 9) (.t 12) (.k (.v (.bool false)))⟩])
 (.cond (.t 13)
 .skip
 (.exit 0)))
 (.block 1
 (.seq (.reg true [⟨some 14, none, [], .mv (.t 1)⟩,
  ⟨some 15, none, [0], .idx (.t 14) (.k (.v (.int .i64 0))) 3⟩,
  ⟨some 16, none, [1, 0], .fld (.t 15) 0⟩,
  ⟨some 17, none, [2, 1, 0], .ld (.t 16)⟩,
  ⟨some 18, none, [], .mv (.t 0)⟩,
  ⟨some 19, none, [4], .idx (.t 18) (.k (.v (.int .i64 0))) 3⟩,
  ⟨some 20, none, [5, 4], .fld (.t 19) 0⟩,
  ⟨some 21, none, [6, 5, 4], .ld (.t 20)⟩,
  ⟨some 22, none, [3, 2, 1, 0, 7, 6, 5, 4], .ib .lt .u64 (.t 17) (.t 21)⟩])
 (.cond (.t 22)
 (.reg true [⟨some 23, none, [], .mv (.t 5)⟩,
  ⟨some 24, none, [], .mv (.t 1)⟩,
  ⟨some 25, none, [1], .idx (.t 24) (.k (.v (.int .i64 0))) 3⟩,
  ⟨some 26, none, [2, 1], .lda (.t 25) 3⟩,
  ⟨some 27, none, [3, 2, 1], .bsl (.row 28 (.st [(.int .u64), (.int .i64), (.int .i64)])) 1 [(.v (.int .u64 0)), (.v (.int .i64 0)), (.v (.int .i64 0))] [(0, 3, (.t 26))]⟩,
  ⟨some 28, none, [0, 4, 3, 2, 1], .app (.row 28 (.st [(.int .u64), (.int .i64), (.int .i64)])) 24 (.t 23) (.t 27)⟩,
  ⟨some 29, none, [], .mv (.t 1)⟩,
  ⟨some 30, none, [6], .sls (.t 29) (some (.k (.v (.int .i64 1)))) none 3⟩,
  ⟨some 5, none, [5, 0, 4, 3, 2, 1], .mv (.t 28)⟩,
  ⟨some 1, none, [7, 6, 8, 5, 0, 4, 3, 2, 1], .mv (.t 30)⟩])
 (.reg true [⟨some 31, none, [], .mv (.t 5)⟩,
  ⟨some 32, none, [], .mv (.t 0)⟩,
  ⟨some 33, none, [1], .idx (.t 32) (.k (.v (.int .i64 0))) 3⟩,
  ⟨some 34, none, [2, 1], .lda (.t 33) 3⟩,
  ⟨some 35, none, [3, 2, 1], .bsl (.row 28 (.st [(.int .u64), (.int .i64), (.int .i64)])) 1 [(.v (.int .u64 0)), (.v (.int .i64 0)), (.v (.int .i64 0))] [(0, 3, (.t 34))]⟩,
  ⟨some 36, none, [0, 4, 3, 2, 1], .app (.row 28 (.st [(.int .u64), (.int .i64), (.int .i64)])) 24 (.t 31) (.t 35)⟩,
  ⟨some 37, none, [], .mv (.t 0)⟩,
  ⟨some 38, none, [6], .sls (.t 37) (some (.k (.v (.int .i64 1)))) none 3⟩,
  ⟨some 5, none, [5, 0, 4, 3, 2, 1], .mv (.t 36)⟩,
  ⟨some 0, none, [7, 6, 8, 5, 0, 4, 3, 2, 1], .mv (.t 38)⟩])))))))
 (.seq (.reg false [⟨some 39, none, [], .mv (.t 5)⟩,
  ⟨some 40, none, [], .mv (.t 0)⟩,
  ⟨some 41, none, [], .mv (.t 1)⟩,
  ⟨some 42, none, [], .bsl (.row 22 (.row 28 (.st [(.int .u64), (.int .i64), (.int .i64)]))) 3 [.nsl, .nsl, .nsl] [(0, 1, (.t 39)), (1, 1, (.t 40)), (2, 1, (.t 41))]⟩,
  ⟨some 43, none, [], .call 23 [(.t 42)]⟩,
  ⟨some 4, none, [], .mv (.t 43)⟩])
 .ret))))
theorem comp_8 : compF Try.prog Try.f8 = some (ic_8, [.t 4], 44) := by kernel_rfl
-- ros 8 [(some (.row 28 (.st [(.int .u64), (.int .i64), (.int .i64)]))), (some (.row 28 (.st [(.int .u64), (.int .i64), (.int .i64)])))] TYS [(.row 28 (.st [(.int .u64), (.int .i64), (.int .i64)])), (.row 28 (.st [(.int .u64), (.int .i64), (.int .i64)]))]

/-- tollbar/tollbarref22.Same -/
def ic_9 : IC := (.seq (.reg false [⟨some 4, none, [], .mv (.k (.v (.bool false)))⟩])
 (.seq (.seq (.reg false [⟨some 6, none, [], .mv (.t 0)⟩,
  ⟨some 7, none, [], .len false (.t 6)⟩,
  ⟨some 8, none, [], .mv (.t 1)⟩,
  ⟨some 9, none, [], .len false (.t 8)⟩,
  ⟨some 10, none, [], .ib .ne .i64 (.t 7) (.t 9)⟩])
 (.cond (.t 10)
 (.seq (.reg false [⟨some 4, none, [], .mv (.k (.v (.bool false)))⟩])
 .ret)
 .skip))
 (.seq (.seq (.reg false [⟨some 5, none, [], .mv (.k (.v (.int .i64 0)))⟩])
 (.block 0
 (.loop
 (.seq (.seq (.reg false [⟨some 11, none, [], .mv (.t 5)⟩,
  ⟨some 12, none, [], .mv (.t 0)⟩,
  ⟨some 13, none, [], .len false (.t 12)⟩,
  ⟨some 14, none, [], .ib .lt .i64 (.t 11) (.t 13)⟩])
 (.cond (.t 14)
 .skip
 (.exit 0)))
 (.seq (.block 1
 (.seq (.reg true [⟨some 17, none, [], .mv (.t 0)⟩,
  ⟨some 18, none, [], .mv (.t 5)⟩,
  ⟨some 19, none, [0, 1], .idx (.t 17) (.t 18) 3⟩,
  ⟨some 20, none, [2, 0, 1], .lda (.t 19) 3⟩,
  ⟨some 21, none, [], .mv (.t 1)⟩,
  ⟨some 22, none, [], .mv (.t 5)⟩,
  ⟨some 23, none, [4, 5], .idx (.t 21) (.t 22) 3⟩,
  ⟨some 24, none, [6, 4, 5], .lda (.t 23) 3⟩,
  ⟨some 25, none, [3, 2, 0, 1, 7, 6, 4, 5], .steq [0, 0, 0] true (.t 20) (.t 24)⟩])
 (.cond (.t 25)
 (.seq (.reg false [⟨some 4, none, [], .mv (.k (.v (.bool false)))⟩])
 .ret)
 .skip)))
 (.reg false [⟨some 15, none, [], .mv (.t 5)⟩,
  ⟨some 16, none, [], .ib .add .i64 (.t 15) (.k (.v (.int .i64 1)))⟩,
  ⟨some 5, none, [], .mv (.t 16)⟩]))))))
 (.seq (.reg false [⟨some 4, none, [], .mv (.k (.v (.bool true)))⟩])
 .ret))))
theorem comp_9 : compF Try.prog Try.f9 = some (ic_9, [.t 4], 26) := by kernel_rfl
-- ros 9 [(some (.row 28 (.st [(.int .u64), (.int .i64), (.int .i64)]))), (some (.row 28 (.st [(.int .u64), (.int .i64), (.int .i64)])))] TYS [(.row 28 (.st [(.int .u64), (.int .i64), (.int .i64)])), (.row 28 (.st [(.int .u64), (.int .i64), (.int .i64)]))]

/-- tollbar/tollbarref22.Merge -/
def ic_10 : IC := (.seq (.reg false [⟨some 4, none, [], .mv (.k .nsl)⟩])
 (.seq (.reg false [⟨some 5, none, [], .mv (.k .nsl)⟩])
 (.seq (.block 0
 (.loop
 (.seq (.seq (.reg false [⟨some 6, none, [], .mv (.t 0)⟩,
  ⟨some 7, none, [], .len false (.t 6)⟩,
  ⟨some 8, none, [], .ib .gt .i64 (.t 7) (.k (.v (.int .i64 0)))⟩,
  ⟨some 9, none, [], .mv (.t 8)⟩,
  ⟨some 10, some (9, false), [], .mv (.t 1)⟩,
  ⟨some 11, some (9, false), [], .len false (.t 10)⟩,
  ⟨some 12, some (9, false), [], .ib .gt .i64 (.t 11) (.k (.v (.int .i64 0)))⟩,
  ⟨some 13, none, [], .pick (.t 9) (.k (.v (.bool true))) (.t 12)⟩])
 (.cond (.t 13)
 .skip
 (.exit 0)))
 (.block 1
 (.seq (.reg true [⟨some 14, none, [], .mv (.t 0)⟩,
  ⟨some 15, none, [0], .len false (.t 14)⟩,
  ⟨some 16, none, [1, 0], .ib .eq .i64 (.t 15) (.k (.v (.int .i64 0)))⟩,
  ⟨some 17, none, [2, 1, 0], .mv (.t 16)⟩,
  ⟨some 18, some (17, false), [3, 2, 1, 0], .mv (.t 1)⟩,
  ⟨some 19, some (17, false), [4, 3, 2, 1, 0], .len false (.t 18)⟩,
  ⟨some 20, some (17, false), [5, 4, 3, 2, 1, 0], .ib .gt .i64 (.t 19) (.k (.v (.int .i64 0)))⟩,
  ⟨some 21, some (17, false), [6, 5, 4, 3, 2, 1, 0], .mv (.t 20)⟩,
  ⟨some 22, some (21, true), [7, 6, 5, 4, 3, 2, 1, 0], .mv (.t 1)⟩,
  ⟨some 23, some (21, true), [8, 7, 6, 5, 4, 3, 2, 1, 0], .idx (.t 22) (.k (.v (.int .i64 0))) 3⟩,
  ⟨some 24, some (21, true), [9, 8, 7, 6, 5, 4, 3, 2, 1, 0], .fld (.t 23) 0⟩,
  ⟨some 25, some (21, true), [10, 9, 8, 7, 6, 5, 4, 3, 2, 1, 0], .ld (.t 24)⟩,
  ⟨some 26, some (21, true), [7, 6, 5, 4, 3, 2, 1, 0], .mv (.t 0)⟩,
  ⟨some 27, some (21, true), [12, 7, 6, 5, 4, 3, 2, 1, 0], .idx (.t 26) (.k (.v (.int .i64 0))) 3⟩,
  ⟨some 28, some (21, true), [13, 12, 7, 6, 5, 4, 3, 2, 1, 0], .fld (.t 27) 0⟩,
  ⟨some 29, some (21, true), [14, 13, 12, 7, 6, 5, 4, 3, 2, 1, 0], .ld (.t 28)⟩,
  ⟨some 30, some (21, true), [11, 10, 9, 8, 7, 6, 5, 4, 3, 2, 1, 0, 15, 14, 13, 12], .ib .lt .u64 (.t 25) (.t 29)⟩,
  ⟨some 31, some (17, false), [7, 6, 5, 4, 3, 2, 1, 0, 16, 11, 10, 9, 8, 15, 14, 13, 12], .pick (.t 21) (.t 30) (.k (.v (.bool false)))⟩,
  ⟨some 32, none, [3, 2, 1, 0, 17, 7, 6, 5, 4, 16, 11, 10, 9, 8, 15, 14, 13, 12], .pick (.t 17) (.k (.v (.bool true))) (.t 31)⟩])
 (.cond (.t 32)
 (.seq (.reg false [⟨some 33, none, [], .mv (.t 5)⟩,
  ⟨some 34, none, [], .mv (.t 1)⟩,
  ⟨some 35, none, [], .idx (.t 34) (.k (.v (.int .i64 0))) 3⟩,
  ⟨some 36, none, [], .lda (.t 35) 3⟩,
  ⟨some 37, none, [], .bsl (.row 28 (.st [(.int .u64), (.int .i64), (.int .i64)])) 1 [(.v (.int .u64 0)), (.v (.int .i64 0)), (.v (.int .i64 0))] [(0, 3, (.t 36))]⟩,
  ⟨some 38, none, [], .app (.row 28 (.st [(.int .u64), (.int .i64), (.int .i64)])) 24 (.t 33) (.t 37)⟩,
  ⟨some 5, none, [], .mv (.t 38)⟩])
 (.reg false [⟨some 39, none, [], .mv (.t 1)⟩,
  ⟨some 40, none, [], .sls (.t 39) (some (.k (.v (.int .i64 1)))) none 3⟩,
  ⟨some 1, none, [], .mv (.t 40)⟩]))
 (.seq (.reg false [⟨some 41, none, [], .mv (.t 5)⟩,
  ⟨some 42, none, [], .mv (.t 0)⟩,
  ⟨some 43, none, [], .idx (.t 42) (.k (.v (.int .i64 0))) 3⟩,
  ⟨some 44, none, [], .lda (.t 43) 3⟩,
  ⟨some 45, none, [], .bsl (.row 28 (.st [(.int .u64), (.int .i64), (.int .i64)])) 1 [(.v (.int .u64 0)), (.v (.int .i64 0)), (.v (.int .i64 0))] [(0, 3, (.t 44))]⟩,
  ⟨some 46, none, [], .app (.row 28 (.st [(.int .u64), (.int .i64), (.int .i64)])) 24 (.t 41) (.t 45)⟩,
  ⟨some 5, none, [], .mv (.t 46)⟩])
 (.reg false [⟨some 47, none, [], .mv (.t 0)⟩,
  ⟨some 48, none, [], .sls (.t 47) (some (.k (.v (.int .i64 1)))) none 3⟩,
  ⟨some 0, none, [], .mv (.t 48)⟩]))))))))
 (.seq (.reg false [⟨some 49, none, [], .mv (.t 5)⟩,
  ⟨some 4, none, [], .mv (.t 49)⟩])
 .ret))))
theorem comp_10 : compF Try.prog Try.f10 = some (ic_10, [.t 4], 50) := by kernel_rfl
-- ros 10 [(some (.row 28 (.st [(.int .u64), (.int .i64), (.int .i64)]))), (some (.row 28 (.st [(.int .u64), (.int .i64), (.int .i64)])))] TYS [(.row 28 (.st [(.int .u64), (.int .i64), (.int .i64)])), (.row 28 (.st [(.int .u64), (.int .i64), (.int .i64)]))]

/-- tollbar/fifo.New -/
def ic_11 : IC := (.seq (.reg false [⟨some 2, none, [], .mv (.k (.v (.pointer none)))⟩])
 (.seq (.reg false [⟨some 3, none, [], .mv (.t 0)⟩,
  ⟨some 4, none, [], .build [(.v (.int .i64 0)), .nsl, (.v (.int .i64 0)), (.v (.int .i64 0))] [(0, 1, (.t 3))]⟩,
  ⟨some 5, none, [], .box 54 4 (.t 4)⟩,
  ⟨some 2, none, [], .mv (.t 5)⟩])
 .ret))
theorem comp_11 : compF Try.prog Try.f11 = some (ic_11, [.t 2], 6) := by kernel_rfl
-- ros 11 [none] TYS [(.int .i64)]

/-- (*tollbar/fifo.Queue).Push -/
def ic_12 : IC := (.seq (.reg false [⟨some 3, none, [], .box 28 3 (.t 1)⟩,
  ⟨some 4, none, [], .mv (.k (.v (.bool false)))⟩])
 (.seq (.seq (.reg true [⟨some 5, none, [], .mv (.t 0)⟩,
  ⟨some 6, none, [0], .isn 0 false (.t 5)⟩,
  ⟨some 7, none, [1, 0], .mv (.t 6)⟩,
  ⟨some 8, some (7, false), [2, 1, 0], .mv (.t 0)⟩,
  ⟨some 9, some (7, false), [3, 2, 1, 0], .chk (.t 8)⟩,
  ⟨some 10, some (7, false), [4, 3, 2, 1, 0], .fld (.t 9) 3⟩,
  ⟨some 11, some (7, false), [5, 4, 3, 2, 1, 0], .ld (.t 10)⟩,
  ⟨some 12, some (7, false), [2, 1, 0], .mv (.t 0)⟩,
  ⟨some 13, some (7, false), [7, 2, 1, 0], .chk (.t 12)⟩,
  ⟨some 14, some (7, false), [8, 7, 2, 1, 0], .fld (.t 13) 0⟩,
  ⟨some 15, some (7, false), [9, 8, 7, 2, 1, 0], .ld (.t 14)⟩,
  ⟨some 16, some (7, false), [6, 5, 4, 3, 2, 1, 0, 10, 9, 8, 7], .ib .ge .i64 (.t 11) (.t 15)⟩,
  ⟨some 17, none, [2, 1, 0, 11, 6, 5, 4, 3, 10, 9, 8, 7], .pick (.t 7) (.k (.v (.bool true))) (.t 16)⟩])
 (.cond (.t 17)
 (.seq (.reg false [⟨some 4, none, [], .mv (.k (.v (.bool false)))⟩])
 .ret)
 .skip))
 (.seq (.reg false [⟨some 18, none, [], .mv (.t 0)⟩,
  ⟨some 19, none, [], .lda (.t 3) 3⟩,
  ⟨some 20, none, [], .call 24 [(.t 18), (.t 19)]⟩])
 (.seq (.reg false [⟨some 4, none, [], .mv (.k (.v (.bool true)))⟩])
 .ret))))
theorem comp_12 : compF Try.prog Try.f12 = some (ic_12, [.t 4], 21) := by kernel_rfl
-- ros 12 [none, none] TYS [none, (.st [(.int .u64), (.int .i64), (.int .i64)])]

/-- (*tollbar/fifo.Queue).Pop -/
def ic_13 : IC := (.seq (.reg false [⟨some 2, none, [], .new 28 [(.v (.int .u64 0)), (.v (.int .i64 0)), (.v (.int .i64 0))]⟩,
  ⟨some 3, none, [], .mv (.k (.v (.bool false)))⟩])
 (.seq (.reg false [⟨some 7, none, [], .mv (.t 0)⟩,
  ⟨some 8, none, [], .call 20 [(.t 7)]⟩,
  ⟨some 6, none, [], .mv (.t 8)⟩,
  ⟨some 9, none, [], .ext (.t 6) 0⟩,
  ⟨some 10, none, [], .ext (.t 6) 1⟩,
  ⟨some 4, none, [], .new 28 [(.v (.int .u64 0)), (.v (.int .i64 0)), (.v (.int .i64 0))]⟩,
  ⟨none, none, [], .st (.t 4) (.t 9) 3⟩,
  ⟨some 5, none, [], .mv (.t 10)⟩])
 (.seq (.seq (.reg false [⟨some 11, none, [], .mv (.t 5)⟩])
 (.cond (.t 11)
 (.seq (.reg false [⟨some 12, none, [], .mv (.t 0)⟩,
  ⟨some 13, none, [], .mv (.t 0)⟩,
  ⟨some 14, none, [], .call 25 [(.t 13), (.k (.v (.int .i64 1)))]⟩,
  ⟨some 15, none, [], .chk (.t 12)⟩,
  ⟨some 16, none, [], .fld (.t 15) 2⟩,
  ⟨none, none, [], .st (.t 16) (.t 14) 1⟩])
 (.reg false [⟨some 17, none, [], .mv (.t 0)⟩,
  ⟨some 18, none, [], .chk (.t 17)⟩,
  ⟨some 19, none, [], .fld (.t 18) 3⟩,
  ⟨some 20, none, [], .ld (.t 19)⟩,
  ⟨some 21, none, [], .ib .sub .i64 (.t 20) (.k (.v (.int .i64 1)))⟩,
  ⟨some 22, none, [], .chk (.t 17)⟩,
  ⟨some 23, none, [], .fld (.t 22) 3⟩,
  ⟨none, none, [], .st (.t 23) (.t 21) 1⟩]))
 .skip))
 (.seq (.reg false [⟨some 24, none, [], .lda (.t 4) 3⟩,
  ⟨some 25, none, [], .mv (.t 5)⟩,
  ⟨none, none, [], .st (.t 2) (.t 24) 3⟩,
  ⟨some 3, none, [], .mv (.t 25)⟩])
 .ret))))
theorem comp_13 : compF Try.prog Try.f13 = some (ic_13, [.c 2 3 true, .t 3], 26) := by kernel_rfl
-- ros 13 [none] TYS [none]

/-- (*tollbar/fifo.Queue).Len -/
def ic_14 : IC := (.seq (.reg false [⟨some 2, none, [], .mv (.k (.v (.int .i64 0)))⟩])
 (.seq (.seq (.reg false [⟨some 3, none, [], .mv (.t 0)⟩,
  ⟨some 4, none, [], .isn 0 false (.t 3)⟩])
 (.cond (.t 4)
 (.seq (.reg false [⟨some 2, none, [], .mv (.k (.v (.int .i64 0)))⟩])
 .ret)
 .skip))
 (.seq (.reg false [⟨some 5, none, [], .mv (.t 0)⟩,
  ⟨some 6, none, [], .chk (.t 5)⟩,
  ⟨some 7, none, [], .fld (.t 6) 3⟩,
  ⟨some 8, none, [], .ld (.t 7)⟩,
  ⟨some 2, none, [], .mv (.t 8)⟩])
 .ret)))
theorem comp_14 : compF Try.prog Try.f14 = some (ic_14, [.t 2], 9) := by kernel_rfl
-- ros 14 [none] TYS [none]

/-- (*tollbar/fifo.Queue).Load -/
def ic_15 : IC := (.seq (.seq (.reg false [⟨some 6, none, [], .mv (.t 0)⟩,
  ⟨some 7, none, [], .isn 0 false (.t 6)⟩])
 (.cond (.t 7)
 .ret
 .skip))
 (.seq (.reg false [⟨some 8, none, [], .mv (.t 0)⟩,
  ⟨some 9, none, [], .chk (.t 8)⟩,
  ⟨some 10, none, [], .fld (.t 9) 1⟩,
  ⟨some 11, none, [], .ld (.t 10)⟩,
  ⟨none, none, [], .clear (.row 28 (.st [(.int .u64), (.int .i64), (.int .i64)])) (.t 11)⟩])
 (.seq (.reg false [⟨some 12, none, [], .mv (.t 0)⟩,
  ⟨some 13, none, [], .mv (.t 0)⟩,
  ⟨some 14, none, [], .chk (.t 12)⟩,
  ⟨some 15, none, [], .fld (.t 14) 2⟩,
  ⟨none, none, [], .st (.t 15) (.k (.v (.int .i64 0))) 1⟩,
  ⟨some 16, none, [], .chk (.t 13)⟩,
  ⟨some 17, none, [], .fld (.t 16) 3⟩,
  ⟨none, none, [], .st (.t 17) (.k (.v (.int .i64 0))) 1⟩])
 (.seq (.reg false [⟨some 18, none, [], .mv (.t 1)⟩,
  ⟨some 19, none, [], .len false (.t 18)⟩,
  ⟨some 20, none, [], .mv (.k (.v (.int .i64 0)))⟩])
 (.block 0
 (.loop
 (.seq (.reg false [⟨some 21, none, [], .ib .lt .i64 (.t 20) (.t 19)⟩])
 (.seq (.cond (.t 21)
 .skip
 (.exit 0))
 (.seq (.block 1
 (.seq (.reg false [⟨some 22, none, [], .idx (.t 18) (.t 20) 3⟩,
  ⟨some 23, none, [], .lda (.t 22) 3⟩,
  ⟨some 5, none, [], .new 28 [(.v (.int .u64 0)), (.v (.int .i64 0)), (.v (.int .i64 0))]⟩,
  ⟨none, none, [], .st (.t 5) (.t 23) 3⟩])
 (.reg false [⟨some 24, none, [], .mv (.t 0)⟩,
  ⟨some 25, none, [], .lda (.t 5) 3⟩,
  ⟨some 26, none, [], .call 24 [(.t 24), (.t 25)]⟩])))
 (.reg false [⟨some 27, none, [], .ib .add .i64 (.t 20) (.k (.v (.int .i64 1)))⟩,
  ⟨some 20, none, [], .mv (.t 27)⟩]))))))))))
theorem comp_15 : compF Try.prog Try.f15 = some (ic_15, [], 28) := by kernel_rfl
-- ros 15 [none, (some (.row 28 (.st [(.int .u64), (.int .i64), (.int .i64)])))] TYS [none, (.row 28 (.st [(.int .u64), (.int .i64), (.int .i64)]))]

/-- (*tollbar/fifo.Queue).All -/
def ic_16 : IC := (.seq (.reg false [⟨some 2, none, [], .mv (.k .nsl)⟩])
 (.seq (.reg false [⟨some 3, none, [], .mv (.k .nsl)⟩])
 (.seq (.seq (.reg false [⟨some 5, none, [], .mv (.t 0)⟩,
  ⟨some 6, none, [], .call 14 [(.t 5)]⟩,
  ⟨some 7, none, [], .mv (.k (.v (.int .i64 0)))⟩])
 (.block 0
 (.loop
 (.seq (.reg false [⟨some 8, none, [], .ib .lt .i64 (.t 7) (.t 6)⟩])
 (.seq (.cond (.t 8)
 .skip
 (.exit 0))
 (.seq (.block 1
 (.seq (.reg false [⟨some 9, none, [], .mv (.t 7)⟩,
  ⟨some 4, none, [], .mv (.t 9)⟩])
 (.reg true [⟨some 10, none, [], .mv (.t 3)⟩,
  ⟨some 11, none, [], .mv (.t 0)⟩,
  ⟨some 12, none, [1], .chk (.t 11)⟩,
  ⟨some 13, none, [2, 1], .fld (.t 12) 1⟩,
  ⟨some 14, none, [3, 2, 1], .ld (.t 13)⟩,
  ⟨some 15, none, [], .mv (.t 0)⟩,
  ⟨some 16, none, [], .mv (.t 4)⟩,
  ⟨some 17, none, [5, 6], .call 25 [(.t 15), (.t 16)]⟩,
  ⟨some 18, none, [4, 3, 2, 1, 7, 5, 6], .idx (.t 14) (.t 17) 3⟩,
  ⟨some 19, none, [8, 4, 3, 2, 1, 7, 5, 6], .lda (.t 18) 3⟩,
  ⟨some 20, none, [9, 8, 4, 3, 2, 1, 7, 5, 6], .bsl (.row 28 (.st [(.int .u64), (.int .i64), (.int .i64)])) 1 [(.v (.int .u64 0)), (.v (.int .i64 0)), (.v (.int .i64 0))] [(0, 3, (.t 19))]⟩,
  ⟨some 21, none, [0, 10, 9, 8, 4, 3, 2, 1, 7, 5, 6], .app (.row 28 (.st [(.int .u64), (.int .i64), (.int .i64)])) 24 (.t 10) (.t 20)⟩,
  ⟨some 3, none, [11, 0, 10, 9, 8, 4, 3, 2, 1, 7, 5, 6], .mv (.t 21)⟩])))
 (.reg false [⟨some 22, none, [], .ib .add .i64 (.t 7) (.k (.v (.int .i64 1)))⟩,
  ⟨some 7, none, [], .mv (.t 22)⟩])))))))
 (.seq (.reg false [⟨some 23, none, [], .mv (.t 3)⟩,
  ⟨some 2, none, [], .mv (.t 23)⟩])
 .ret))))
theorem comp_16 : compF Try.prog Try.f16 = some (ic_16, [.t 2], 24) := by kernel_rfl
-- ros 16 [none] TYS [none]

/-- tollbar/tollbarlaw22.small -/
def ic_17 : IC := (.seq (.reg false [⟨some 2, none, [], .mv (.k (.v (.bool false)))⟩])
 (.seq (.seq (.reg false [⟨some 3, none, [], .mv (.k (.v (.int .i64 0)))⟩])
 (.block 0
 (.loop
 (.seq (.seq (.reg false [⟨some 4, none, [], .mv (.t 3)⟩,
  ⟨some 5, none, [], .mv (.t 0)⟩,
  ⟨some 6, none, [], .len false (.t 5)⟩,
  ⟨some 7, none, [], .ib .lt .i64 (.t 4) (.t 6)⟩])
 (.cond (.t 7)
 .skip
 (.exit 0)))
 (.seq (.block 1
 (.seq (.reg false [⟨some 10, none, [], .mv (.t 0)⟩,
  ⟨some 11, none, [], .mv (.t 3)⟩,
  ⟨some 12, none, [], .idx (.t 10) (.t 11) 6⟩,
  ⟨some 13, none, [], .fld (.t 12) 5⟩,
  ⟨some 14, none, [], .ld (.t 13)⟩,
  ⟨some 15, none, [], .len false (.t 14)⟩,
  ⟨some 16, none, [], .ib .gt .i64 (.t 15) (.k (.v (.int .i64 100)))⟩])
 (.cond (.t 16)
 (.seq (.reg false [⟨some 2, none, [], .mv (.k (.v (.bool false)))⟩])
 .ret)
 .skip)))
 (.reg false [⟨some 8, none, [], .mv (.t 3)⟩,
  ⟨some 9, none, [], .ib .add .i64 (.t 8) (.k (.v (.int .i64 1)))⟩,
  ⟨some 3, none, [], .mv (.t 9)⟩]))))))
 (.seq (.reg false [⟨some 17, none, [], .mv (.t 0)⟩,
  ⟨some 18, none, [], .len false (.t 17)⟩,
  ⟨some 19, none, [], .ib .le .i64 (.t 18) (.k (.v (.int .i64 200)))⟩,
  ⟨some 2, none, [], .mv (.t 19)⟩])
 .ret)))
theorem comp_17 : compF Try.prog Try.f17 = some (ic_17, [.t 2], 20) := by kernel_rfl
-- ros 17 [(some (.row 45 (.st [(.int .i64), (.int .i64), (.st [(.int .u64), (.int .i64), (.int .i64)]), (.row 28 (.st [(.int .u64), (.int .i64), (.int .i64)]))])))] TYS [(.row 45 (.st [(.int .i64), (.int .i64), (.st [(.int .u64), (.int .i64), (.int .i64)]), (.row 28 (.st [(.int .u64), (.int .i64), (.int .i64)]))]))]

/-- tollbar/tollbarref22.Push -/
def ic_18 : IC := (.seq (.reg false [⟨some 2, none, [], .box 43 2 (.t 0)⟩,
  ⟨some 3, none, [], .box 28 3 (.t 1)⟩,
  ⟨some 4, none, [], .new 43 [.nsl, (.v (.int .i64 0))]⟩,
  ⟨some 5, none, [], .mv (.k (.v (.bool false)))⟩])
 (.seq (.seq (.reg false [⟨some 7, none, [], .fld (.t 2) 0⟩,
  ⟨some 8, none, [], .ld (.t 7)⟩,
  ⟨some 9, none, [], .len false (.t 8)⟩,
  ⟨some 10, none, [], .fld (.t 2) 1⟩,
  ⟨some 11, none, [], .ld (.t 10)⟩,
  ⟨some 12, none, [], .ib .ge .i64 (.t 9) (.t 11)⟩])
 (.cond (.t 12)
 (.seq (.reg false [⟨some 13, none, [], .lda (.t 2) 2⟩,
  ⟨none, none, [], .st (.t 4) (.t 13) 2⟩,
  ⟨some 5, none, [], .mv (.k (.v (.bool false)))⟩])
 .ret)
 .skip))
 (.seq (.reg false [⟨some 6, none, [], .mv (.k .nsl)⟩])
 (.seq (.reg false [⟨some 14, none, [], .mv (.t 6)⟩,
  ⟨some 15, none, [], .fld (.t 2) 0⟩,
  ⟨some 16, none, [], .ld (.t 15)⟩,
  ⟨some 17, none, [], .app (.row 28 (.st [(.int .u64), (.int .i64), (.int .i64)])) 24 (.t 14) (.t 16)⟩,
  ⟨some 6, none, [], .mv (.t 17)⟩])
 (.seq (.reg false [⟨some 18, none, [], .mv (.t 6)⟩,
  ⟨some 19, none, [], .lda (.t 3) 3⟩,
  ⟨some 20, none, [], .bsl (.row 28 (.st [(.int .u64), (.int .i64), (.int .i64)])) 1 [(.v (.int .u64 0)), (.v (.int .i64 0)), (.v (.int .i64 0))] [(0, 3, (.t 19))]⟩,
  ⟨some 21, none, [], .app (.row 28 (.st [(.int .u64), (.int .i64), (.int .i64)])) 24 (.t 18) (.t 20)⟩,
  ⟨some 6, none, [], .mv (.t 21)⟩])
 (.seq (.reg false [⟨some 22, none, [], .mv (.t 6)⟩,
  ⟨some 23, none, [], .fld (.t 2) 0⟩,
  ⟨none, none, [], .st (.t 23) (.t 22) 1⟩])
 (.seq (.reg false [⟨some 24, none, [], .lda (.t 2) 2⟩,
  ⟨none, none, [], .st (.t 4) (.t 24) 2⟩,
  ⟨some 5, none, [], .mv (.k (.v (.bool true)))⟩])
 .ret)))))))
theorem comp_18 : compF Try.prog Try.f18 = some (ic_18, [.c 4 2 true, .t 5], 25) := by kernel_rfl
-- ros 18 [none, none] TYS [(.st [(.row 28 (.st [(.int .u64), (.int .i64), (.int .i64)])), (.int .i64)]), (.st [(.int .u64), (.int .i64), (.int .i64)])]

/-- tollbar/tollbarref22.Pop -/
def ic_19 : IC := (.seq (.reg false [⟨some 1, none, [], .box 43 2 (.t 0)⟩,
  ⟨some 2, none, [], .new 43 [.nsl, (.v (.int .i64 0))]⟩,
  ⟨some 3, none, [], .new 28 [(.v (.int .u64 0)), (.v (.int .i64 0)), (.v (.int .i64 0))]⟩,
  ⟨some 4, none, [], .mv (.k (.v (.bool false)))⟩])
 (.seq (.seq (.reg false [⟨some 6, none, [], .fld (.t 1) 0⟩,
  ⟨some 7, none, [], .ld (.t 6)⟩,
  ⟨some 8, none, [], .len false (.t 7)⟩,
  ⟨some 9, none, [], .ib .eq .i64 (.t 8) (.k (.v (.int .i64 0)))⟩])
 (.cond (.t 9)
 (.seq (.reg false [⟨some 10, none, [], .lda (.t 1) 2⟩,
  ⟨some 11, none, [], .build [(.v (.int .u64 0)), (.v (.int .i64 0)), (.v (.int .i64 0))] []⟩,
  ⟨none, none, [], .st (.t 2) (.t 10) 2⟩,
  ⟨none, none, [], .st (.t 3) (.t 11) 3⟩,
  ⟨some 4, none, [], .mv (.k (.v (.bool false)))⟩])
 .ret)
 .skip))
 (.seq (.reg false [⟨some 12, none, [], .fld (.t 1) 0⟩,
  ⟨some 13, none, [], .ld (.t 12)⟩,
  ⟨some 14, none, [], .idx (.t 13) (.k (.v (.int .i64 0))) 3⟩,
  ⟨some 15, none, [], .lda (.t 14) 3⟩,
  ⟨some 5, none, [], .new 28 [(.v (.int .u64 0)), (.v (.int .i64 0)), (.v (.int .i64 0))]⟩,
  ⟨none, none, [], .st (.t 5) (.t 15) 3⟩])
 (.seq (.reg false [⟨some 16, none, [], .fld (.t 1) 0⟩,
  ⟨some 17, none, [], .ld (.t 16)⟩,
  ⟨some 18, none, [], .sls (.t 17) (some (.k (.v (.int .i64 1)))) none 3⟩,
  ⟨some 19, none, [], .fld (.t 1) 0⟩,
  ⟨none, none, [], .st (.t 19) (.t 18) 1⟩])
 (.seq (.reg true [⟨some 20, none, [], .lda (.t 1) 2⟩,
  ⟨some 21, none, [], .lda (.t 5) 3⟩,
  ⟨none, none, [0], .st (.t 2) (.t 20) 2⟩,
  ⟨none, none, [1, 2, 0], .st (.t 3) (.t 21) 3⟩,
  ⟨some 4, none, [3, 1, 2, 0], .mv (.k (.v (.bool true)))⟩])
 .ret)))))
theorem comp_19 : compF Try.prog Try.f19 = some (ic_19, [.c 2 2 true, .c 3 3 true, .t 4], 22) := by kernel_rfl
-- ros 19 [none] TYS [(.st [(.row 28 (.st [(.int .u64), (.int .i64), (.int .i64)])), (.int .i64)])]

/-- (*tollbar/fifo.Queue).Head -/
def ic_20 : IC := (.seq (.reg false [⟨some 2, none, [], .new 28 [(.v (.int .u64 0)), (.v (.int .i64 0)), (.v (.int .i64 0))]⟩,
  ⟨some 3, none, [], .mv (.k (.v (.bool false)))⟩])
 (.seq (.seq (.reg false [⟨some 4, none, [], .mv (.t 0)⟩,
  ⟨some 5, none, [], .call 14 [(.t 4)]⟩,
  ⟨some 6, none, [], .ib .eq .i64 (.t 5) (.k (.v (.int .i64 0)))⟩])
 (.cond (.t 6)
 (.seq (.reg false [⟨some 7, none, [], .build [(.v (.int .u64 0)), (.v (.int .i64 0)), (.v (.int .i64 0))] []⟩,
  ⟨none, none, [], .st (.t 2) (.t 7) 3⟩,
  ⟨some 3, none, [], .mv (.k (.v (.bool false)))⟩])
 .ret)
 .skip))
 (.seq (.reg true [⟨some 8, none, [], .mv (.t 0)⟩,
  ⟨some 9, none, [0], .chk (.t 8)⟩,
  ⟨some 10, none, [1, 0], .fld (.t 9) 1⟩,
  ⟨some 11, none, [2, 1, 0], .ld (.t 10)⟩,
  ⟨some 12, none, [], .mv (.t 0)⟩,
  ⟨some 13, none, [4], .chk (.t 12)⟩,
  ⟨some 14, none, [5, 4], .fld (.t 13) 2⟩,
  ⟨some 15, none, [6, 5, 4], .ld (.t 14)⟩,
  ⟨some 16, none, [3, 2, 1, 0, 7, 6, 5, 4], .idx (.t 11) (.t 15) 3⟩,
  ⟨some 17, none, [8, 3, 2, 1, 0, 7, 6, 5, 4], .lda (.t 16) 3⟩,
  ⟨none, none, [9, 8, 3, 2, 1, 0, 7, 6, 5, 4], .st (.t 2) (.t 17) 3⟩,
  ⟨some 3, none, [10, 9, 8, 3, 2, 1, 0, 7, 6, 5, 4], .mv (.k (.v (.bool true)))⟩])
 .ret)))
theorem comp_20 : compF Try.prog Try.f20 = some (ic_20, [.c 2 3 true, .t 3], 18) := by kernel_rfl
-- ros 20 [none] TYS [none]

/-- (*tollbar/fifo.Queue).Tune -/
def ic_21 : IC := (.seq (.reg false [⟨some 4, none, [], .mv (.t 0)⟩,
  ⟨some 5, none, [], .isn 0 true (.t 4)⟩])
 (.cond (.t 5)
 (.reg false [⟨some 6, none, [], .mv (.t 0)⟩,
  ⟨some 7, none, [], .mv (.t 1)⟩,
  ⟨some 8, none, [], .chk (.t 6)⟩,
  ⟨some 9, none, [], .fld (.t 8) 0⟩,
  ⟨none, none, [], .st (.t 9) (.t 7) 1⟩])
 .skip))
theorem comp_21 : compF Try.prog Try.f21 = some (ic_21, [], 10) := by kernel_rfl
-- ros 21 [none, none] TYS [none, (.int .i64)]

/-- (*tollbar/fifo.Queue).Limit -/
def ic_22 : IC := (.seq (.reg false [⟨some 2, none, [], .mv (.k (.v (.int .i64 0)))⟩])
 (.seq (.seq (.reg false [⟨some 3, none, [], .mv (.t 0)⟩,
  ⟨some 4, none, [], .isn 0 false (.t 3)⟩])
 (.cond (.t 4)
 (.seq (.reg false [⟨some 2, none, [], .mv (.k (.v (.int .i64 0)))⟩])
 .ret)
 .skip))
 (.seq (.reg false [⟨some 5, none, [], .mv (.t 0)⟩,
  ⟨some 6, none, [], .chk (.t 5)⟩,
  ⟨some 7, none, [], .fld (.t 6) 0⟩,
  ⟨some 8, none, [], .ld (.t 7)⟩,
  ⟨some 2, none, [], .mv (.t 8)⟩])
 .ret)))
theorem comp_22 : compF Try.prog Try.f22 = some (ic_22, [.t 2], 9) := by kernel_rfl
-- ros 22 [none] TYS [none]

/-- slices.Concat[[]tollbar/api.Packet,tollbar/api.Packet] -/
def ic_23 : IC := (.seq (.reg false [⟨some 2, none, [], .mv (.k .nsl)⟩])
 (.seq (.reg false [⟨some 3, none, [], .mv (.k (.v (.int .i64 0)))⟩])
 (.seq (.seq (.reg false [⟨some 9, none, [], .mv (.t 0)⟩,
  ⟨some 10, none, [], .len false (.t 9)⟩,
  ⟨some 11, none, [], .mv (.k (.v (.int .i64 0)))⟩])
 (.block 0
 (.loop
 (.seq (.reg false [⟨some 12, none, [], .ib .lt .i64 (.t 11) (.t 10)⟩])
 (.seq (.cond (.t 12)
 .skip
 (.exit 0))
 (.seq (.block 1
 (.seq (.reg false [⟨some 13, none, [], .idx (.t 9) (.t 11) 1⟩,
  ⟨some 14, none, [], .ld (.t 13)⟩,
  ⟨some 5, none, [], .mv (.t 14)⟩])
 (.seq (.reg false [⟨some 15, none, [], .mv (.t 3)⟩,
  ⟨some 16, none, [], .mv (.t 5)⟩,
  ⟨some 17, none, [], .len false (.t 16)⟩,
  ⟨some 18, none, [], .ib .add .i64 (.t 15) (.t 17)⟩,
  ⟨some 3, none, [], .mv (.t 18)⟩])
 (.seq (.reg false [⟨some 19, none, [], .mv (.t 3)⟩,
  ⟨some 20, none, [], .ib .lt .i64 (.t 19) (.k (.v (.int .i64 0)))⟩])
 (.cond (.t 20)
 .bad
 .skip)))))
 (.reg false [⟨some 22, none, [], .ib .add .i64 (.t 11) (.k (.v (.int .i64 1)))⟩,
  ⟨some 11, none, [], .mv (.t 22)⟩])))))))
 (.seq (.reg false [⟨some 23, none, [], .mv (.t 3)⟩,
  ⟨some 24, none, [], .call 26 [(.k .nsl), (.t 23)]⟩,
  ⟨some 6, none, [], .mv (.t 24)⟩])
 (.seq (.seq (.reg false [⟨some 25, none, [], .mv (.t 0)⟩,
  ⟨some 26, none, [], .len false (.t 25)⟩,
  ⟨some 27, none, [], .mv (.k (.v (.int .i64 0)))⟩])
 (.block 2
 (.loop
 (.seq (.reg false [⟨some 28, none, [], .ib .lt .i64 (.t 27) (.t 26)⟩])
 (.seq (.cond (.t 28)
 .skip
 (.exit 2))
 (.seq (.block 3
 (.seq (.reg false [⟨some 29, none, [], .idx (.t 25) (.t 27) 1⟩,
  ⟨some 30, none, [], .ld (.t 29)⟩,
  ⟨some 8, none, [], .mv (.t 30)⟩])
 (.reg false [⟨some 31, none, [], .mv (.t 6)⟩,
  ⟨some 32, none, [], .mv (.t 8)⟩,
  ⟨some 33, none, [], .app (.row 28 (.st [(.int .u64), (.int .i64), (.int .i64)])) 24 (.t 31) (.t 32)⟩,
  ⟨some 6, none, [], .mv (.t 33)⟩])))
 (.reg false [⟨some 34, none, [], .ib .add .i64 (.t 27) (.k (.v (.int .i64 1)))⟩,
  ⟨some 27, none, [], .mv (.t 34)⟩])))))))
 (.seq (.reg false [⟨some 35, none, [], .mv (.t 6)⟩,
  ⟨some 2, none, [], .mv (.t 35)⟩])
 .ret))))))
theorem comp_23 : compF Try.prog Try.f23 = some (ic_23, [.t 2], 36) := by kernel_rfl
-- ros 23 [(some (.row 22 (.row 28 (.st [(.int .u64), (.int .i64), (.int .i64)]))))] TYS [(.row 22 (.row 28 (.st [(.int .u64), (.int .i64), (.int .i64)])))]

/-- (*tollbar/fifo.Queue).put -/
def ic_24 : IC := (.seq (.reg false [⟨some 3, none, [], .box 28 3 (.t 1)⟩])
 (.seq (.seq (.reg true [⟨some 4, none, [], .mv (.t 0)⟩,
  ⟨some 5, none, [0], .chk (.t 4)⟩,
  ⟨some 6, none, [1, 0], .fld (.t 5) 3⟩,
  ⟨some 7, none, [2, 1, 0], .ld (.t 6)⟩,
  ⟨some 8, none, [], .mv (.t 0)⟩,
  ⟨some 9, none, [4], .chk (.t 8)⟩,
  ⟨some 10, none, [5, 4], .fld (.t 9) 1⟩,
  ⟨some 11, none, [6, 5, 4], .ld (.t 10)⟩,
  ⟨some 12, none, [7, 6, 5, 4], .len false (.t 11)⟩,
  ⟨some 13, none, [3, 2, 1, 0, 8, 7, 6, 5, 4], .ib .eq .i64 (.t 7) (.t 12)⟩])
 (.cond (.t 13)
 (.reg false [⟨some 14, none, [], .mv (.t 0)⟩,
  ⟨some 15, none, [], .call 27 [(.t 14)]⟩])
 .skip))
 (.seq (.reg true [⟨some 16, none, [], .mv (.t 0)⟩,
  ⟨some 17, none, [0], .chk (.t 16)⟩,
  ⟨some 18, none, [1, 0], .fld (.t 17) 1⟩,
  ⟨some 19, none, [2, 1, 0], .ld (.t 18)⟩,
  ⟨some 20, none, [], .mv (.t 0)⟩,
  ⟨some 21, none, [], .mv (.t 0)⟩,
  ⟨some 22, none, [5], .chk (.t 21)⟩,
  ⟨some 23, none, [6, 5], .fld (.t 22) 3⟩,
  ⟨some 24, none, [7, 6, 5], .ld (.t 23)⟩,
  ⟨some 25, none, [4, 8, 7, 6, 5], .call 25 [(.t 20), (.t 24)]⟩,
  ⟨some 26, none, [], .lda (.t 3) 3⟩,
  ⟨some 27, none, [3, 2, 1, 0, 9, 4, 8, 7, 6, 5, 10], .idx (.t 19) (.t 25) 3⟩,
  ⟨none, none, [11, 3, 2, 1, 0, 9, 4, 8, 7, 6, 5, 10], .st (.t 27) (.t 26) 3⟩])
 (.reg false [⟨some 28, none, [], .mv (.t 0)⟩,
  ⟨some 29, none, [], .chk (.t 28)⟩,
  ⟨some 30, none, [], .fld (.t 29) 3⟩,
  ⟨some 31, none, [], .ld (.t 30)⟩,
  ⟨some 32, none, [], .ib .add .i64 (.t 31) (.k (.v (.int .i64 1)))⟩,
  ⟨some 33, none, [], .chk (.t 28)⟩,
  ⟨some 34, none, [], .fld (.t 33) 3⟩,
  ⟨none, none, [], .st (.t 34) (.t 32) 1⟩]))))
theorem comp_24 : compF Try.prog Try.f24 = some (ic_24, [], 35) := by kernel_rfl
-- ros 24 [none, none] TYS [none, (.st [(.int .u64), (.int .i64), (.int .i64)])]

/-- (*tollbar/fifo.Queue).at -/
def ic_25 : IC := (.seq (.reg false [⟨some 4, none, [], .mv (.k (.v (.int .i64 0)))⟩])
 (.seq (.reg true [⟨some 5, none, [], .mv (.t 0)⟩,
  ⟨some 6, none, [0], .chk (.t 5)⟩,
  ⟨some 7, none, [1, 0], .fld (.t 6) 2⟩,
  ⟨some 8, none, [2, 1, 0], .ld (.t 7)⟩,
  ⟨some 9, none, [], .mv (.t 1)⟩,
  ⟨some 10, none, [3, 2, 1, 0, 4], .ib .add .i64 (.t 8) (.t 9)⟩,
  ⟨some 11, none, [], .mv (.t 0)⟩,
  ⟨some 12, none, [6], .chk (.t 11)⟩,
  ⟨some 13, none, [7, 6], .fld (.t 12) 1⟩,
  ⟨some 14, none, [8, 7, 6], .ld (.t 13)⟩,
  ⟨some 15, none, [9, 8, 7, 6], .len false (.t 14)⟩,
  ⟨some 16, none, [5, 3, 2, 1, 0, 4, 10, 9, 8, 7, 6], .ib .rem .i64 (.t 10) (.t 15)⟩,
  ⟨some 4, none, [11, 5, 3, 2, 1, 0, 4, 10, 9, 8, 7, 6], .mv (.t 16)⟩])
 .ret))
theorem comp_25 : compF Try.prog Try.f25 = some (ic_25, [.t 4], 17) := by kernel_rfl
-- ros 25 [none, none] TYS [none, (.int .i64)]

/-- slices.Grow[[]tollbar/api.Packet,tollbar/api.Packet] -/
def ic_26 : IC := (.seq (.reg false [⟨some 4, none, [], .mv (.k .nsl)⟩])
 (.seq (.seq (.reg false [⟨some 5, none, [], .mv (.t 1)⟩,
  ⟨some 6, none, [], .ib .lt .i64 (.t 5) (.k (.v (.int .i64 0)))⟩])
 (.cond (.t 6)
 .bad
 .skip))
 (.seq (.seq .bad
 (.seq (.reg false [⟨some 15, none, [], .mv (.t 1)⟩,
  ⟨some 16, none, [], .ib .gt .i64 (.t 15) (.k (.v (.int .i64 0)))⟩])
 (.cond (.t 16)
 .bad
 .skip)))
 (.seq (.reg false [⟨some 26, none, [], .mv (.t 0)⟩,
  ⟨some 4, none, [], .mv (.t 26)⟩])
 .ret))))
theorem comp_26 : compF Try.prog Try.f26 = some (ic_26, [.t 4], 27) := by kernel_rfl
-- ros 26 [(some (.row 28 (.st [(.int .u64), (.int .i64), (.int .i64)]))), none] TYS [(.row 28 (.st [(.int .u64), (.int .i64), (.int .i64)])), (.int .i64)]

/-- (*tollbar/fifo.Queue).grow -/
def ic_27 : IC := (.seq (.reg false [⟨some 4, none, [], .mv (.t 0)⟩,
  ⟨some 5, none, [], .chk (.t 4)⟩,
  ⟨some 6, none, [], .fld (.t 5) 1⟩,
  ⟨some 7, none, [], .ld (.t 6)⟩,
  ⟨some 8, none, [], .len false (.t 7)⟩,
  ⟨some 9, none, [], .ib .mul .i64 (.k (.v (.int .i64 2))) (.t 8)⟩,
  ⟨some 10, none, [], .mx (.k (.v (.int .i64 4))) (.t 9)⟩,
  ⟨some 11, none, [], .mks (.row 28 (.st [(.int .u64), (.int .i64), (.int .i64)])) 24 (.t 10) (.t 10)⟩,
  ⟨some 2, none, [], .mv (.t 11)⟩])
 (.seq (.reg true [⟨some 12, none, [], .mv (.t 2)⟩,
  ⟨some 13, none, [], .mv (.t 0)⟩,
  ⟨some 14, none, [1], .chk (.t 13)⟩,
  ⟨some 15, none, [2, 1], .fld (.t 14) 1⟩,
  ⟨some 16, none, [3, 2, 1], .ld (.t 15)⟩,
  ⟨some 17, none, [], .mv (.t 0)⟩,
  ⟨some 18, none, [5], .chk (.t 17)⟩,
  ⟨some 19, none, [6, 5], .fld (.t 18) 2⟩,
  ⟨some 20, none, [7, 6, 5], .ld (.t 19)⟩,
  ⟨some 21, none, [4, 3, 2, 1, 8, 7, 6, 5], .sls (.t 16) (some (.t 20)) none 3⟩,
  ⟨some 22, none, [0, 9, 4, 3, 2, 1, 8, 7, 6, 5], .copy (.t 12) (.t 21) 3⟩,
  ⟨some 3, none, [10, 0, 9, 4, 3, 2, 1, 8, 7, 6, 5], .mv (.t 22)⟩])
 (.seq (.reg true [⟨some 23, none, [], .mv (.t 2)⟩,
  ⟨some 24, none, [], .mv (.t 3)⟩,
  ⟨some 25, none, [0, 1], .sls (.t 23) (some (.t 24)) none 3⟩,
  ⟨some 26, none, [], .mv (.t 0)⟩,
  ⟨some 27, none, [3], .chk (.t 26)⟩,
  ⟨some 28, none, [4, 3], .fld (.t 27) 1⟩,
  ⟨some 29, none, [5, 4, 3], .ld (.t 28)⟩,
  ⟨some 30, none, [], .mv (.t 0)⟩,
  ⟨some 31, none, [7], .chk (.t 30)⟩,
  ⟨some 32, none, [8, 7], .fld (.t 31) 2⟩,
  ⟨some 33, none, [9, 8, 7], .ld (.t 32)⟩,
  ⟨some 34, none, [6, 5, 4, 3, 10, 9, 8, 7], .sls (.t 29) none (some (.t 33)) 3⟩,
  ⟨some 35, none, [2, 0, 1, 11, 6, 5, 4, 3, 10, 9, 8, 7], .copy (.t 25) (.t 34) 3⟩])
 (.reg false [⟨some 36, none, [], .mv (.t 0)⟩,
  ⟨some 37, none, [], .mv (.t 0)⟩,
  ⟨some 38, none, [], .mv (.t 2)⟩,
  ⟨some 39, none, [], .chk (.t 36)⟩,
  ⟨some 40, none, [], .fld (.t 39) 1⟩,
  ⟨none, none, [], .st (.t 40) (.t 38) 1⟩,
  ⟨some 41, none, [], .chk (.t 37)⟩,
  ⟨some 42, none, [], .fld (.t 41) 2⟩,
  ⟨none, none, [], .st (.t 42) (.k (.v (.int .i64 0))) 1⟩]))))
theorem comp_27 : compF Try.prog Try.f27 = some (ic_27, [], 43) := by kernel_rfl
-- ros 27 [none] TYS [none]

end Go.Proofs.Ytdagccoamfhdcaa
end
section
/-
  The walk of tollbar/fifo.New (printed by a program of ours).
-/
set_option linter.unusedVariables false
set_option linter.unusedSimpArgs false
namespace Go.Proofs.Ytdagccoamfhdcaa
open Go.RowKit

noncomputable def tab_fifo_New : Nat → Option Con := look []
set_option maxHeartbeats 4000000 in
set_option maxRecDepth 100000 in
theorem vc_fifo_New (P : Program) (T : Tab P tab_fifo_New) (hm : P.follows .mixedOrders = true) : FnVC P tab_fifo_New ic_11 [.t 2] 6 con_fifo_New := by
  intro cargs ccks ce hce hob C hk
  apply Hidden.out
  replace hce : con_fifo_New_1 cargs ccks = some ce := hce
  · unfold con_fifo_New_1 at hce
    split at hce
    rotate_left
    · cases hce
    obtain rfl := Option.some.inj hce
    rename_i x1
    have hb1 := hob _ (List.mem_singleton.2 rfl)
    have hb2 := obl.1 hb1
    clear hb1 hob hce
    refine hb2.elim fun r hF => ?_
    clear hb2
    simp only [List.length_cons, List.length_nil, Nat.zero_add, Nat.reduceAdd] at hk
    have hr : F_fifo_New x1 = some r := by rw [lock_eq] at hF; exact hF
    unfold F_fifo_New at hr
    constructor
    (try cbv)
    apply Hidden.out
    have e := Option.some.inj hr
    constructor
    refine ⟨_, hF, ?_⟩
    (try cbv); (try simp only [choice_lk, lock_eq, and_self, and_true, true_and]); (try first | exact e | exact e.symm | (and_intros <;> first | assumption | rfl | exact Eq.symm (by assumption)))
end Go.Proofs.Ytdagccoamfhdcaa
end
section
/-
  The walk of (*tollbar/fifo.Queue).grow (printed by a program of ours).
-/
set_option linter.unusedVariables false
set_option linter.unusedSimpArgs false
namespace Go.Proofs.Ytdagccoamfhdcaa
open Go.RowKit

noncomputable def tab_fifo_Queue_grow : Nat → Option Con := look []
set_option maxHeartbeats 4000000 in
set_option maxRecDepth 100000 in
theorem vc_fifo_Queue_grow (P : Program) (T : Tab P tab_fifo_Queue_grow) (hm : P.follows .mixedOrders = true) : FnVC P tab_fifo_Queue_grow ic_27 [] 43 con_fifo_Queue_grow := by
  intro cargs ccks ce hce hob C hk
  apply Hidden.out
  replace hce : altC (con_fifo_Queue_grow_1 cargs ccks) (con_fifo_Queue_grow_2 cargs ccks) = some ce := hce
  replace hce := altC_inv hce
  rcases hce with hce | hce
  · unfold con_fifo_Queue_grow_1 at hce
    split at hce
    rotate_left
    · cases hce
    obtain rfl := Option.some.inj hce
    rename_i x1 x2 x3
    have hb1 := hob _ (List.mem_singleton.2 rfl)
    have hb2 := obl.1 hb1
    clear hb1 hob hce
    refine hb2.elim fun r hF => ?_
    clear hb2
    simp only [List.length_cons, List.length_nil, Nat.zero_add, Nat.reduceAdd] at hk
    have hr : F_fifo_Queue_grow x1 x2 x3 = some r := by rw [lock_eq] at hF; exact hF
    unfold F_fifo_Queue_grow at hr
    constructor
    (try cbv)
    have gg := guard_inv hr
    have g := gg.1
    replace hr := gg.2
    clear gg
    refine ⟨obl.2 (by first | (simp only [choice_lk, lock_eq, R.len, R.sub]; exact g) | exact g), ?_⟩
    have gg := guard_inv hr
    have g := gg.1
    replace hr := gg.2
    clear gg
    refine ⟨obl.2 (by first | (simp only [choice_lk, lock_eq, R.len, R.sub]; exact g) | exact g), ?_⟩
    have gg := guard_inv hr
    have g := gg.1
    replace hr := gg.2
    clear gg
    refine ⟨obl.2 (by first | (simp only [choice_lk, lock_eq, R.len, R.sub]; exact g) | exact g), ?_⟩
    have gg := guard_inv hr
    have g := gg.1
    replace hr := gg.2
    clear gg
    refine ⟨obl.2 (by first | (simp only [choice_lk, lock_eq, R.len, R.sub]; exact g) | exact g), ?_⟩
    apply Hidden.out
    have e := Option.some.inj hr
    constructor
    refine ⟨_, hF, ?_⟩
    (try cbv); (try simp only [choice_lk, lock_eq, and_self, and_true, true_and]); (try first | exact e | exact e.symm | (and_intros <;> first | assumption | rfl | exact Eq.symm (by assumption)))
  · unfold con_fifo_Queue_grow_2 at hce
    split at hce
    rotate_left
    · cases hce
    obtain rfl := Option.some.inj hce
    rename_i x1 x2 x3 r1
    have hb1 := hob _ (List.mem_singleton.2 rfl)
    have hb2 := obl.1 hb1
    clear hb1 hob hce
    refine hb2.elim fun r hF => ?_
    clear hb2
    simp only [List.length_cons, List.length_nil, Nat.zero_add, Nat.reduceAdd] at hk
    have hr : F_fifo_Queue_grow_2 x1 x2 x3 r1 = some r := by rw [lock_eq] at hF; exact hF
    unfold F_fifo_Queue_grow_2 at hr
    constructor
    (try cbv)
    have gg := guard_inv hr
    have g := gg.1
    replace hr := gg.2
    clear gg
    refine ⟨obl.2 (by first | (simp only [choice_lk, lock_eq, R.len, R.sub]; exact g) | exact g), ?_⟩
    have gg := guard_inv hr
    have g := gg.1
    replace hr := gg.2
    clear gg
    refine ⟨obl.2 (by first | (simp only [choice_lk, lock_eq, R.len, R.sub]; exact g) | exact g), ?_⟩
    have gg := guard_inv hr
    have g := gg.1
    replace hr := gg.2
    clear gg
    refine ⟨obl.2 (by first | (simp only [choice_lk, lock_eq, R.len, R.sub]; exact g) | exact g), ?_⟩
    have gg := guard_inv hr
    have g := gg.1
    replace hr := gg.2
    clear gg
    refine ⟨obl.2 (by first | (simp only [choice_lk, lock_eq, R.len, R.sub]; exact g) | exact g), ?_⟩
    apply Hidden.out
    have e := Option.some.inj hr
    constructor
    refine ⟨_, hF, ?_⟩
    (try cbv); (try simp only [choice_lk, lock_eq, and_self, and_true, true_and]); (try first | exact e | exact e.symm | (and_intros <;> first | assumption | rfl | exact Eq.symm (by assumption)))
end Go.Proofs.Ytdagccoamfhdcaa
end
section
/-
  The walk of (*tollbar/fifo.Queue).at (printed by a program of ours).
-/
set_option linter.unusedVariables false
set_option linter.unusedSimpArgs false
namespace Go.Proofs.Ytdagccoamfhdcaa
open Go.RowKit

noncomputable def tab_fifo_Queue_at : Nat → Option Con := look []
set_option maxHeartbeats 4000000 in
set_option maxRecDepth 100000 in
theorem vc_fifo_Queue_at (P : Program) (T : Tab P tab_fifo_Queue_at) (hm : P.follows .mixedOrders = true) : FnVC P tab_fifo_Queue_at ic_25 [.t 4] 17 con_fifo_Queue_at := by
  intro cargs ccks ce hce hob C hk
  apply Hidden.out
  replace hce : con_fifo_Queue_at_1 cargs ccks = some ce := hce
  · unfold con_fifo_Queue_at_1 at hce
    split at hce
    rotate_left
    · cases hce
    obtain rfl := Option.some.inj hce
    rename_i x1 x2 x3 x4 r1
    have hb1 := hob _ (List.mem_singleton.2 rfl)
    have hb2 := obl.1 hb1
    clear hb1 hob hce
    refine hb2.elim fun r hF => ?_
    clear hb2
    simp only [List.length_cons, List.length_nil, Nat.zero_add, Nat.reduceAdd] at hk
    have hr : F_fifo_Queue_at x1 x2 x3 x4 r1 = some r := by rw [lock_eq] at hF; exact hF
    unfold F_fifo_Queue_at at hr
    constructor
    (try cbv)
    have gg := guard_inv hr
    have g := gg.1
    replace hr := gg.2
    clear gg
    refine ⟨by first | (simp only [choice_lk, lock_eq]; exact g) | exact g, ?_⟩
    apply Hidden.out
    have e := Option.some.inj hr
    constructor
    refine ⟨_, hF, ?_⟩
    (try cbv); (try simp only [choice_lk, lock_eq, and_self, and_true, true_and]); (try first | exact e | exact e.symm | (and_intros <;> first | assumption | rfl | exact Eq.symm (by assumption)))
end Go.Proofs.Ytdagccoamfhdcaa
end
section
/-
  The walk of (*tollbar/fifo.Queue).put (printed by a program of ours).
-/
set_option linter.unusedVariables false
set_option linter.unusedSimpArgs false
namespace Go.Proofs.Ytdagccoamfhdcaa
open Go.RowKit

noncomputable def tab_fifo_Queue_put : Nat → Option Con := look [(27, con_fifo_Queue_grow), (25, con_fifo_Queue_at)]
set_option maxHeartbeats 4000000 in
set_option maxRecDepth 100000 in
theorem vc_fifo_Queue_put (P : Program) (T : Tab P tab_fifo_Queue_put) (hm : P.follows .mixedOrders = true) : FnVC P tab_fifo_Queue_put ic_24 [] 35 con_fifo_Queue_put := by
  intro cargs ccks ce hce hob C hk
  apply Hidden.out
  replace hce : altC (con_fifo_Queue_put_1 cargs ccks) (con_fifo_Queue_put_2 cargs ccks) = some ce := hce
  replace hce := altC_inv hce
  rcases hce with hce | hce
  · unfold con_fifo_Queue_put_1 at hce
    split at hce
    rotate_left
    · cases hce
    obtain rfl := Option.some.inj hce
    rename_i x1 x2 x3 x4 x5 x6
    have hb1 := hob _ (List.mem_singleton.2 rfl)
    have hb2 := obl.1 hb1
    clear hb1 hob hce
    refine hb2.elim fun r hF => ?_
    clear hb2
    simp only [List.length_cons, List.length_nil, Nat.zero_add, Nat.reduceAdd] at hk
    have hr : F_fifo_Queue_put x1 x2 x3 x4 x5 x6 = some r := by rw [lock_eq] at hF; exact hF
    unfold F_fifo_Queue_put at hr
    constructor
    (try cbv)
    refine sel_intro (fun h => ?_) (fun h => ?_)
    · have h1 : (ieq x6 (ofN 0)) = true := by first | exact h | (have h2 := h; simp only [choice_lk, lock_eq] at h2; exact h2) | (simp only [choice_lk, lock_eq] at h; exact h)
      rw [if_pos h1] at hr
      (try cbv)
      have hqe : ∃ qq, F_fifo_Queue_grow x4 x5 x6 = some qq := by
        cases hq : F_fifo_Queue_grow x4 x5 x6 with
        | none => rw [hq] at hr; cases hr
        | some qq => exact ⟨qq, rfl⟩
      refine ⟨obl.2 (by simp only [choice_lk, lock_eq]; exact hqe), (by rintro (_) _ <;> cbv), ?_⟩
      clear hqe
      intro q1 hx1
      simp only [choice_lk, lock_eq] at hx1
      all_goals (rw [hx1] at hr; dsimp only at hr; constructor; (try cbv))
      have hqe : ∃ qq, F_fifo_Queue_at x6 x4 (0 : Int) x6 q1 = some qq := by
        cases hq : F_fifo_Queue_at x6 x4 (0 : Int) x6 q1 with
        | none => rw [hq] at hr; cases hr
        | some qq => exact ⟨qq, rfl⟩
      refine ⟨(by simp only [choice_lk, lock_eq]; exact hqe), obl.2 (by simp only [choice_lk, lock_eq]; exact hqe), (by rintro (_) _ <;> cbv), ?_⟩
      clear hqe
      intro y1 hx2
      simp only [choice_lk, lock_eq] at hx2
      all_goals (rw [hx2] at hr; dsimp only at hr; constructor; (try cbv))
      have gg := guard_inv hr
      have g := gg.1
      replace hr := gg.2
      clear gg
      refine ⟨obl.2 (by first | (simp only [choice_lk, lock_eq, R.len, R.sub]; exact g) | exact g), ?_⟩
      apply Hidden.out
      have e := Option.some.inj hr
      obtain ⟨u0, u1⟩ := r
      simp only [Prod.mk.injEq] at e
      obtain ⟨e0, e1⟩ := e
      constructor
      refine ⟨_, hF, ?_⟩
      (try cbv); (try simp only [choice_lk, lock_eq, and_self, and_true, true_and]); (try first | exact e | exact e.symm | (and_intros <;> first | assumption | rfl | exact Eq.symm (by assumption)))
    · have h1 : (ieq x6 (ofN 0)) = false := by first | exact h | (have h2 := h; simp only [choice_lk, lock_eq] at h2; exact h2) | (simp only [choice_lk, lock_eq] at h; exact h)
      rw [if_neg (by rw [h1]; exact Bool.false_ne_true)] at hr
      (try cbv)
      cases hr
  · unfold con_fifo_Queue_put_2 at hce
    split at hce
    rotate_left
    · cases hce
    obtain rfl := Option.some.inj hce
    rename_i x1 x2 x3 x4 x5 x6 r1
    have hb1 := hob _ (List.mem_singleton.2 rfl)
    have hb2 := obl.1 hb1
    clear hb1 hob hce
    refine hb2.elim fun r hF => ?_
    clear hb2
    simp only [List.length_cons, List.length_nil, Nat.zero_add, Nat.reduceAdd] at hk
    have hr : F_fifo_Queue_put_2 x1 x2 x3 x4 x5 x6 r1 = some r := by rw [lock_eq] at hF; exact hF
    unfold F_fifo_Queue_put_2 at hr
    constructor
    (try cbv)
    refine sel_intro (fun h => ?_) (fun h => ?_)
    · have h1 : (ieq x6 (ofN (xlen r1))) = true := by first | exact h | (have h2 := h; simp only [choice_lk, lock_eq] at h2; exact h2) | (simp only [choice_lk, lock_eq] at h; exact h)
      rw [if_pos h1] at hr
      (try cbv)
      have hqe : ∃ qq, F_fifo_Queue_grow_2 x4 x5 x6 r1 = some qq := by
        cases hq : F_fifo_Queue_grow_2 x4 x5 x6 r1 with
        | none => rw [hq] at hr; cases hr
        | some qq => exact ⟨qq, rfl⟩
      refine ⟨obl.2 (by simp only [choice_lk, lock_eq]; exact hqe), (by rintro (_) _ <;> cbv), ?_⟩
      clear hqe
      intro q1 hx1
      simp only [choice_lk, lock_eq] at hx1
      all_goals (rw [hx1] at hr; dsimp only at hr; constructor; (try cbv))
      have hqe : ∃ qq, F_fifo_Queue_at x6 x4 (0 : Int) x6 q1 = some qq := by
        cases hq : F_fifo_Queue_at x6 x4 (0 : Int) x6 q1 with
        | none => rw [hq] at hr; cases hr
        | some qq => exact ⟨qq, rfl⟩
      refine ⟨(by simp only [choice_lk, lock_eq]; exact hqe), obl.2 (by simp only [choice_lk, lock_eq]; exact hqe), (by rintro (_) _ <;> cbv), ?_⟩
      clear hqe
      intro y1 hx2
      simp only [choice_lk, lock_eq] at hx2
      all_goals (rw [hx2] at hr; dsimp only at hr; constructor; (try cbv))
      have gg := guard_inv hr
      have g := gg.1
      replace hr := gg.2
      clear gg
      refine ⟨obl.2 (by first | (simp only [choice_lk, lock_eq, R.len, R.sub]; exact g) | exact g), ?_⟩
      apply Hidden.out
      have e := Option.some.inj hr
      obtain ⟨u0, u1, u2⟩ := r
      simp only [Prod.mk.injEq] at e
      obtain ⟨e0, e1, e2⟩ := e
      constructor
      refine ⟨_, hF, ?_⟩
      (try cbv); (try simp only [choice_lk, lock_eq, and_self, and_true, true_and]); (try first | exact e | exact e.symm | (and_intros <;> first | assumption | rfl | exact Eq.symm (by assumption)))
    · have h1 : (ieq x6 (ofN (xlen r1))) = false := by first | exact h | (have h2 := h; simp only [choice_lk, lock_eq] at h2; exact h2) | (simp only [choice_lk, lock_eq] at h; exact h)
      rw [if_neg (by rw [h1]; exact Bool.false_ne_true)] at hr
      (try cbv)
      have hqe : ∃ qq, F_fifo_Queue_at x6 x4 x5 x6 r1 = some qq := by
        cases hq : F_fifo_Queue_at x6 x4 x5 x6 r1 with
        | none => rw [hq] at hr; cases hr
        | some qq => exact ⟨qq, rfl⟩
      refine ⟨(by simp only [choice_lk, lock_eq]; exact hqe), obl.2 (by simp only [choice_lk, lock_eq]; exact hqe), (by rintro (_) _ <;> cbv), ?_⟩
      clear hqe
      intro y2 hx3
      simp only [choice_lk, lock_eq] at hx3
      all_goals (rw [hx3] at hr; dsimp only at hr; constructor; (try cbv))
      have gg := guard_inv hr
      have g := gg.1
      replace hr := gg.2
      clear gg
      refine ⟨obl.2 (by first | (simp only [choice_lk, lock_eq, R.len, R.sub]; exact g) | exact g), ?_⟩
      apply Hidden.out
      have e := Option.some.inj hr
      obtain ⟨u0, u1, u2⟩ := r
      simp only [Prod.mk.injEq] at e
      obtain ⟨e0, e1, e2⟩ := e
      constructor
      refine ⟨_, hF, ?_⟩
      (try cbv); (try simp only [choice_lk, lock_eq, and_self, and_true, true_and]); (try first | exact e | exact e.symm | (and_intros <;> first | assumption | rfl | exact Eq.symm (by assumption)))
end Go.Proofs.Ytdagccoamfhdcaa
end
section
/-
  The walk of (*tollbar/fifo.Queue).Push (printed by a program of ours).
-/
set_option linter.unusedVariables false
set_option linter.unusedSimpArgs false
namespace Go.Proofs.Ytdagccoamfhdcaa
open Go.RowKit

noncomputable def tab_fifo_Queue_Push : Nat → Option Con := look [(24, con_fifo_Queue_put)]
set_option maxHeartbeats 4000000 in
set_option maxRecDepth 100000 in
theorem vc_fifo_Queue_Push (P : Program) (T : Tab P tab_fifo_Queue_Push) (hm : P.follows .mixedOrders = true) : FnVC P tab_fifo_Queue_Push ic_12 [.t 4] 21 con_fifo_Queue_Push := by
  intro cargs ccks ce hce hob C hk
  apply Hidden.out
  replace hce : altC (con_fifo_Queue_Push_1 cargs ccks) (altC (con_fifo_Queue_Push_2 cargs ccks) (con_fifo_Queue_Push_3 cargs ccks)) = some ce := hce
  replace hce := altC_inv hce
  rcases hce with hce | hce
  · unfold con_fifo_Queue_Push_1 at hce
    split at hce
    rotate_left
    · cases hce
    obtain rfl := Option.some.inj hce
    rename_i x1 x2 x3 x4 x5 x6
    have hb1 := hob _ (List.mem_singleton.2 rfl)
    have hb2 := obl.1 hb1
    clear hb1 hob hce
    refine hb2.elim fun r hF => ?_
    clear hb2
    simp only [List.length_cons, List.length_nil, Nat.zero_add, Nat.reduceAdd] at hk
    have hr : F_fifo_Queue_Push x1 x2 x3 x4 x5 x6 = some r := by rw [lock_eq] at hF; exact hF
    unfold F_fifo_Queue_Push at hr
    constructor
    (try cbv)
    refine sel_intro (fun h => ?_) (fun h => ?_)
    · have h1 : (ile x4 x6) = true := by first | exact h | (have h2 := h; simp only [choice_lk, lock_eq] at h2; exact h2) | (simp only [choice_lk, lock_eq] at h; exact h)
      rw [if_pos h1] at hr
      (try cbv)
      apply Hidden.out
      have e := Option.some.inj hr
      obtain ⟨u0, u1, u2, u3⟩ := r
      simp only [Prod.mk.injEq] at e
      obtain ⟨e0, e1, e2, e3⟩ := e
      constructor
      refine ⟨_, hF, ?_⟩
      (try cbv); (try simp only [choice_lk, lock_eq, and_self, and_true, true_and]); (try first | exact e | exact e.symm | (and_intros <;> first | assumption | rfl | exact Eq.symm (by assumption)))
    · have h1 : (ile x4 x6) = false := by first | exact h | (have h2 := h; simp only [choice_lk, lock_eq] at h2; exact h2) | (simp only [choice_lk, lock_eq] at h; exact h)
      rw [if_neg (by rw [h1]; exact Bool.false_ne_true)] at hr
      (try cbv)
      have hqe : ∃ qq, F_fifo_Queue_put x1 x2 x3 x4 x5 x6 = some qq := by
        cases hq : F_fifo_Queue_put x1 x2 x3 x4 x5 x6 with
        | none => rw [hq] at hr; cases hr
        | some qq => exact ⟨qq, rfl⟩
      refine ⟨obl.2 (by simp only [choice_lk, lock_eq]; exact hqe), (by rintro (⟨_, _⟩) _ <;> cbv), ?_⟩
      clear hqe
      intro qq hx1
      simp only [choice_lk, lock_eq] at hx1
      rcases qq with ⟨y1, q1⟩
      all_goals (rw [hx1] at hr; dsimp only at hr; constructor; (try cbv))
      apply Hidden.out
      have e := Option.some.inj hr
      obtain ⟨u0, u1, u2, u3⟩ := r
      simp only [Prod.mk.injEq] at e
      obtain ⟨e0, e1, e2, e3⟩ := e
      constructor
      refine ⟨_, hF, ?_⟩
      (try cbv); (try simp only [choice_lk, lock_eq, and_self, and_true, true_and]); (try first | exact e | exact e.symm | (and_intros <;> first | assumption | rfl | exact Eq.symm (by assumption)))
  replace hce := altC_inv hce
  rcases hce with hce | hce
  · unfold con_fifo_Queue_Push_2 at hce
    split at hce
    rotate_left
    · cases hce
    obtain rfl := Option.some.inj hce
    rename_i x1 x2 x3 x4 x5 x6 r1
    have hb1 := hob _ (List.mem_singleton.2 rfl)
    have hb2 := obl.1 hb1
    clear hb1 hob hce
    refine hb2.elim fun r hF => ?_
    clear hb2
    simp only [List.length_cons, List.length_nil, Nat.zero_add, Nat.reduceAdd] at hk
    have hr : F_fifo_Queue_Push_2 x1 x2 x3 x4 x5 x6 r1 = some r := by rw [lock_eq] at hF; exact hF
    unfold F_fifo_Queue_Push_2 at hr
    constructor
    (try cbv)
    refine sel_intro (fun h => ?_) (fun h => ?_)
    · have h1 : (ile x4 x6) = true := by first | exact h | (have h2 := h; simp only [choice_lk, lock_eq] at h2; exact h2) | (simp only [choice_lk, lock_eq] at h; exact h)
      rw [if_pos h1] at hr
      (try cbv)
      apply Hidden.out
      have e := Option.some.inj hr
      obtain ⟨u0, u1, u2, u3⟩ := r
      simp only [Prod.mk.injEq] at e
      obtain ⟨e0, e1, e2, e3⟩ := e
      constructor
      refine ⟨_, hF, ?_⟩
      (try cbv); (try simp only [choice_lk, lock_eq, and_self, and_true, true_and]); (try first | exact e | exact e.symm | (and_intros <;> first | assumption | rfl | exact Eq.symm (by assumption)))
    · have h1 : (ile x4 x6) = false := by first | exact h | (have h2 := h; simp only [choice_lk, lock_eq] at h2; exact h2) | (simp only [choice_lk, lock_eq] at h; exact h)
      rw [if_neg (by rw [h1]; exact Bool.false_ne_true)] at hr
      (try cbv)
      have hqe : ∃ qq, F_fifo_Queue_put_2 x1 x2 x3 x4 x5 x6 r1 = some qq := by
        cases hq : F_fifo_Queue_put_2 x1 x2 x3 x4 x5 x6 r1 with
        | none => rw [hq] at hr; cases hr
        | some qq => exact ⟨qq, rfl⟩
      refine ⟨obl.2 (by simp only [choice_lk, lock_eq]; exact hqe), (by rintro (⟨_, _, _⟩) _ <;> cbv), ?_⟩
      clear hqe
      intro qq hx1
      simp only [choice_lk, lock_eq] at hx1
      rcases qq with ⟨y1, y2, q1⟩
      all_goals (rw [hx1] at hr; dsimp only at hr; constructor; (try cbv))
      apply Hidden.out
      have e := Option.some.inj hr
      obtain ⟨u0, u1, u2, u3⟩ := r
      simp only [Prod.mk.injEq] at e
      obtain ⟨e0, e1, e2, e3⟩ := e
      constructor
      refine ⟨_, hF, ?_⟩
      (try cbv); (try simp only [choice_lk, lock_eq, and_self, and_true, true_and]); (try first | exact e | exact e.symm | (and_intros <;> first | assumption | rfl | exact Eq.symm (by assumption)))
  · unfold con_fifo_Queue_Push_3 at hce
    split at hce
    rotate_left
    · cases hce
    obtain rfl := Option.some.inj hce
    rename_i x1 x2 x3
    have hb1 := hob _ (List.mem_singleton.2 rfl)
    have hb2 := obl.1 hb1
    clear hb1 hob hce
    refine hb2.elim fun r hF => ?_
    clear hb2
    simp only [List.length_cons, List.length_nil, Nat.zero_add, Nat.reduceAdd] at hk
    have hr : F_fifo_Queue_Push_3 x1 x2 x3 = some r := by rw [lock_eq] at hF; exact hF
    unfold F_fifo_Queue_Push_3 at hr
    constructor
    (try cbv)
    apply Hidden.out
    have e := Option.some.inj hr
    constructor
    refine ⟨_, hF, ?_⟩
    (try cbv); (try simp only [choice_lk, lock_eq, and_self, and_true, true_and]); (try first | exact e | exact e.symm | (and_intros <;> first | assumption | rfl | exact Eq.symm (by assumption)))
end Go.Proofs.Ytdagccoamfhdcaa
end
section
/-
  The walk of (*tollbar/fifo.Queue).Len (printed by a program of ours).
-/
set_option linter.unusedVariables false
set_option linter.unusedSimpArgs false
namespace Go.Proofs.Ytdagccoamfhdcaa
open Go.RowKit

noncomputable def tab_fifo_Queue_Len : Nat → Option Con := look []
set_option maxHeartbeats 4000000 in
set_option maxRecDepth 100000 in
theorem vc_fifo_Queue_Len (P : Program) (T : Tab P tab_fifo_Queue_Len) (hm : P.follows .mixedOrders = true) : FnVC P tab_fifo_Queue_Len ic_14 [.t 2] 9 con_fifo_Queue_Len := by
  intro cargs ccks ce hce hob C hk
  apply Hidden.out
  replace hce : altC (con_fifo_Queue_Len_1 cargs ccks) (con_fifo_Queue_Len_2 cargs ccks) = some ce := hce
  replace hce := altC_inv hce
  rcases hce with hce | hce
  · unfold con_fifo_Queue_Len_1 at hce
    split at hce
    rotate_left
    · cases hce
    obtain rfl := Option.some.inj hce
    rename_i x1 x2 x3 r1
    have hb1 := hob _ (List.mem_singleton.2 rfl)
    have hb2 := obl.1 hb1
    clear hb1 hob hce
    refine hb2.elim fun r hF => ?_
    clear hb2
    simp only [List.length_cons, List.length_nil, Nat.zero_add, Nat.reduceAdd] at hk
    have hr : F_fifo_Queue_Len x1 x2 x3 r1 = some r := by rw [lock_eq] at hF; exact hF
    unfold F_fifo_Queue_Len at hr
    constructor
    (try cbv)
    apply Hidden.out
    have e := Option.some.inj hr
    constructor
    refine ⟨_, hF, ?_⟩
    (try cbv); (try simp only [choice_lk, lock_eq, and_self, and_true, true_and]); (try first | exact e | exact e.symm | (and_intros <;> first | assumption | rfl | exact Eq.symm (by assumption)))
  · unfold con_fifo_Queue_Len_2 at hce
    split at hce
    rotate_left
    · cases hce
    obtain rfl := Option.some.inj hce
    have hb1 := hob _ (List.mem_singleton.2 rfl)
    have hb2 := obl.1 hb1
    clear hb1 hob hce
    refine hb2.elim fun r hF => ?_
    clear hb2
    simp only [List.length_cons, List.length_nil, Nat.zero_add, Nat.reduceAdd] at hk
    have hr : F_fifo_Queue_Len_3 = some r := by rw [lock_eq] at hF; exact hF
    unfold F_fifo_Queue_Len_3 at hr
    constructor
    (try cbv)
    apply Hidden.out
    have e := Option.some.inj hr
    constructor
    refine ⟨_, hF, ?_⟩
    (try cbv); (try simp only [choice_lk, lock_eq, and_self, and_true, true_and]); (try first | exact e | exact e.symm | (and_intros <;> first | assumption | rfl | exact Eq.symm (by assumption)))
end Go.Proofs.Ytdagccoamfhdcaa
end
section
/-
  The walk of (*tollbar/fifo.Queue).Head (printed by a program of ours).
-/
set_option linter.unusedVariables false
set_option linter.unusedSimpArgs false
namespace Go.Proofs.Ytdagccoamfhdcaa
open Go.RowKit

noncomputable def tab_fifo_Queue_Head : Nat → Option Con := look [(14, con_fifo_Queue_Len)]
set_option maxHeartbeats 4000000 in
set_option maxRecDepth 100000 in
theorem vc_fifo_Queue_Head (P : Program) (T : Tab P tab_fifo_Queue_Head) (hm : P.follows .mixedOrders = true) : FnVC P tab_fifo_Queue_Head ic_20 [.c 2 3 true, .t 3] 18 con_fifo_Queue_Head := by
  intro cargs ccks ce hce hob C hk
  apply Hidden.out
  replace hce : altC (con_fifo_Queue_Head_1 cargs ccks) (con_fifo_Queue_Head_2 cargs ccks) = some ce := hce
  replace hce := altC_inv hce
  rcases hce with hce | hce
  · unfold con_fifo_Queue_Head_1 at hce
    split at hce
    rotate_left
    · cases hce
    obtain rfl := Option.some.inj hce
    rename_i x1 x2 x3 r1
    have hb1 := hob _ (List.mem_singleton.2 rfl)
    have hb2 := obl.1 hb1
    clear hb1 hob hce
    refine hb2.elim fun r hF => ?_
    clear hb2
    simp only [List.length_cons, List.length_nil, Nat.zero_add, Nat.reduceAdd] at hk
    have hr : F_fifo_Queue_Head x1 x2 x3 r1 = some r := by rw [lock_eq] at hF; exact hF
    unfold F_fifo_Queue_Head at hr
    constructor
    (try cbv)
    have hqe : ∃ qq, F_fifo_Queue_Len x1 x2 x3 r1 = some qq := by
      cases hq : F_fifo_Queue_Len x1 x2 x3 r1 with
      | none => rw [hq] at hr; cases hr
      | some qq => exact ⟨qq, rfl⟩
    refine ⟨obl.2 (by simp only [choice_lk, lock_eq]; exact hqe), (by rintro (_) _ <;> cbv), ?_⟩
    clear hqe
    intro qq hx1
    simp only [choice_lk, lock_eq] at hx1
    rcases qq with _
    all_goals (rw [hx1] at hr; dsimp only at hr; constructor; (try cbv))
    refine sel_intro (fun h => ?_) (fun h => ?_)
    · have h1 : (ieq x3 (0 : Int)) = true := by first | exact h | (have h2 := h; simp only [choice_lk, lock_eq] at h2; exact h2) | (simp only [choice_lk, lock_eq] at h; exact h)
      rw [if_pos h1] at hr
      (try cbv)
      apply Hidden.out
      have e := Option.some.inj hr
      obtain ⟨u0, u1, u2, u3⟩ := r
      simp only [Prod.mk.injEq] at e
      obtain ⟨e0, e1, e2, e3⟩ := e
      constructor
      refine ⟨_, hF, ?_⟩
      (try cbv); (try simp only [choice_lk, lock_eq, and_self, and_true, true_and]); (try first | exact e | exact e.symm | (and_intros <;> first | assumption | rfl | exact Eq.symm (by assumption)))
    · have h1 : (ieq x3 (0 : Int)) = false := by first | exact h | (have h2 := h; simp only [choice_lk, lock_eq] at h2; exact h2) | (simp only [choice_lk, lock_eq] at h; exact h)
      rw [if_neg (by rw [h1]; exact Bool.false_ne_true)] at hr
      (try cbv)
      have gg := guard_inv hr
      have g := gg.1
      replace hr := gg.2
      clear gg
      refine ⟨obl.2 (by first | (simp only [choice_lk, lock_eq, R.len, R.sub]; exact g) | exact g), ?_⟩
      apply Hidden.out
      have e := Option.some.inj hr
      obtain ⟨u0, u1, u2, u3⟩ := r
      simp only [Prod.mk.injEq] at e
      obtain ⟨e0, e1, e2, e3⟩ := e
      constructor
      refine ⟨_, hF, ?_⟩
      (try cbv); (try simp only [choice_lk, lock_eq, and_self, and_true, true_and]); (try first | exact e | exact e.symm | (and_intros <;> first | assumption | rfl | exact Eq.symm (by assumption)))
  · unfold con_fifo_Queue_Head_2 at hce
    split at hce
    rotate_left
    · cases hce
    obtain rfl := Option.some.inj hce
    have hb1 := hob _ (List.mem_singleton.2 rfl)
    have hb2 := obl.1 hb1
    clear hb1 hob hce
    refine hb2.elim fun r hF => ?_
    clear hb2
    simp only [List.length_cons, List.length_nil, Nat.zero_add, Nat.reduceAdd] at hk
    have hr : F_fifo_Queue_Head_3 = some r := by rw [lock_eq] at hF; exact hF
    unfold F_fifo_Queue_Head_3 at hr
    constructor
    (try cbv)
    have hqe : ∃ qq, F_fifo_Queue_Len_3 = some qq := by
      cases hq : F_fifo_Queue_Len_3 with
      | none => rw [hq] at hr; cases hr
      | some qq => exact ⟨qq, rfl⟩
    refine ⟨obl.2 (by simp only [choice_lk, lock_eq]; exact hqe), (by rintro (_) _ <;> cbv), ?_⟩
    clear hqe
    intro qq hx1
    simp only [choice_lk, lock_eq] at hx1
    rcases qq with _
    all_goals (rw [hx1] at hr; dsimp only at hr; constructor; (try cbv))
    refine sel_intro (fun h => ?_) (fun h => ?_)
    · have h1 : (ieq (0 : Int) (0 : Int)) = true := by first | exact h | (have h2 := h; simp only [choice_lk, lock_eq] at h2; exact h2) | (simp only [choice_lk, lock_eq] at h; exact h)
      rw [if_pos h1] at hr
      (try cbv)
      apply Hidden.out
      have e := Option.some.inj hr
      constructor
      refine ⟨_, hF, ?_⟩
      (try cbv); (try simp only [choice_lk, lock_eq, and_self, and_true, true_and]); (try first | exact e | exact e.symm | (and_intros <;> first | assumption | rfl | exact Eq.symm (by assumption)))
    · have h1 : (ieq (0 : Int) (0 : Int)) = false := by first | exact h | (have h2 := h; simp only [choice_lk, lock_eq] at h2; exact h2) | (simp only [choice_lk, lock_eq] at h; exact h)
      rw [if_neg (by rw [h1]; exact Bool.false_ne_true)] at hr
      (try cbv)
      cases hr
end Go.Proofs.Ytdagccoamfhdcaa
end
section
/-
  A walk that reckons: from a contract to what a row asks for.
-/
set_option linter.unusedVariables false
set_option linter.unusedSimpArgs false
namespace Go.Proofs.Ytdagccoamfhdcaa
open Go.RowKit

/-- A function that but reads what it is given, and answers true. -/
theorem law_calls {P : Program} {f : FuncId} {con : Con} (h : FnOK P f con) {cargs : List SV} {obs : List Prop} {sm : List Bool} (hc : con.f cargs [] = some ⟨obs, .one (.v (.bool true)) [], sm⟩) (hob : ∀ p ∈ obs, p) {W : World} {args : List Value} (hd : DensA (fun _ => none) W (fun _ => False) cargs args) :
    Calls P f args.toArray W fun e W' => e = .returned (.bool true) ∧ Below W.heap.size W W' := by
  have hO : ∀ b, ¬ Own (fun _ => none) (canon 0 ([] : List Ck)) b := by
    rintro b ⟨id, c, p, h1, h2, h3⟩
    cases h2
  have hS : HSat (ctxOf W (fun _ => False) (fun _ => none) []) (fun _ => none) (canon 0 []) (fun i => ([] : List Ck).length ≤ i) W := by
    refine ⟨fun id c hc => by simp [canon, hget] at hc, fun i j c d p q b h1 => by simp [canon, hget] at h1, fun b hb => absurd hb (hO b), rfl, rfl, rfl, Nat.le_refl _, fun _ _ _ => rfl, fun b hb => hb.elim, fun _ _ => rfl, fun id hid => rfl⟩
  have hA : Avo (ctxOf W (fun _ => False) (fun _ => none) []) (fun _ => none) (canon 0 []) = fun _ => False := by
    funext b
    simp only [Avo, ctxOf, false_or, eq_iff_iff, iff_false]
    exact hO b
  have key := h cargs [] _ hc hob (fun _ => False) (fun _ => none) W args hS (by rw [hA]; exact hd)
  refine key.mono ?_
  rintro e W' ⟨u, PL', rfl, H, D⟩
  cases D
  refine ⟨rfl, ?_⟩
  exact ⟨H.os, H.tape, H.output, H.size, fun k hk => H.old k hk (hO k)⟩

/-- The same, by a contract that leaves open what it yields. -/
theorem law_many {P : Program} {f : FuncId} {con : Con} (h : FnOK P f con) {cargs : List SV} {obs : List Prop} {X : Type} {Pr : X → Prop} {v : X → SV} {post : X → List PostC} {sm : List Bool} (hc : con.f cargs [] = some ⟨obs, .many X Pr v post, sm⟩) (hob : ∀ p ∈ obs, p) (hv : ∀ x, Pr x → v x = .v (.bool true) ∧ post x = []) {W : World} {args : List Value} (hd : DensA (fun _ => none) W (fun _ => False) cargs args) :
    Calls P f args.toArray W fun e W' => e = .returned (.bool true) ∧ Below W.heap.size W W' := by
  have hO : ∀ b, ¬ Own (fun _ => none) (canon 0 ([] : List Ck)) b := by
    rintro b ⟨id, c, p, h1, h2, h3⟩
    cases h2
  have hS : HSat (ctxOf W (fun _ => False) (fun _ => none) []) (fun _ => none) (canon 0 []) (fun i => ([] : List Ck).length ≤ i) W := by
    refine ⟨fun id c hc => by simp [canon, hget] at hc, fun i j c d p q b h1 => by simp [canon, hget] at h1, fun b hb => absurd hb (hO b), rfl, rfl, rfl, Nat.le_refl _, fun _ _ _ => rfl, fun b hb => hb.elim, fun _ _ => rfl, fun id hid => rfl⟩
  have hA : Avo (ctxOf W (fun _ => False) (fun _ => none) []) (fun _ => none) (canon 0 []) = fun _ => False := by
    funext b
    simp only [Avo, ctxOf, false_or, eq_iff_iff, iff_false]
    exact hO b
  have key := h cargs [] _ hc hob (fun _ => False) (fun _ => none) W args hS (by rw [hA]; exact hd)
  refine key.mono ?_
  rintro e W' ⟨u, PL', rfl, x, hx, H, D⟩
  obtain ⟨e1, e2⟩ := hv x hx
  rw [e1] at D
  cases D
  refine ⟨rfl, ?_⟩
  exact ⟨H.os, H.tape, H.output, H.size, fun k hk => H.old k hk (hO k)⟩
theorem densA_nil {PL : Nat → Option Pl} {w : World} {Av : Nat → Prop} : DensA PL w Av [] [] := ⟨rfl, fun j h1 _ => absurd h1 (by simp)⟩
theorem densA_cons {PL : Nat → Option Pl} {w : World} {Av : Nat → Prop} {x : SV} {l : List SV} {c : Value} {cs : List Value} (h : Den PL w Av x c) (k : DensA PL w Av l cs) : DensA PL w Av (x :: l) (c :: cs) :=
  ⟨by simp [k.1], fun j h1 h2 => by
    cases j with
    | zero => exact h
    | succ j => exact k.2 j (by simpa using h1) (by simpa using h2)⟩
theorem den_str {PL : Nat → Option Pl} {w : World} {Av : Nat → Prop} (b : ByteArray) : Den PL w Av (.str b.data.toList) (.string b) := by
  have := Den.str (PL := PL) (w := w) (Av := Av) b.data.toList
  simpa using this
end Go.Proofs.Ytdagccoamfhdcaa
end
section
/-
  A walk that reckons: functions that are walked by hand, and fit in.
-/
set_option linter.unusedVariables false
set_option linter.unusedSimpArgs false
namespace Go.Proofs.Ytdagccoamfhdcaa
open Go.RowKit

theorem alloc_new (w : World) (o : Obj) : (w.alloc o).heap[w.heap.size]? = some o := by
  show (w.heap.push o)[w.heap.size]? = some o
  simp
section
variable {P : Program} {w w' : World} {Z : Nat → Prop} {PL : Nat → Option Pl}
theorem hupd_nil : hupd (pcan 0 []) (canon 0 ([] : List Ck)) = [] := rfl
theorem hupd_row (r : R) : hupd (pcan 0 [.to (.row r)]) (canon 0 ([] : List Ck)) = [(0, .row r)] := rfl
/-- Nothing but new memory. -/
theorem hsat_plain (HS : HSat (ctxOf w Z PL []) PL (canon 0 []) (fun i => ([] : List Ck).length ≤ i) w) (hB : Below w.heap.size w w') : HSat (ctxOf w Z PL []) PL (hupd (pcan 0 []) (canon 0 [])) (fun _ => False) w' := by
  rw [hupd_nil]
  have hO : ∀ b, ¬ Own PL ([] : List (Nat × Ck)) b := by rintro b ⟨id, c, p, h1, _⟩; simp [hget] at h1
  refine ⟨fun id c hc => by simp [hget] at hc, fun i j c d p q b h1 => by simp [hget] at h1, fun b hb => absurd hb (hO b), hB.os, hB.tape, hB.output, hB.size, fun b hb _ => hB.block b hb, HS.zlt, fun _ h => h.elim, fun id hid => absurd hid (Nat.not_lt_zero _)⟩
/-- A new row. -/
theorem hsat_row (HS : HSat (ctxOf w Z PL []) PL (canon 0 []) (fun i => ([] : List Ck).length ≤ i) w) (hB : Below w.heap.size w w') (r : R) (b cap : Nat) (cs : Array Value) (hb : w.heap.size ≤ b)
    (hh : w'.heap[b]? = some (.cells cs r.T (0, 0))) (h0 : 0 < r.sz) (hc : rlen r ≤ cap) (hm : cap ≤ maxLen) (hs : cs.size = cap * r.sz) (hr : ∀ PL' Av', RP PL' w' Av' r cs.toList) :
    ∃ PL', HSat (ctxOf w Z PL []) PL' (hupd (pcan 0 [.to (.row r)]) (canon 0 [])) (fun _ => False) w' ∧ Den PL' w' (Avo (ctxOf w Z PL []) PL' (hupd (pcan 0 [.to (.row r)]) (canon 0 []))) (.wsl 0) (.slice (some ⟨b, 0, none⟩) (rlen r) cap) := by
  rw [hupd_row]
  have hP : padd PL 0 ⟨some ⟨b, 0, none⟩, rlen r, cap, r.sz⟩ 0 = some ⟨some ⟨b, 0, none⟩, rlen r, cap, r.sz⟩ := padd_eq _ _ _
  have one : ∀ id c, hget [(0, Ck.row r)] id = some c → id = 0 ∧ c = .row r := by
    intro id c h
    simp only [hget] at h
    cases hi : Nat.beq id 0 with
    | true => rw [hi] at h; injection h with h; exact ⟨(nbeq _ _).1 hi, h.symm⟩
    | false => rw [hi] at h; cases h
  refine ⟨padd PL 0 ⟨some ⟨b, 0, none⟩, rlen r, cap, r.sz⟩, ⟨?_, ?_, ?_, hB.os, hB.tape, hB.output, hB.size, fun b hb _ => hB.block b hb, HS.zlt, fun _ h => h.elim, fun id hid => absurd hid (Nat.not_lt_zero _)⟩, ?_⟩
  · intro id c hg
    obtain ⟨rfl, rfl⟩ := one id c hg
    exact rp_row hP rfl rfl h0 rfl hh hc hm hs (hr _ _)
  · intro i j c d p q b' h1 h2 _ _ _ _
    rw [(one i c h1).1, (one j d h2).1]
  · rintro b' ⟨id, c, p, h1, h2, h3⟩
    obtain ⟨rfl, rfl⟩ := one id c h1
    rw [hP] at h2
    injection h2 with h2
    subst h2
    injection h3 with h3
    injection h3 with h3
    subst h3
    exact ⟨fun hz => by have : b < w.heap.size := HS.zlt b hz; omega, .inr hb⟩
  · exact .wsl 0 _ hP
theorem densA1 {Av : Nat → Prop} {x : SV} {args : List Value} (h : DensA PL w Av [x] args) : ∃ v, args = [v] ∧ Den PL w Av x v := by
  obtain ⟨h1, h2⟩ := h
  match args, h1 with
  | [v], _ => exact ⟨v, rfl, h2 0 (by simp) (by simp)⟩
theorem densA2 {Av : Nat → Prop} {x y : SV} {args : List Value} (h : DensA PL w Av [x, y] args) : ∃ v u, args = [v, u] ∧ Den PL w Av x v ∧ Den PL w Av y u := by
  obtain ⟨h1, h2⟩ := h
  match args, h1 with
  | [v, u], _ => exact ⟨v, u, rfl, h2 0 (by simp) (by simp), h2 1 (by simp) (by simp)⟩
end
end Go.Proofs.Ytdagccoamfhdcaa
end
section
/-
  slices.Grow of nil: its walk, by hand.
-/
set_option linter.unusedVariables false
set_option linter.unusedSimpArgs false
namespace Go.Proofs.Ytdagccoamfhdcaa
open Go.RowKit

theorem run_append_made {P : Program} {w : World} {t u ty e : TypeId} {i : TypeInfo} {z : Value} (ht : P.underlying t = some (.slice e)) (hu : P.underlying u = some (.int .i64)) (hi : P.info? e = some i) (hz : i.zero = some z) (n : Nat) (h0 : 0 < n) (hs : 0 < i.size) (hb : 0 < i.bytes)
    (h48 : n * i.bytes ≤ 140737488355328) : (Builtin.append_ #[t, u] ty #[.slice none 0 0, .int .i64 (n : Int)]).run P w =
      .ok (.slice (some ⟨w.heap.size, 0, none⟩) n (grownCap w n 0 e)) (w.drew.alloc (.cells (Builtin.zeroCells z.cells n ++ Builtin.zeroCells z.cells (grownCap w n 0 e - n)) e)) := by
  have hn : n ≠ 0 := by omega
  have hnb : n ≤ n * i.bytes := Nat.le_mul_of_pos_right _ hb
  have hw : IntKind.i64.wrap (n : Int) = (n : Int) := by simp only [IntKind.wrap, IntKind.signed, IntKind.bits]; simp; omega
  have h63' : ¬ (9223372036854775807 < (n : Int)) := by omega
  have h48' : ¬ (281474976710656 < Builtin.nextslicecap n 0 * i.bytes) := by rw [nextslicecap_zero h0]; omega
  have h48'' : ¬ (281474976710656 < (n : Int) * (i.bytes : Int)) := by
    have : ((n * i.bytes : Nat) : Int) ≤ 140737488355328 := by exact Int.ofNat_le.2 h48
    push_cast at this
    omega
  have hns : n * i.size ≠ 0 := by have := Nat.mul_pos h0 hs; omega
  have hneg : ¬ ((n : Int) < 0) := by omega
  have hs0 : i.size ≠ 0 := by omega
  simp [Builtin.append_, run_underlying ht, run_underlying hu, sizeOf, typeInfo, zeroValue, hi, hz, Builtin.lenOf, hn, h63', h48', h48'', Question.forced, run_firstCells_none, newRow, grownCap, asInt, asIntOf, hw, hns, hneg, hs0]

theorem grow_c (n : Int) (h0 : 0 < n) (hb : n * 24 ≤ 140737488355328) (w : World) :
    Calls Try.prog 26 #[.slice none 0 0, .int .i64 n] w fun e w' => ∃ (cap : Nat) (cs : Array Value), e = .returned (.slice (some ⟨w.heap.size, 0, none⟩) 0 cap) ∧ w' = w.drew.alloc (.cells cs 28 (0, 0)) ∧ cs.size = cap * 3 ∧ cap ≤ maxLen := by
  obtain ⟨m, rfl⟩ := Int.eq_ofNat_of_zero_le (Int.le_of_lt h0)
  go_enter Try.func26, Try.ntmps26
  have hA : ¬ (281474976710656 < (m : Int) * (Try.t28.bytes : Int)) := by show ¬ (281474976710656 < (m : Int) * 24); omega
  have hm : 0 < m := by omega
  have hB : ¬ (281474976710656 < Builtin.nextslicecap m 0 * Try.t28.bytes) := by rw [nextslicecap_zero hm]; show ¬ (281474976710656 < m * 24); omega
  have hw : IntKind.i64.wrap (m : Int) = (m : Int) := by simp only [IntKind.wrap, IntKind.signed, IntKind.bits]; simp; omega
  have h63 : ¬ (9223372036854775807 < (m : Int)) := by omega
  go_wp2
  go_ret
  have hge := grownCap_ge w m 0 28
  refine ⟨_, rfl, _, rfl, ?_, grownCap_le_maxLen w m 0 28 (by unfold maxLen; omega)⟩
  rw [Array.size_append, size_zeroCells, size_zeroCells]
  show m * 3 + (grownCap w m 0 28 - m) * 3 = grownCap w m 0 28 * 3
  rw [← Nat.add_mul]
  congr 1
  omega

theorem grow_0 (w : World) : Calls Try.prog 26 #[.slice none 0 0, .int .i64 0] w fun e w' => e = .returned (.slice none 0 0) ∧ w' = w := by
  go_enter Try.func26, Try.ntmps26
  go_wp2
  go_ret
  exact ⟨rfl, rfl⟩

theorem ok_slices_Grow : FnOK Try.prog 26 con_slices_Grow := by
  intro cargs ccks ce hce hob Z PL w args HS HD
  replace hce : con_slices_Grow_1 cargs ccks = some ce := hce
  unfold con_slices_Grow_1 at hce
  split at hce
  · rename_i x1
    obtain rfl := Option.some.inj hce
    obtain ⟨r, hr⟩ := obl.1 (hob _ (List.mem_singleton.2 rfl))
    rw [lock_eq] at hr
    have hg := hr
    unfold growP at hr
    split at hr
    · cases hr
    · rename_i h0
      obtain ⟨v, u, rfl, d1, d2⟩ := densA2 HD
      cases d1
      cases d2
      split at hr
      · rename_i h1
        subst h1
        refine (grow_0 w).mono ?_
        rintro e w' ⟨rfl, rfl⟩
        refine ⟨_, PL, rfl, r, by rw [lock_eq]; exact hg, ?_⟩
        obtain rfl := Option.some.inj hr
        exact ⟨hsat_plain HS (Below.refl _ _), .nsl⟩
      · split at hr
        · rename_i h1 h2
          refine (grow_c x1 (by omega) (by omega) w).mono ?_
          rintro e w' ⟨cap, cs, rfl, rfl, hs, hm⟩
          obtain ⟨PL', H, D⟩ := hsat_row (w' := w.drew.alloc (.cells cs 28 (0, 0))) HS (((Below.refl _ w).drew).alloc (Nat.le_refl _) _) (.row 28 (.st [(.int .u64), (.int .i64), (.int .i64)]) []) w.heap.size cap cs (Nat.le_refl _)
            (alloc_new w.drew _) (by decide) (Nat.zero_le _) hm hs (fun _ _ => RP.nil rfl)
          refine ⟨_, PL', rfl, r, by rw [lock_eq]; exact hg, ?_⟩
          obtain rfl := Option.some.inj hr
          exact ⟨H, D⟩
        · cases hr
  · cases hce
end Go.Proofs.Ytdagccoamfhdcaa
end
section
/-
  The walk of slices.Concat[[]tollbar/api.Packet,tollbar/api.Packet] (printed by a program of ours).
-/
set_option linter.unusedVariables false
set_option linter.unusedSimpArgs false
namespace Go.Proofs.Ytdagccoamfhdcaa
open Go.RowKit

noncomputable def tab_slices_Concat : Nat → Option Con := look [(26, con_slices_Grow)]
set_option maxHeartbeats 4000000 in
set_option maxRecDepth 100000 in
theorem vc_slices_Concat (P : Program) (T : Tab P tab_slices_Concat) (hm : P.follows .mixedOrders = true) : FnVC P tab_slices_Concat ic_23 [.t 2] 36 con_slices_Concat := by
  intro cargs ccks ce hce hob C hk
  apply Hidden.out
  replace hce : con_slices_Concat_1 cargs ccks = some ce := hce
  · unfold con_slices_Concat_1 at hce
    split at hce
    rotate_left
    · cases hce
    obtain rfl := Option.some.inj hce
    rename_i r1
    have hb1 := hob _ (List.mem_singleton.2 rfl)
    have hb2 := obl.1 hb1
    clear hb1 hob hce
    refine hb2.elim fun r hF => ?_
    clear hb2
    simp only [List.length_cons, List.length_nil, Nat.zero_add, Nat.reduceAdd] at hk
    have hr : F_slices_Concat r1 = some r := by rw [lock_eq] at hF; exact hF
    unfold F_slices_Concat at hr
    constructor
    (try cbv)
    refine LoopOK.iter T (drawOK T hm) (B := (F_slices_Concat_L1 r1)) hr (fun | (i1, i2) => ⟨mkFr [(0, (.rsl (.row 22 (.row 28 (.st [(.int .u64), (.int .i64), (.int .i64)])) r1))), (3, (.v (.int .i64 i1))), (9, (.rsl (.row 22 (.row 28 (.st [(.int .u64), (.int .i64), (.int .i64)])) r1))), (10, (.v (.int .i64 (lock ofN (lock (@xlen D) r1))))), (11, (.v (.int .i64 i2)))] 36 0, [], 0⟩) ?_ ?_
    · rintro ⟨u0, u1⟩ e
      simp only [Prod.mk.injEq] at e
      obtain ⟨e0, e1⟩ := e
      refine le_auto hk ?_
      (try cbv); (try simp only [choice_lk, lock_eq, and_self, and_true, true_and]); (try first | exact e | exact e.symm | (and_intros <;> first | assumption | rfl | exact Eq.symm (by assumption)))
    · clear hr
      intro x bb1 hr ht1
      obtain ⟨i1, i2⟩ := x
      constructor
      unfold F_slices_Concat_L1 at hr
      (try dsimp only at hr)
      (try cbv)
      refine sel_intro (fun h => ?_) (fun h => ?_)
      · have h1 : (ilt i2 (ofN (xlen r1))) = true := by first | exact h | (have h2 := h; simp only [choice_lk, lock_eq] at h2; exact h2) | (simp only [choice_lk, lock_eq] at h; exact h)
        rw [if_pos h1] at hr
        (try cbv)
        have gg := guard_inv hr
        have g := gg.1
        replace hr := gg.2
        clear gg
        refine ⟨obl.2 (by first | (simp only [choice_lk, lock_eq, R.len, R.sub]; exact g) | exact g), ?_⟩
        refine sel_intro (fun h => ?_) (fun h => ?_)
        · have h1 : (ilt (iadd .i64 i1 (ofN (xlen (D.toL (getD r1 (toN i2)))))) (0 : Int)) = true := by first | exact h | (have h2 := h; simp only [choice_lk, lock_eq] at h2; exact h2) | (simp only [choice_lk, lock_eq] at h; exact h)
          rw [if_pos h1] at hr
          (try cbv)
          cases hr
        · have h1 : (ilt (iadd .i64 i1 (ofN (xlen (D.toL (getD r1 (toN i2)))))) (0 : Int)) = false := by first | exact h | (have h2 := h; simp only [choice_lk, lock_eq] at h2; exact h2) | (simp only [choice_lk, lock_eq] at h; exact h)
          rw [if_neg (by rw [h1]; exact Bool.false_ne_true)] at hr
          (try cbv)
          apply Hidden.out
          obtain rfl := Option.some.inj hr
          constructor
          refine ⟨⟨_, rfl⟩, ?_⟩
          rintro ⟨u0, u1⟩ e
          replace e := Sum.inl.inj e
          simp only [Prod.mk.injEq] at e
          obtain ⟨e0, e1⟩ := e
          refine le_auto hk ?_
          (try cbv); (try simp only [choice_lk, lock_eq, and_self, and_true, true_and]); (try first | exact e | exact e.symm | (and_intros <;> first | assumption | rfl | exact Eq.symm (by assumption)))
      · have h1 : (ilt i2 (ofN (xlen r1))) = false := by first | exact h | (have h2 := h; simp only [choice_lk, lock_eq] at h2; exact h2) | (simp only [choice_lk, lock_eq] at h; exact h)
        rw [if_neg (by rw [h1]; exact Bool.false_ne_true)] at hr
        (try cbv)
        have hqe : ∃ qq, growP i1 = some qq := by
          cases hq : growP i1 with
          | none => rw [hq] at hr; cases hr
          | some qq => exact ⟨qq, rfl⟩
        refine ⟨obl.2 (by simp only [choice_lk, lock_eq]; exact hqe), (by rintro (_ | _) _ <;> cbv), ?_⟩
        clear hqe
        intro qq hx1
        simp only [choice_lk, lock_eq] at hx1
        rcases qq with _ | _
        all_goals (rw [hx1] at hr; dsimp only at hr; constructor; (try cbv))
        · apply Hidden.out
          obtain ⟨t, hr2, hw⟩ := map_inv hr
          clear hr
          subst hw
          have e := (ht1 _ rfl).symm
          subst e
          have hr := hr2
          clear hr2
          constructor
          refine LoopOK.iter T (drawOK T hm) (B := (F_slices_Concat_L2 r1)) hr (fun | (i3, r2) => ⟨mkFr [(6, (.wsl 0)), (25, (.rsl (.row 22 (.row 28 (.st [(.int .u64), (.int .i64), (.int .i64)])) r1))), (26, (.v (.int .i64 (lock ofN (lock (@xlen D) r1))))), (27, (.v (.int .i64 i3)))] 36 0, [(0, .row (.row 28 (.st [(.int .u64), (.int .i64), (.int .i64)]) r2))], 1⟩) ?_ ?_
          · rintro ⟨u0, u1⟩ e
            simp only [Prod.mk.injEq] at e
            obtain ⟨e0, e1⟩ := e
            refine le_auto hk ?_
            (try cbv); (try simp only [choice_lk, lock_eq, and_self, and_true, true_and]); (try first | exact e | exact e.symm | (and_intros <;> first | assumption | rfl | exact Eq.symm (by assumption)))
          · clear hr
            intro x bb1 hr ht1
            obtain ⟨i3, r2⟩ := x
            constructor
            unfold F_slices_Concat_L2 at hr
            (try dsimp only at hr)
            (try cbv)
            refine sel_intro (fun h => ?_) (fun h => ?_)
            · have h1 : (ilt i3 (ofN (xlen r1))) = true := by first | exact h | (have h2 := h; simp only [choice_lk, lock_eq] at h2; exact h2) | (simp only [choice_lk, lock_eq] at h; exact h)
              rw [if_pos h1] at hr
              (try cbv)
              have gg := guard_inv hr
              have g := gg.1
              replace hr := gg.2
              clear gg
              refine ⟨obl.2 (by first | (simp only [choice_lk, lock_eq, R.len, R.sub]; exact g) | exact g), ?_⟩
              have gg := guard_inv hr
              have g := gg.1
              replace hr := gg.2
              clear gg
              refine ⟨obl.2 (by first | (simp only [choice_lk, lock_eq, R.len, R.sub]; exact g) | exact g), ?_⟩
              apply Hidden.out
              obtain rfl := Option.some.inj hr
              constructor
              refine ⟨⟨_, rfl⟩, ?_⟩
              rintro ⟨u0, u1⟩ e
              replace e := Sum.inl.inj e
              simp only [Prod.mk.injEq] at e
              obtain ⟨e0, e1⟩ := e
              refine le_auto hk ?_
              (try cbv); (try simp only [choice_lk, lock_eq, and_self, and_true, true_and]); (try first | exact e | exact e.symm | (and_intros <;> first | assumption | rfl | exact Eq.symm (by assumption)))
            · have h1 : (ilt i3 (ofN (xlen r1))) = false := by first | exact h | (have h2 := h; simp only [choice_lk, lock_eq] at h2; exact h2) | (simp only [choice_lk, lock_eq] at h; exact h)
              rw [if_neg (by rw [h1]; exact Bool.false_ne_true)] at hr
              (try cbv)
              apply Hidden.out
              obtain rfl := Option.some.inj hr
              have e := ht1 _ rfl
              constructor
              refine ⟨_, hF, ?_⟩
              (try cbv); (try simp only [choice_lk, lock_eq, and_self, and_true, true_and]); (try first | exact e | exact e.symm | (and_intros <;> first | assumption | rfl | exact Eq.symm (by assumption)))
        · apply Hidden.out
          obtain ⟨t, hr2, hw⟩ := map_inv hr
          clear hr
          subst hw
          have e := (ht1 _ rfl).symm
          subst e
          have hr := hr2
          clear hr2
          constructor
          refine LoopOK.iter T (drawOK T hm) (B := (F_slices_Concat_L3 r1)) hr (fun | (i4, r3) => ⟨mkFr [(6, (.wsl 0)), (25, (.rsl (.row 22 (.row 28 (.st [(.int .u64), (.int .i64), (.int .i64)])) r1))), (26, (.v (.int .i64 (lock ofN (lock (@xlen D) r1))))), (27, (.v (.int .i64 i4)))] 36 0, [(0, .row (.row 28 (.st [(.int .u64), (.int .i64), (.int .i64)]) r3))], 1⟩) ?_ ?_
          · rintro ⟨u0, u1⟩ e
            simp only [Prod.mk.injEq] at e
            obtain ⟨e0, e1⟩ := e
            refine le_auto hk ?_
            (try cbv); (try simp only [choice_lk, lock_eq, and_self, and_true, true_and]); (try first | exact e | exact e.symm | (and_intros <;> first | assumption | rfl | exact Eq.symm (by assumption)))
          · clear hr
            intro x bb1 hr ht1
            obtain ⟨i4, r3⟩ := x
            constructor
            unfold F_slices_Concat_L3 at hr
            (try dsimp only at hr)
            (try cbv)
            refine sel_intro (fun h => ?_) (fun h => ?_)
            · have h1 : (ilt i4 (ofN (xlen r1))) = true := by first | exact h | (have h2 := h; simp only [choice_lk, lock_eq] at h2; exact h2) | (simp only [choice_lk, lock_eq] at h; exact h)
              rw [if_pos h1] at hr
              (try cbv)
              have gg := guard_inv hr
              have g := gg.1
              replace hr := gg.2
              clear gg
              refine ⟨obl.2 (by first | (simp only [choice_lk, lock_eq, R.len, R.sub]; exact g) | exact g), ?_⟩
              have gg := guard_inv hr
              have g := gg.1
              replace hr := gg.2
              clear gg
              refine ⟨obl.2 (by first | (simp only [choice_lk, lock_eq, R.len, R.sub]; exact g) | exact g), ?_⟩
              apply Hidden.out
              obtain rfl := Option.some.inj hr
              constructor
              refine ⟨⟨_, rfl⟩, ?_⟩
              rintro ⟨u0, u1⟩ e
              replace e := Sum.inl.inj e
              simp only [Prod.mk.injEq] at e
              obtain ⟨e0, e1⟩ := e
              refine le_auto hk ?_
              (try cbv); (try simp only [choice_lk, lock_eq, and_self, and_true, true_and]); (try first | exact e | exact e.symm | (and_intros <;> first | assumption | rfl | exact Eq.symm (by assumption)))
            · have h1 : (ilt i4 (ofN (xlen r1))) = false := by first | exact h | (have h2 := h; simp only [choice_lk, lock_eq] at h2; exact h2) | (simp only [choice_lk, lock_eq] at h; exact h)
              rw [if_neg (by rw [h1]; exact Bool.false_ne_true)] at hr
              (try cbv)
              apply Hidden.out
              obtain rfl := Option.some.inj hr
              have e := ht1 _ rfl
              constructor
              refine ⟨_, hF, ?_⟩
              (try cbv); (try simp only [choice_lk, lock_eq, and_self, and_true, true_and]); (try first | exact e | exact e.symm | (and_intros <;> first | assumption | rfl | exact Eq.symm (by assumption)))
end Go.Proofs.Ytdagccoamfhdcaa
end
section
/-
  The walk of tollbar/fifo.Merge (printed by a program of ours).
-/
set_option linter.unusedVariables false
set_option linter.unusedSimpArgs false
namespace Go.Proofs.Ytdagccoamfhdcaa
open Go.RowKit

noncomputable def tab_fifo_Merge : Nat → Option Con := look [(23, con_slices_Concat)]
set_option maxHeartbeats 4000000 in
set_option maxRecDepth 100000 in
theorem vc_fifo_Merge (P : Program) (T : Tab P tab_fifo_Merge) (hm : P.follows .mixedOrders = true) : FnVC P tab_fifo_Merge ic_8 [.t 4] 44 con_fifo_Merge := by
  intro cargs ccks ce hce hob C hk
  apply Hidden.out
  replace hce : con_fifo_Merge_1 cargs ccks = some ce := hce
  · unfold con_fifo_Merge_1 at hce
    split at hce
    rotate_left
    · cases hce
    obtain rfl := Option.some.inj hce
    rename_i r1 r2
    have hb1 := hob _ (List.mem_singleton.2 rfl)
    have hb2 := obl.1 hb1
    clear hb1 hob hce
    refine hb2.elim fun r hF => ?_
    clear hb2
    simp only [List.length_cons, List.length_nil, Nat.zero_add, Nat.reduceAdd] at hk
    have hr : F_fifo_Merge r1 r2 = some r := by rw [lock_eq] at hF; exact hF
    unfold F_fifo_Merge at hr
    constructor
    (try cbv)
    refine LoopOK.iter T (drawOK T hm) (B := F_fifo_Merge_L1) hr (fun | (r5, r3, r4) => ⟨mkFr [(0, (.rsl (.row 28 (.st [(.int .u64), (.int .i64), (.int .i64)]) r5))), (1, (.rsl (.row 28 (.st [(.int .u64), (.int .i64), (.int .i64)]) r3))), (5, (.wsl 0))] 44 0, [(0, .row (.row 28 (.st [(.int .u64), (.int .i64), (.int .i64)]) r4))], 1⟩) ?_ ?_
    · rintro ⟨u0, u1, u2⟩ e
      simp only [Prod.mk.injEq] at e
      obtain ⟨e0, e1, e2⟩ := e
      refine le_auto hk ?_
      (try cbv); (try simp only [choice_lk, lock_eq, and_self, and_true, true_and]); (try first | exact e | exact e.symm | (and_intros <;> first | assumption | rfl | exact Eq.symm (by assumption)))
    · clear hr
      intro x bb1 hr ht1
      obtain ⟨r5, r3, r4⟩ := x
      constructor
      unfold F_fifo_Merge_L1 at hr
      (try dsimp only at hr)
      (try cbv)
      refine sel_intro (fun h => ?_) (fun h => ?_)
      · have h1 : (ilt (0 : Int) (ofN (xlen r5))) = true := by first | exact h | (have h2 := h; simp only [choice_lk, lock_eq] at h2; exact h2) | (simp only [choice_lk, lock_eq] at h; exact h)
        rw [if_pos h1] at hr
        (try cbv)
        refine sel_intro (fun h => ?_) (fun h => ?_)
        · have h1 : (ilt (0 : Int) (ofN (xlen r3))) = true := by first | exact h | (have h2 := h; simp only [choice_lk, lock_eq] at h2; exact h2) | (simp only [choice_lk, lock_eq] at h; exact h)
          rw [if_pos h1] at hr
          (try cbv)
          have gg := guard_inv hr
          have g := gg.1
          replace hr := gg.2
          clear gg
          refine ⟨obl.2 (by first | (simp only [choice_lk, lock_eq, R.len, R.sub]; exact g) | exact g), ?_⟩
          have gg := guard_inv hr
          have g := gg.1
          replace hr := gg.2
          clear gg
          refine ⟨obl.2 (by first | (simp only [choice_lk, lock_eq, R.len, R.sub]; exact g) | exact g), ?_⟩
          refine sel_intro (fun h => ?_) (fun h => ?_)
          · have h1 : (ilt (D.toI (D.fld (getD r3 (toN (0 : Int))) 0)) (D.toI (D.fld (getD r5 (toN (0 : Int))) 0))) = true := by first | exact h | (have h2 := h; simp only [choice_lk, lock_eq] at h2; exact h2) | (simp only [choice_lk, lock_eq] at h; exact h)
            rw [if_pos h1] at hr
            (try cbv)
            have gg := guard_inv hr
            have g := gg.1
            replace hr := gg.2
            clear gg
            refine ⟨obl.2 (by first | (simp only [choice_lk, lock_eq, R.len, R.sub]; exact g) | exact g), ?_⟩
            have gg := guard_inv hr
            have g := gg.1
            replace hr := gg.2
            clear gg
            refine ⟨obl.2 (by first | (simp only [choice_lk, lock_eq, R.len, R.sub]; exact g) | exact g), ?_⟩
            have gg := guard_inv hr
            have g := gg.1
            replace hr := gg.2
            clear gg
            refine ⟨obl.2 (by first | (simp only [choice_lk, lock_eq, R.len, R.sub]; exact g) | exact g), ?_⟩
            apply Hidden.out
            obtain rfl := Option.some.inj hr
            constructor
            refine ⟨⟨_, rfl⟩, ?_⟩
            rintro ⟨u0, u1, u2⟩ e
            replace e := Sum.inl.inj e
            simp only [Prod.mk.injEq] at e
            obtain ⟨e0, e1, e2⟩ := e
            refine le_auto hk ?_
            (try cbv); (try simp only [choice_lk, lock_eq, and_self, and_true, true_and]); (try first | exact e | exact e.symm | (and_intros <;> first | assumption | rfl | exact Eq.symm (by assumption)))
          · have h1 : (ilt (D.toI (D.fld (getD r3 (toN (0 : Int))) 0)) (D.toI (D.fld (getD r5 (toN (0 : Int))) 0))) = false := by first | exact h | (have h2 := h; simp only [choice_lk, lock_eq] at h2; exact h2) | (simp only [choice_lk, lock_eq] at h; exact h)
            rw [if_neg (by rw [h1]; exact Bool.false_ne_true)] at hr
            (try cbv)
            have gg := guard_inv hr
            have g := gg.1
            replace hr := gg.2
            clear gg
            refine ⟨obl.2 (by first | (simp only [choice_lk, lock_eq, R.len, R.sub]; exact g) | exact g), ?_⟩
            have gg := guard_inv hr
            have g := gg.1
            replace hr := gg.2
            clear gg
            refine ⟨obl.2 (by first | (simp only [choice_lk, lock_eq, R.len, R.sub]; exact g) | exact g), ?_⟩
            have gg := guard_inv hr
            have g := gg.1
            replace hr := gg.2
            clear gg
            refine ⟨obl.2 (by first | (simp only [choice_lk, lock_eq, R.len, R.sub]; exact g) | exact g), ?_⟩
            apply Hidden.out
            obtain rfl := Option.some.inj hr
            constructor
            refine ⟨⟨_, rfl⟩, ?_⟩
            rintro ⟨u0, u1, u2⟩ e
            replace e := Sum.inl.inj e
            simp only [Prod.mk.injEq] at e
            obtain ⟨e0, e1, e2⟩ := e
            refine le_auto hk ?_
            (try cbv); (try simp only [choice_lk, lock_eq, and_self, and_true, true_and]); (try first | exact e | exact e.symm | (and_intros <;> first | assumption | rfl | exact Eq.symm (by assumption)))
        · have h1 : (ilt (0 : Int) (ofN (xlen r3))) = false := by first | exact h | (have h2 := h; simp only [choice_lk, lock_eq] at h2; exact h2) | (simp only [choice_lk, lock_eq] at h; exact h)
          rw [if_neg (by rw [h1]; exact Bool.false_ne_true)] at hr
          (try cbv)
          have hqe : ∃ qq, F_slices_Concat ([(D.l r4), (D.l r5), (D.l r3)] : List D) = some qq := by
            cases hq : F_slices_Concat ([(D.l r4), (D.l r5), (D.l r3)] : List D) with
            | none => rw [hq] at hr; cases hr
            | some qq => exact ⟨qq, rfl⟩
          refine ⟨obl.2 (by simp only [choice_lk, lock_eq]; exact hqe), (by rintro (_) _ <;> cbv), ?_⟩
          clear hqe
          intro q1 hx1
          simp only [choice_lk, lock_eq] at hx1
          all_goals (rw [hx1] at hr; dsimp only at hr; constructor; (try cbv))
          apply Hidden.out
          obtain rfl := Option.some.inj hr
          have e := ht1 _ rfl
          constructor
          refine ⟨_, hF, ?_⟩
          (try cbv); (try simp only [choice_lk, lock_eq, and_self, and_true, true_and]); (try first | exact e | exact e.symm | (and_intros <;> first | assumption | rfl | exact Eq.symm (by assumption)))
      · have h1 : (ilt (0 : Int) (ofN (xlen r5))) = false := by first | exact h | (have h2 := h; simp only [choice_lk, lock_eq] at h2; exact h2) | (simp only [choice_lk, lock_eq] at h; exact h)
        rw [if_neg (by rw [h1]; exact Bool.false_ne_true)] at hr
        (try cbv)
        have hqe : ∃ qq, F_slices_Concat ([(D.l r4), (D.l r5), (D.l r3)] : List D) = some qq := by
          cases hq : F_slices_Concat ([(D.l r4), (D.l r5), (D.l r3)] : List D) with
          | none => rw [hq] at hr; cases hr
          | some qq => exact ⟨qq, rfl⟩
        refine ⟨obl.2 (by simp only [choice_lk, lock_eq]; exact hqe), (by rintro (_) _ <;> cbv), ?_⟩
        clear hqe
        intro q2 hx2
        simp only [choice_lk, lock_eq] at hx2
        all_goals (rw [hx2] at hr; dsimp only at hr; constructor; (try cbv))
        apply Hidden.out
        obtain rfl := Option.some.inj hr
        have e := ht1 _ rfl
        constructor
        refine ⟨_, hF, ?_⟩
        (try cbv); (try simp only [choice_lk, lock_eq, and_self, and_true, true_and]); (try first | exact e | exact e.symm | (and_intros <;> first | assumption | rfl | exact Eq.symm (by assumption)))
end Go.Proofs.Ytdagccoamfhdcaa
end
section
/-
  The walk of (*tollbar/fifo.Queue).Limit (printed by a program of ours).
-/
set_option linter.unusedVariables false
set_option linter.unusedSimpArgs false
namespace Go.Proofs.Ytdagccoamfhdcaa
open Go.RowKit

noncomputable def tab_fifo_Queue_Limit : Nat → Option Con := look []
set_option maxHeartbeats 4000000 in
set_option maxRecDepth 100000 in
theorem vc_fifo_Queue_Limit (P : Program) (T : Tab P tab_fifo_Queue_Limit) (hm : P.follows .mixedOrders = true) : FnVC P tab_fifo_Queue_Limit ic_22 [.t 2] 9 con_fifo_Queue_Limit := by
  intro cargs ccks ce hce hob C hk
  apply Hidden.out
  replace hce : altC (con_fifo_Queue_Limit_1 cargs ccks) (con_fifo_Queue_Limit_2 cargs ccks) = some ce := hce
  replace hce := altC_inv hce
  rcases hce with hce | hce
  · unfold con_fifo_Queue_Limit_1 at hce
    split at hce
    rotate_left
    · cases hce
    obtain rfl := Option.some.inj hce
    rename_i x1 x2 x3 r1
    have hb1 := hob _ (List.mem_singleton.2 rfl)
    have hb2 := obl.1 hb1
    clear hb1 hob hce
    refine hb2.elim fun r hF => ?_
    clear hb2
    simp only [List.length_cons, List.length_nil, Nat.zero_add, Nat.reduceAdd] at hk
    have hr : F_fifo_Queue_Limit x1 x2 x3 r1 = some r := by rw [lock_eq] at hF; exact hF
    unfold F_fifo_Queue_Limit at hr
    constructor
    (try cbv)
    apply Hidden.out
    have e := Option.some.inj hr
    constructor
    refine ⟨_, hF, ?_⟩
    (try cbv); (try simp only [choice_lk, lock_eq, and_self, and_true, true_and]); (try first | exact e | exact e.symm | (and_intros <;> first | assumption | rfl | exact Eq.symm (by assumption)))
  · unfold con_fifo_Queue_Limit_2 at hce
    split at hce
    rotate_left
    · cases hce
    obtain rfl := Option.some.inj hce
    have hb1 := hob _ (List.mem_singleton.2 rfl)
    have hb2 := obl.1 hb1
    clear hb1 hob hce
    refine hb2.elim fun r hF => ?_
    clear hb2
    simp only [List.length_cons, List.length_nil, Nat.zero_add, Nat.reduceAdd] at hk
    have hr : F_fifo_Queue_Limit_3 = some r := by rw [lock_eq] at hF; exact hF
    unfold F_fifo_Queue_Limit_3 at hr
    constructor
    (try cbv)
    apply Hidden.out
    have e := Option.some.inj hr
    constructor
    refine ⟨_, hF, ?_⟩
    (try cbv); (try simp only [choice_lk, lock_eq, and_self, and_true, true_and]); (try first | exact e | exact e.symm | (and_intros <;> first | assumption | rfl | exact Eq.symm (by assumption)))
end Go.Proofs.Ytdagccoamfhdcaa
end
section
/-
  The walk of (*tollbar/fifo.Queue).All (printed by a program of ours).
-/
set_option linter.unusedVariables false
set_option linter.unusedSimpArgs false
namespace Go.Proofs.Ytdagccoamfhdcaa
open Go.RowKit

noncomputable def tab_fifo_Queue_All : Nat → Option Con := look [(14, con_fifo_Queue_Len), (25, con_fifo_Queue_at)]
set_option maxHeartbeats 4000000 in
set_option maxRecDepth 100000 in
theorem vc_fifo_Queue_All (P : Program) (T : Tab P tab_fifo_Queue_All) (hm : P.follows .mixedOrders = true) : FnVC P tab_fifo_Queue_All ic_16 [.t 2] 24 con_fifo_Queue_All := by
  intro cargs ccks ce hce hob C hk
  apply Hidden.out
  replace hce : altC (con_fifo_Queue_All_1 cargs ccks) (con_fifo_Queue_All_2 cargs ccks) = some ce := hce
  replace hce := altC_inv hce
  rcases hce with hce | hce
  · unfold con_fifo_Queue_All_1 at hce
    split at hce
    rotate_left
    · cases hce
    obtain rfl := Option.some.inj hce
    rename_i x1 x2 x3 r1
    have hb1 := hob _ (List.mem_singleton.2 rfl)
    have hb2 := obl.1 hb1
    clear hb1 hob hce
    refine hb2.elim fun r hF => ?_
    clear hb2
    simp only [List.length_cons, List.length_nil, Nat.zero_add, Nat.reduceAdd] at hk
    have hr : F_fifo_Queue_All x1 x2 x3 r1 = some r := by rw [lock_eq] at hF; exact hF
    unfold F_fifo_Queue_All at hr
    constructor
    (try cbv)
    have hqe : ∃ qq, F_fifo_Queue_Len x1 x2 x3 r1 = some qq := by
      cases hq : F_fifo_Queue_Len x1 x2 x3 r1 with
      | none => rw [hq] at hr; cases hr
      | some qq => exact ⟨qq, rfl⟩
    refine ⟨obl.2 (by simp only [choice_lk, lock_eq]; exact hqe), (by rintro (_) _ <;> cbv), ?_⟩
    clear hqe
    intro qq hx1
    simp only [choice_lk, lock_eq] at hx1
    rcases qq with _
    all_goals (rw [hx1] at hr; dsimp only at hr; constructor; (try cbv))
    refine LoopOK.iter T (drawOK T hm) (B := (F_fifo_Queue_All_L1 x3 x1 x2 r1)) hr (fun | (i1, r2) => ⟨mkFr [(0, (.ptr 0 0)), (3, (.wsl 2)), (6, (.v (.int .i64 x3))), (7, (.v (.int .i64 i1)))] 24 0, [(0, .blk 54 [(.v (.int .i64 x1)), (.wsl 1), (.v (.int .i64 x2)), (.v (.int .i64 x3))]), (1, .row (.row 28 (.st [(.int .u64), (.int .i64), (.int .i64)]) r1)), (2, .row (.row 28 (.st [(.int .u64), (.int .i64), (.int .i64)]) r2))], 3⟩) ?_ ?_
    · rintro ⟨u0, u1⟩ e
      simp only [Prod.mk.injEq] at e
      obtain ⟨e0, e1⟩ := e
      refine le_auto hk ?_
      (try cbv); (try simp only [choice_lk, lock_eq, and_self, and_true, true_and]); (try first | exact e | exact e.symm | (and_intros <;> first | assumption | rfl | exact Eq.symm (by assumption)))
    · clear hr
      intro x bb1 hr ht1
      obtain ⟨i1, r2⟩ := x
      constructor
      unfold F_fifo_Queue_All_L1 at hr
      (try dsimp only at hr)
      (try cbv)
      refine sel_intro (fun h => ?_) (fun h => ?_)
      · have h1 : (ilt i1 x3) = true := by first | exact h | (have h2 := h; simp only [choice_lk, lock_eq] at h2; exact h2) | (simp only [choice_lk, lock_eq] at h; exact h)
        rw [if_pos h1] at hr
        (try cbv)
        have hqe : ∃ qq, F_fifo_Queue_at i1 x1 x2 x3 r1 = some qq := by
          cases hq : F_fifo_Queue_at i1 x1 x2 x3 r1 with
          | none => rw [hq] at hr; cases hr
          | some qq => exact ⟨qq, rfl⟩
        refine ⟨(by simp only [choice_lk, lock_eq]; exact hqe), obl.2 (by simp only [choice_lk, lock_eq]; exact hqe), (by rintro (_) _ <;> cbv), ?_⟩
        clear hqe
        intro y4 hx5
        simp only [choice_lk, lock_eq] at hx5
        all_goals (rw [hx5] at hr; dsimp only at hr; constructor; (try cbv))
        have gg := guard_inv hr
        have g := gg.1
        replace hr := gg.2
        clear gg
        refine ⟨obl.2 (by first | (simp only [choice_lk, lock_eq, R.len, R.sub]; exact g) | exact g), ?_⟩
        have gg := guard_inv hr
        have g := gg.1
        replace hr := gg.2
        clear gg
        refine ⟨obl.2 (by first | (simp only [choice_lk, lock_eq, R.len, R.sub]; exact g) | exact g), ?_⟩
        apply Hidden.out
        obtain rfl := Option.some.inj hr
        constructor
        refine ⟨⟨_, rfl⟩, ?_⟩
        rintro ⟨u0, u1⟩ e
        replace e := Sum.inl.inj e
        simp only [Prod.mk.injEq] at e
        obtain ⟨e0, e1⟩ := e
        refine le_auto hk ?_
        (try cbv); (try simp only [choice_lk, lock_eq, and_self, and_true, true_and]); (try first | exact e | exact e.symm | (and_intros <;> first | assumption | rfl | exact Eq.symm (by assumption)))
      · have h1 : (ilt i1 x3) = false := by first | exact h | (have h2 := h; simp only [choice_lk, lock_eq] at h2; exact h2) | (simp only [choice_lk, lock_eq] at h; exact h)
        rw [if_neg (by rw [h1]; exact Bool.false_ne_true)] at hr
        (try cbv)
        apply Hidden.out
        obtain rfl := Option.some.inj hr
        have e := ht1 _ rfl
        constructor
        refine ⟨_, hF, ?_⟩
        (try cbv); (try simp only [choice_lk, lock_eq, and_self, and_true, true_and]); (try first | exact e | exact e.symm | (and_intros <;> first | assumption | rfl | exact Eq.symm (by assumption)))
  · unfold con_fifo_Queue_All_2 at hce
    split at hce
    rotate_left
    · cases hce
    obtain rfl := Option.some.inj hce
    have hb1 := hob _ (List.mem_singleton.2 rfl)
    have hb2 := obl.1 hb1
    clear hb1 hob hce
    refine hb2.elim fun r hF => ?_
    clear hb2
    simp only [List.length_cons, List.length_nil, Nat.zero_add, Nat.reduceAdd] at hk
    have hr : F_fifo_Queue_All_3 = some r := by rw [lock_eq] at hF; exact hF
    unfold F_fifo_Queue_All_3 at hr
    constructor
    (try cbv)
    have hqe : ∃ qq, F_fifo_Queue_Len_3 = some qq := by
      cases hq : F_fifo_Queue_Len_3 with
      | none => rw [hq] at hr; cases hr
      | some qq => exact ⟨qq, rfl⟩
    refine ⟨obl.2 (by simp only [choice_lk, lock_eq]; exact hqe), (by rintro (_) _ <;> cbv), ?_⟩
    clear hqe
    intro qq hx1
    simp only [choice_lk, lock_eq] at hx1
    rcases qq with _
    all_goals (rw [hx1] at hr; dsimp only at hr; constructor; (try cbv))
    refine LoopOK.iter T (drawOK T hm) (B := F_fifo_Queue_All_3_L1) hr (fun | _ => ⟨mkFr [(0, (.v (.pointer none))), (3, .nsl), (6, (.v (.int .i64 (0 : Int)))), (7, (.v (.int .i64 (0 : Int))))] 24 0, [], 0⟩) ?_ ?_
    · rintro _ e
      refine le_auto hk ?_
      (try cbv); (try simp only [choice_lk, lock_eq, and_self, and_true, true_and]); (try first | exact e | exact e.symm | (and_intros <;> first | assumption | rfl | exact Eq.symm (by assumption)))
    · clear hr
      intro x bb1 hr ht1
      constructor
      unfold F_fifo_Queue_All_3_L1 at hr
      (try dsimp only at hr)
      (try cbv)
      refine sel_intro (fun h => ?_) (fun h => ?_)
      · have h1 : (ilt (0 : Int) (0 : Int)) = true := by first | exact h | (have h2 := h; simp only [choice_lk, lock_eq] at h2; exact h2) | (simp only [choice_lk, lock_eq] at h; exact h)
        rw [if_pos h1] at hr
        (try cbv)
        cases hr
      · have h1 : (ilt (0 : Int) (0 : Int)) = false := by first | exact h | (have h2 := h; simp only [choice_lk, lock_eq] at h2; exact h2) | (simp only [choice_lk, lock_eq] at h; exact h)
        rw [if_neg (by rw [h1]; exact Bool.false_ne_true)] at hr
        (try cbv)
        apply Hidden.out
        obtain rfl := Option.some.inj hr
        have e := ht1 _ rfl
        constructor
        refine ⟨_, hF, ?_⟩
        (try cbv); (try simp only [choice_lk, lock_eq, and_self, and_true, true_and]); (try first | exact e | exact e.symm | (and_intros <;> first | assumption | rfl | exact Eq.symm (by assumption)))
end Go.Proofs.Ytdagccoamfhdcaa
end
section
/-
  The walk of tollbar/tollbarlaw22.awake (printed by a program of ours).
-/
set_option linter.unusedVariables false
set_option linter.unusedSimpArgs false
namespace Go.Proofs.Ytdagccoamfhdcaa
open Go.RowKit

noncomputable def tab_tollbarlaw22_awake : Nat → Option Con := look [(11, con_fifo_New), (12, con_fifo_Queue_Push), (20, con_fifo_Queue_Head), (8, con_fifo_Merge), (14, con_fifo_Queue_Len), (22, con_fifo_Queue_Limit), (16, con_fifo_Queue_All)]
set_option maxHeartbeats 4000000 in
set_option maxRecDepth 100000 in
theorem vc_tollbarlaw22_awake (P : Program) (T : Tab P tab_tollbarlaw22_awake) (hm : P.follows .mixedOrders = true) : FnVC P tab_tollbarlaw22_awake ic_7 [.t 0] 75 con_tollbarlaw22_awake := by
  intro cargs ccks ce hce hob C hk
  apply Hidden.out
  replace hce : con_tollbarlaw22_awake_1 cargs ccks = some ce := hce
  · unfold con_tollbarlaw22_awake_1 at hce
    split at hce
    rotate_left
    · cases hce
    obtain rfl := Option.some.inj hce
    have hb1 := hob _ (List.mem_singleton.2 rfl)
    have hb2 := obl.1 hb1
    clear hb1 hob hce
    refine hb2.elim fun r hF => ?_
    clear hb2
    simp only [List.length_cons, List.length_nil, Nat.zero_add, Nat.reduceAdd] at hk
    have hr : F_tollbarlaw22_awake = some r := by rw [lock_eq] at hF; exact hF
    unfold F_tollbarlaw22_awake at hr
    constructor
    (try cbv)
    have hqe : ∃ qq, F_fifo_New (1 : Int) = some qq := by
      cases hq : F_fifo_New (1 : Int) with
      | none => rw [hq] at hr; cases hr
      | some qq => exact ⟨qq, rfl⟩
    refine ⟨obl.2 (by simp only [choice_lk, lock_eq]; exact hqe), (by rintro (_) _ <;> cbv), ?_⟩
    clear hqe
    intro qq hx1
    simp only [choice_lk, lock_eq] at hx1
    rcases qq with _
    all_goals (rw [hx1] at hr; dsimp only at hr; constructor; (try cbv))
    have hqe : ∃ qq, F_fifo_Queue_Push (5 : Int) (0 : Int) (0 : Int) (1 : Int) (0 : Int) (0 : Int) = some qq := by
      cases hq : F_fifo_Queue_Push (5 : Int) (0 : Int) (0 : Int) (1 : Int) (0 : Int) (0 : Int) with
      | none => rw [hq] at hr; cases hr
      | some qq => exact ⟨qq, rfl⟩
    refine ⟨obl.2 (by simp only [choice_lk, lock_eq]; exact hqe), (by rintro (⟨_, _, _, _⟩) _ <;> cbv), ?_⟩
    clear hqe
    intro qq hx2
    simp only [choice_lk, lock_eq] at hx2
    rcases qq with ⟨c1, y1, y2, q1⟩
    all_goals (rw [hx2] at hr; dsimp only at hr; constructor; (try cbv))
    have hqe : ∃ qq, F_fifo_Queue_Push_2 (6 : Int) (0 : Int) (0 : Int) (1 : Int) y1 y2 q1 = some qq := by
      cases hq : F_fifo_Queue_Push_2 (6 : Int) (0 : Int) (0 : Int) (1 : Int) y1 y2 q1 with
      | none => rw [hq] at hr; cases hr
      | some qq => exact ⟨qq, rfl⟩
    refine ⟨obl.2 (by simp only [choice_lk, lock_eq]; exact hqe), (by rintro (⟨_, _, _, _⟩) _ <;> cbv), ?_⟩
    clear hqe
    intro qq hx3
    simp only [choice_lk, lock_eq] at hx3
    rcases qq with ⟨c2, y3, y4, q2⟩
    all_goals (rw [hx3] at hr; dsimp only at hr; constructor; (try cbv))
    have hqe : ∃ qq, F_fifo_Queue_Head (1 : Int) y3 y4 q2 = some qq := by
      cases hq : F_fifo_Queue_Head (1 : Int) y3 y4 q2 with
      | none => rw [hq] at hr; cases hr
      | some qq => exact ⟨qq, rfl⟩
    refine ⟨obl.2 (by simp only [choice_lk, lock_eq]; exact hqe), (by rintro (⟨_, _, _, _⟩) _ <;> cbv), ?_⟩
    clear hqe
    intro qq hx4
    simp only [choice_lk, lock_eq] at hx4
    rcases qq with ⟨y5, y6, y7, c3⟩
    all_goals (rw [hx4] at hr; dsimp only at hr; constructor; (try cbv))
    have hqe : ∃ qq, F_fifo_Merge ([(D.l [(D.i (2 : Int)), (D.i (0 : Int)), (D.i (0 : Int))])] : List D) ([(D.l [(D.i (1 : Int)), (D.i (0 : Int)), (D.i (0 : Int))]), (D.l [(D.i (3 : Int)), (D.i (0 : Int)), (D.i (0 : Int))])] : List D) = some qq := by
      cases hq : F_fifo_Merge ([(D.l [(D.i (2 : Int)), (D.i (0 : Int)), (D.i (0 : Int))])] : List D) ([(D.l [(D.i (1 : Int)), (D.i (0 : Int)), (D.i (0 : Int))]), (D.l [(D.i (3 : Int)), (D.i (0 : Int)), (D.i (0 : Int))])] : List D) with
      | none => rw [hq] at hr; cases hr
      | some qq => exact ⟨qq, rfl⟩
    refine ⟨obl.2 (by simp only [choice_lk, lock_eq]; exact hqe), (by rintro (_) _ <;> cbv), ?_⟩
    clear hqe
    intro q3 hx5
    simp only [choice_lk, lock_eq] at hx5
    all_goals (rw [hx5] at hr; dsimp only at hr; constructor; (try cbv))
    refine sel_intro (fun h => ?_) (fun h => ?_)
    · have h1 : c1 = true := by first | exact h | (have h2 := h; simp only [choice_lk, lock_eq] at h2; exact h2) | (simp only [choice_lk, lock_eq] at h; exact h)
      rw [if_pos h1] at hr
      (try cbv)
      refine sel_intro (fun h => ?_) (fun h => ?_)
      · have h1 : c2 = false := by first | exact (bnot_t.1 h) | (have h2 := (bnot_t.1 h); simp only [choice_lk, lock_eq] at h2; exact h2) | (simp only [choice_lk, lock_eq] at h; exact (bnot_t.1 h))
        rw [if_neg (by rw [h1]; exact Bool.false_ne_true)] at hr
        (try cbv)
        refine sel_intro (fun h => ?_) (fun h => ?_)
        · have h1 : c3 = true := by first | exact h | (have h2 := h; simp only [choice_lk, lock_eq] at h2; exact h2) | (simp only [choice_lk, lock_eq] at h; exact h)
          rw [if_pos h1] at hr
          (try cbv)
          refine sel_intro (fun h => ?_) (fun h => ?_)
          · have h1 : (ieq y5 (5 : Int)) = true := by first | exact h | (have h2 := h; simp only [choice_lk, lock_eq] at h2; exact h2) | (simp only [choice_lk, lock_eq] at h; exact h)
            rw [if_pos h1] at hr
            (try cbv)
            have hqe : ∃ qq, F_fifo_Queue_Len (1 : Int) y3 y4 q2 = some qq := by
              cases hq : F_fifo_Queue_Len (1 : Int) y3 y4 q2 with
              | none => rw [hq] at hr; cases hr
              | some qq => exact ⟨qq, rfl⟩
            refine ⟨obl.2 (by simp only [choice_lk, lock_eq]; exact hqe), (by rintro (_) _ <;> cbv), ?_⟩
            clear hqe
            intro qq hx6
            simp only [choice_lk, lock_eq] at hx6
            rcases qq with _
            all_goals (rw [hx6] at hr; dsimp only at hr; constructor; (try cbv))
            refine sel_intro (fun h => ?_) (fun h => ?_)
            · have h1 : (ieq y4 (1 : Int)) = true := by first | exact h | (have h2 := h; simp only [choice_lk, lock_eq] at h2; exact h2) | (simp only [choice_lk, lock_eq] at h; exact h)
              rw [if_pos h1] at hr
              (try cbv)
              have hqe : ∃ qq, F_fifo_Queue_Limit (1 : Int) y3 y4 q2 = some qq := by
                cases hq : F_fifo_Queue_Limit (1 : Int) y3 y4 q2 with
                | none => rw [hq] at hr; cases hr
                | some qq => exact ⟨qq, rfl⟩
              refine ⟨obl.2 (by simp only [choice_lk, lock_eq]; exact hqe), (by rintro (_) _ <;> cbv), ?_⟩
              clear hqe
              intro qq hx7
              simp only [choice_lk, lock_eq] at hx7
              rcases qq with _
              all_goals (rw [hx7] at hr; dsimp only at hr; constructor; (try cbv))
              refine sel_intro (fun h => ?_) (fun h => ?_)
              · have h1 : (ieq (1 : Int) (1 : Int)) = true := by first | exact h | (have h2 := h; simp only [choice_lk, lock_eq] at h2; exact h2) | (simp only [choice_lk, lock_eq] at h; exact h)
                rw [if_pos h1] at hr
                (try cbv)
                have hqe : ∃ qq, F_fifo_Queue_All (1 : Int) y3 y4 q2 = some qq := by
                  cases hq : F_fifo_Queue_All (1 : Int) y3 y4 q2 with
                  | none => rw [hq] at hr; cases hr
                  | some qq => exact ⟨qq, rfl⟩
                refine ⟨obl.2 (by simp only [choice_lk, lock_eq]; exact hqe), (by rintro (_) _ <;> cbv), ?_⟩
                clear hqe
                intro q4 hx8
                simp only [choice_lk, lock_eq] at hx8
                all_goals (rw [hx8] at hr; dsimp only at hr; constructor; (try cbv))
                refine sel_intro (fun h => ?_) (fun h => ?_)
                · have h1 : (ieq (ofN (xlen q4)) (1 : Int)) = true := by first | exact h | (have h2 := h; simp only [choice_lk, lock_eq] at h2; exact h2) | (simp only [choice_lk, lock_eq] at h; exact h)
                  rw [if_pos h1] at hr
                  (try cbv)
                  refine sel_intro (fun h => ?_) (fun h => ?_)
                  · have h1 : (ieq (ofN (xlen q3)) (3 : Int)) = true := by first | exact h | (have h2 := h; simp only [choice_lk, lock_eq] at h2; exact h2) | (simp only [choice_lk, lock_eq] at h; exact h)
                    rw [if_pos h1] at hr
                    (try cbv)
                    have gg := guard_inv hr
                    have g := gg.1
                    replace hr := gg.2
                    clear gg
                    refine ⟨obl.2 (by first | (simp only [choice_lk, lock_eq, R.len, R.sub]; exact g) | exact g), ?_⟩
                    refine sel_intro (fun h => ?_) (fun h => ?_)
                    · have h1 : (ieq (D.toI (D.fld (getD q3 (toN (0 : Int))) 0)) (1 : Int)) = true := by first | exact h | (have h2 := h; simp only [choice_lk, lock_eq] at h2; exact h2) | (simp only [choice_lk, lock_eq] at h; exact h)
                      rw [if_pos h1] at hr
                      (try cbv)
                      have gg := guard_inv hr
                      have g := gg.1
                      replace hr := gg.2
                      clear gg
                      refine ⟨obl.2 (by first | (simp only [choice_lk, lock_eq, R.len, R.sub]; exact g) | exact g), ?_⟩
                      apply Hidden.out
                      have e := Option.some.inj hr
                      constructor
                      refine ⟨_, hF, ?_⟩
                      (try cbv); (try simp only [choice_lk, lock_eq, and_self, and_true, true_and]); (try first | exact e | exact e.symm | (and_intros <;> first | assumption | rfl | exact Eq.symm (by assumption)))
                    · have h1 : (ieq (D.toI (D.fld (getD q3 (toN (0 : Int))) 0)) (1 : Int)) = false := by first | exact h | (have h2 := h; simp only [choice_lk, lock_eq] at h2; exact h2) | (simp only [choice_lk, lock_eq] at h; exact h)
                      rw [if_neg (by rw [h1]; exact Bool.false_ne_true)] at hr
                      (try cbv)
                      apply Hidden.out
                      have e := Option.some.inj hr
                      constructor
                      refine ⟨_, hF, ?_⟩
                      (try cbv); (try simp only [choice_lk, lock_eq, and_self, and_true, true_and]); (try first | exact e | exact e.symm | (and_intros <;> first | assumption | rfl | exact Eq.symm (by assumption)))
                  · have h1 : (ieq (ofN (xlen q3)) (3 : Int)) = false := by first | exact h | (have h2 := h; simp only [choice_lk, lock_eq] at h2; exact h2) | (simp only [choice_lk, lock_eq] at h; exact h)
                    rw [if_neg (by rw [h1]; exact Bool.false_ne_true)] at hr
                    (try cbv)
                    apply Hidden.out
                    have e := Option.some.inj hr
                    constructor
                    refine ⟨_, hF, ?_⟩
                    (try cbv); (try simp only [choice_lk, lock_eq, and_self, and_true, true_and]); (try first | exact e | exact e.symm | (and_intros <;> first | assumption | rfl | exact Eq.symm (by assumption)))
                · have h1 : (ieq (ofN (xlen q4)) (1 : Int)) = false := by first | exact h | (have h2 := h; simp only [choice_lk, lock_eq] at h2; exact h2) | (simp only [choice_lk, lock_eq] at h; exact h)
                  rw [if_neg (by rw [h1]; exact Bool.false_ne_true)] at hr
                  (try cbv)
                  apply Hidden.out
                  have e := Option.some.inj hr
                  constructor
                  refine ⟨_, hF, ?_⟩
                  (try cbv); (try simp only [choice_lk, lock_eq, and_self, and_true, true_and]); (try first | exact e | exact e.symm | (and_intros <;> first | assumption | rfl | exact Eq.symm (by assumption)))
              · have h1 : (ieq (1 : Int) (1 : Int)) = false := by first | exact h | (have h2 := h; simp only [choice_lk, lock_eq] at h2; exact h2) | (simp only [choice_lk, lock_eq] at h; exact h)
                rw [if_neg (by rw [h1]; exact Bool.false_ne_true)] at hr
                (try cbv)
                apply Hidden.out
                have e := Option.some.inj hr
                constructor
                refine ⟨_, hF, ?_⟩
                (try cbv); (try simp only [choice_lk, lock_eq, and_self, and_true, true_and]); (try first | exact e | exact e.symm | (and_intros <;> first | assumption | rfl | exact Eq.symm (by assumption)))
            · have h1 : (ieq y4 (1 : Int)) = false := by first | exact h | (have h2 := h; simp only [choice_lk, lock_eq] at h2; exact h2) | (simp only [choice_lk, lock_eq] at h; exact h)
              rw [if_neg (by rw [h1]; exact Bool.false_ne_true)] at hr
              (try cbv)
              apply Hidden.out
              have e := Option.some.inj hr
              constructor
              refine ⟨_, hF, ?_⟩
              (try cbv); (try simp only [choice_lk, lock_eq, and_self, and_true, true_and]); (try first | exact e | exact e.symm | (and_intros <;> first | assumption | rfl | exact Eq.symm (by assumption)))
          · have h1 : (ieq y5 (5 : Int)) = false := by first | exact h | (have h2 := h; simp only [choice_lk, lock_eq] at h2; exact h2) | (simp only [choice_lk, lock_eq] at h; exact h)
            rw [if_neg (by rw [h1]; exact Bool.false_ne_true)] at hr
            (try cbv)
            apply Hidden.out
            have e := Option.some.inj hr
            constructor
            refine ⟨_, hF, ?_⟩
            (try cbv); (try simp only [choice_lk, lock_eq, and_self, and_true, true_and]); (try first | exact e | exact e.symm | (and_intros <;> first | assumption | rfl | exact Eq.symm (by assumption)))
        · have h1 : c3 = false := by first | exact h | (have h2 := h; simp only [choice_lk, lock_eq] at h2; exact h2) | (simp only [choice_lk, lock_eq] at h; exact h)
          rw [if_neg (by rw [h1]; exact Bool.false_ne_true)] at hr
          (try cbv)
          apply Hidden.out
          have e := Option.some.inj hr
          constructor
          refine ⟨_, hF, ?_⟩
          (try cbv); (try simp only [choice_lk, lock_eq, and_self, and_true, true_and]); (try first | exact e | exact e.symm | (and_intros <;> first | assumption | rfl | exact Eq.symm (by assumption)))
      · have h1 : c2 = true := by first | exact (bnot_f.1 h) | (have h2 := (bnot_f.1 h); simp only [choice_lk, lock_eq] at h2; exact h2) | (simp only [choice_lk, lock_eq] at h; exact (bnot_f.1 h))
        rw [if_pos h1] at hr
        (try cbv)
        apply Hidden.out
        have e := Option.some.inj hr
        constructor
        refine ⟨_, hF, ?_⟩
        (try cbv); (try simp only [choice_lk, lock_eq, and_self, and_true, true_and]); (try first | exact e | exact e.symm | (and_intros <;> first | assumption | rfl | exact Eq.symm (by assumption)))
    · have h1 : c1 = false := by first | exact h | (have h2 := h; simp only [choice_lk, lock_eq] at h2; exact h2) | (simp only [choice_lk, lock_eq] at h; exact h)
      rw [if_neg (by rw [h1]; exact Bool.false_ne_true)] at hr
      (try cbv)
      apply Hidden.out
      have e := Option.some.inj hr
      constructor
      refine ⟨_, hF, ?_⟩
      (try cbv); (try simp only [choice_lk, lock_eq, and_self, and_true, true_and]); (try first | exact e | exact e.symm | (and_intros <;> first | assumption | rfl | exact Eq.symm (by assumption)))
end Go.Proofs.Ytdagccoamfhdcaa
end
section
/-
  The walk of tollbar/tollbarlaw22.small (printed by a program of ours).
-/
set_option linter.unusedVariables false
set_option linter.unusedSimpArgs false
namespace Go.Proofs.Ytdagccoamfhdcaa
open Go.RowKit

noncomputable def tab_tollbarlaw22_small : Nat → Option Con := look []
set_option maxHeartbeats 4000000 in
set_option maxRecDepth 100000 in
theorem vc_tollbarlaw22_small (P : Program) (T : Tab P tab_tollbarlaw22_small) (hm : P.follows .mixedOrders = true) : FnVC P tab_tollbarlaw22_small ic_17 [.t 2] 20 con_tollbarlaw22_small := by
  intro cargs ccks ce hce hob C hk
  apply Hidden.out
  replace hce : con_tollbarlaw22_small_1 cargs ccks = some ce := hce
  · unfold con_tollbarlaw22_small_1 at hce
    split at hce
    rotate_left
    · cases hce
    obtain rfl := Option.some.inj hce
    rename_i r1
    have hb1 := hob _ (List.mem_singleton.2 rfl)
    have hb2 := obl.1 hb1
    clear hb1 hob hce
    refine hb2.elim fun r hF => ?_
    clear hb2
    simp only [List.length_cons, List.length_nil, Nat.zero_add, Nat.reduceAdd] at hk
    have hr : F_tollbarlaw22_small r1 = some r := by rw [lock_eq] at hF; exact hF
    unfold F_tollbarlaw22_small at hr
    constructor
    (try cbv)
    refine LoopOK.iter T (drawOK T hm) (B := (F_tollbarlaw22_small_L1 r1)) hr (fun | i1 => ⟨mkFr [(0, (.rsl (.row 45 (.st [(.int .i64), (.int .i64), (.st [(.int .u64), (.int .i64), (.int .i64)]), (.row 28 (.st [(.int .u64), (.int .i64), (.int .i64)]))]) r1))), (3, (.v (.int .i64 i1)))] 20 0, [], 0⟩) ?_ ?_
    · rintro u0 e
      refine le_auto hk ?_
      (try cbv); (try simp only [choice_lk, lock_eq, and_self, and_true, true_and]); (try first | exact e | exact e.symm | (and_intros <;> first | assumption | rfl | exact Eq.symm (by assumption)))
    · clear hr
      intro x bb1 hr ht1
      obtain ⟨i1, hz⟩ : ∃ z, z = x := ⟨x, rfl⟩
      subst hz
      constructor
      unfold F_tollbarlaw22_small_L1 at hr
      (try dsimp only at hr)
      (try cbv)
      refine sel_intro (fun h => ?_) (fun h => ?_)
      · have h1 : (ilt i1 (ofN (xlen r1))) = true := by first | exact h | (have h2 := h; simp only [choice_lk, lock_eq] at h2; exact h2) | (simp only [choice_lk, lock_eq] at h; exact h)
        rw [if_pos h1] at hr
        (try cbv)
        have gg := guard_inv hr
        have g := gg.1
        replace hr := gg.2
        clear gg
        refine ⟨obl.2 (by first | (simp only [choice_lk, lock_eq, R.len, R.sub]; exact g) | exact g), ?_⟩
        refine sel_intro (fun h => ?_) (fun h => ?_)
        · have h1 : (ilt (100 : Int) (ofN (xlen (D.toL (D.fld (getD r1 (toN i1)) 3))))) = true := by first | exact h | (have h2 := h; simp only [choice_lk, lock_eq] at h2; exact h2) | (simp only [choice_lk, lock_eq] at h; exact h)
          rw [if_pos h1] at hr
          (try cbv)
          apply Hidden.out
          obtain rfl := Option.some.inj hr
          have e := ht1 _ rfl
          constructor
          refine ⟨_, hF, ?_⟩
          (try cbv); (try simp only [choice_lk, lock_eq, and_self, and_true, true_and]); (try first | exact e | exact e.symm | (and_intros <;> first | assumption | rfl | exact Eq.symm (by assumption)))
        · have h1 : (ilt (100 : Int) (ofN (xlen (D.toL (D.fld (getD r1 (toN i1)) 3))))) = false := by first | exact h | (have h2 := h; simp only [choice_lk, lock_eq] at h2; exact h2) | (simp only [choice_lk, lock_eq] at h; exact h)
          rw [if_neg (by rw [h1]; exact Bool.false_ne_true)] at hr
          (try cbv)
          apply Hidden.out
          obtain rfl := Option.some.inj hr
          constructor
          refine ⟨⟨_, rfl⟩, ?_⟩
          rintro u0 e
          replace e := Sum.inl.inj e
          refine le_auto hk ?_
          (try cbv); (try simp only [choice_lk, lock_eq, and_self, and_true, true_and]); (try first | exact e | exact e.symm | (and_intros <;> first | assumption | rfl | exact Eq.symm (by assumption)))
      · have h1 : (ilt i1 (ofN (xlen r1))) = false := by first | exact h | (have h2 := h; simp only [choice_lk, lock_eq] at h2; exact h2) | (simp only [choice_lk, lock_eq] at h; exact h)
        rw [if_neg (by rw [h1]; exact Bool.false_ne_true)] at hr
        (try cbv)
        apply Hidden.out
        obtain rfl := Option.some.inj hr
        have e := ht1 _ rfl
        constructor
        refine ⟨_, hF, ?_⟩
        (try cbv); (try simp only [choice_lk, lock_eq, and_self, and_true, true_and]); (try first | exact e | exact e.symm | (and_intros <;> first | assumption | rfl | exact Eq.symm (by assumption)))
end Go.Proofs.Ytdagccoamfhdcaa
end
section
/-
  The walk of tollbar/tollbarref22.Push (printed by a program of ours).
-/
set_option linter.unusedVariables false
set_option linter.unusedSimpArgs false
namespace Go.Proofs.Ytdagccoamfhdcaa
open Go.RowKit

noncomputable def tab_tollbarref22_Push : Nat → Option Con := look []
set_option maxHeartbeats 4000000 in
set_option maxRecDepth 100000 in
theorem vc_tollbarref22_Push (P : Program) (T : Tab P tab_tollbarref22_Push) (hm : P.follows .mixedOrders = true) : FnVC P tab_tollbarref22_Push ic_18 [.c 4 2 true, .t 5] 25 con_tollbarref22_Push := by
  intro cargs ccks ce hce hob C hk
  apply Hidden.out
  replace hce : con_tollbarref22_Push_1 cargs ccks = some ce := hce
  · unfold con_tollbarref22_Push_1 at hce
    split at hce
    rotate_left
    · cases hce
    obtain rfl := Option.some.inj hce
    rename_i r1 x1 x2 x3 x4
    have hb1 := hob _ (List.mem_singleton.2 rfl)
    have hb2 := obl.1 hb1
    clear hb1 hob hce
    refine hb2.elim fun r hF => ?_
    clear hb2
    simp only [List.length_cons, List.length_nil, Nat.zero_add, Nat.reduceAdd] at hk
    have hr : F_tollbarref22_Push_4 r1 x1 x2 x3 x4 = some r := by rw [lock_eq] at hF; exact hF
    unfold F_tollbarref22_Push_4 at hr
    constructor
    (try cbv)
    refine sel_intro (fun h => ?_) (fun h => ?_)
    · have h1 : (ile x1 (ofN (xlen r1))) = true := by first | exact h | (have h2 := h; simp only [choice_lk, lock_eq] at h2; exact h2) | (simp only [choice_lk, lock_eq] at h; exact h)
      rw [if_pos h1] at hr
      (try cbv)
      apply Hidden.out
      have e := Option.some.inj hr
      obtain ⟨u0, u1⟩ := r
      simp only [Prod.mk.injEq] at e
      obtain ⟨e0, e1⟩ := e
      constructor
      refine ⟨_, hF, ?_⟩
      (try cbv); (try simp only [choice_lk, lock_eq, and_self, and_true, true_and]); (try first | exact e | exact e.symm | (and_intros <;> first | assumption | rfl | exact Eq.symm (by assumption)))
    · have h1 : (ile x1 (ofN (xlen r1))) = false := by first | exact h | (have h2 := h; simp only [choice_lk, lock_eq] at h2; exact h2) | (simp only [choice_lk, lock_eq] at h; exact h)
      rw [if_neg (by rw [h1]; exact Bool.false_ne_true)] at hr
      (try cbv)
      have gg := guard_inv hr
      have g := gg.1
      replace hr := gg.2
      clear gg
      refine ⟨obl.2 (by first | (simp only [choice_lk, lock_eq, R.len, R.sub]; exact g) | exact g), ?_⟩
      have gg := guard_inv hr
      have g := gg.1
      replace hr := gg.2
      clear gg
      refine ⟨obl.2 (by first | (simp only [choice_lk, lock_eq, R.len, R.sub]; exact g) | exact g), ?_⟩
      apply Hidden.out
      have e := Option.some.inj hr
      obtain ⟨u0, u1⟩ := r
      simp only [Prod.mk.injEq] at e
      obtain ⟨e0, e1⟩ := e
      constructor
      refine ⟨_, hF, ?_⟩
      (try cbv); (try simp only [choice_lk, lock_eq, and_self, and_true, true_and]); (try first | exact e | exact e.symm | (and_intros <;> first | assumption | rfl | exact Eq.symm (by assumption)))
end Go.Proofs.Ytdagccoamfhdcaa
end
section
/-
  The walk of tollbar/tollbarref22.Same (printed by a program of ours).
-/
set_option linter.unusedVariables false
set_option linter.unusedSimpArgs false
namespace Go.Proofs.Ytdagccoamfhdcaa
open Go.RowKit

noncomputable def tab_tollbarref22_Same : Nat → Option Con := look []
set_option maxHeartbeats 4000000 in
set_option maxRecDepth 100000 in
theorem vc_tollbarref22_Same (P : Program) (T : Tab P tab_tollbarref22_Same) (hm : P.follows .mixedOrders = true) : FnVC P tab_tollbarref22_Same ic_9 [.t 4] 26 con_tollbarref22_Same := by
  intro cargs ccks ce hce hob C hk
  apply Hidden.out
  replace hce : con_tollbarref22_Same_1 cargs ccks = some ce := hce
  · unfold con_tollbarref22_Same_1 at hce
    split at hce
    rotate_left
    · cases hce
    obtain rfl := Option.some.inj hce
    rename_i r1 r2
    have hb1 := hob _ (List.mem_singleton.2 rfl)
    have hb2 := obl.1 hb1
    clear hb1 hob hce
    refine hb2.elim fun r hF => ?_
    clear hb2
    simp only [List.length_cons, List.length_nil, Nat.zero_add, Nat.reduceAdd] at hk
    have hr : F_tollbarref22_Same r1 r2 = some r := by rw [lock_eq] at hF; exact hF
    unfold F_tollbarref22_Same at hr
    constructor
    (try cbv)
    refine sel_intro (fun h => ?_) (fun h => ?_)
    · have h1 : (ieq (ofN (xlen r1)) (ofN (xlen r2))) = false := by first | exact (bnot_t.1 h) | (have h2 := (bnot_t.1 h); simp only [choice_lk, lock_eq] at h2; exact h2) | (simp only [choice_lk, lock_eq] at h; exact (bnot_t.1 h))
      rw [if_neg (by rw [h1]; exact Bool.false_ne_true)] at hr
      (try cbv)
      apply Hidden.out
      have e := Option.some.inj hr
      constructor
      refine ⟨_, hF, ?_⟩
      (try cbv); (try simp only [choice_lk, lock_eq, and_self, and_true, true_and]); (try first | exact e | exact e.symm | (and_intros <;> first | assumption | rfl | exact Eq.symm (by assumption)))
    · have h1 : (ieq (ofN (xlen r1)) (ofN (xlen r2))) = true := by first | exact (bnot_f.1 h) | (have h2 := (bnot_f.1 h); simp only [choice_lk, lock_eq] at h2; exact h2) | (simp only [choice_lk, lock_eq] at h; exact (bnot_f.1 h))
      rw [if_pos h1] at hr
      (try cbv)
      refine LoopOK.iter T (drawOK T hm) (B := (F_tollbarref22_Same_L1 r1 r2)) hr (fun | i1 => ⟨mkFr [(0, (.rsl (.row 28 (.st [(.int .u64), (.int .i64), (.int .i64)]) r1))), (1, (.rsl (.row 28 (.st [(.int .u64), (.int .i64), (.int .i64)]) r2))), (5, (.v (.int .i64 i1)))] 26 0, [], 0⟩) ?_ ?_
      · rintro u0 e
        refine le_auto hk ?_
        (try cbv); (try simp only [choice_lk, lock_eq, and_self, and_true, true_and]); (try first | exact e | exact e.symm | (and_intros <;> first | assumption | rfl | exact Eq.symm (by assumption)))
      · clear hr
        intro x bb1 hr ht1
        obtain ⟨i1, hz⟩ : ∃ z, z = x := ⟨x, rfl⟩
        subst hz
        constructor
        unfold F_tollbarref22_Same_L1 at hr
        (try dsimp only at hr)
        (try cbv)
        refine sel_intro (fun h => ?_) (fun h => ?_)
        · have h1 : (ilt i1 (ofN (xlen r1))) = true := by first | exact h | (have h2 := h; simp only [choice_lk, lock_eq] at h2; exact h2) | (simp only [choice_lk, lock_eq] at h; exact h)
          rw [if_pos h1] at hr
          (try cbv)
          have gg := guard_inv hr
          have g := gg.1
          replace hr := gg.2
          clear gg
          refine ⟨obl.2 (by first | (simp only [choice_lk, lock_eq, R.len, R.sub]; exact g) | exact g), ?_⟩
          have gg := guard_inv hr
          have g := gg.1
          replace hr := gg.2
          clear gg
          refine ⟨obl.2 (by first | (simp only [choice_lk, lock_eq, R.len, R.sub]; exact g) | exact g), ?_⟩
          refine sel_intro (fun h => ?_) (fun h => ?_)
          · have h1 : (band (ieq (D.toI (D.fld (getD r1 (toN i1)) 0)) (D.toI (D.fld (getD r2 (toN i1)) 0))) (band (ieq (D.toI (D.fld (getD r1 (toN i1)) 1)) (D.toI (D.fld (getD r2 (toN i1)) 1))) (band (ieq (D.toI (D.fld (getD r1 (toN i1)) 2)) (D.toI (D.fld (getD r2 (toN i1)) 2))) true))) = false := by first | exact (bnot_t.1 h) | (have h2 := (bnot_t.1 h); simp only [choice_lk, lock_eq] at h2; exact h2) | (simp only [choice_lk, lock_eq] at h; exact (bnot_t.1 h))
            rw [if_neg (by rw [h1]; exact Bool.false_ne_true)] at hr
            (try cbv)
            apply Hidden.out
            obtain rfl := Option.some.inj hr
            have e := ht1 _ rfl
            constructor
            refine ⟨_, hF, ?_⟩
            (try cbv); (try simp only [choice_lk, lock_eq, and_self, and_true, true_and]); (try first | exact e | exact e.symm | (and_intros <;> first | assumption | rfl | exact Eq.symm (by assumption)))
          · have h1 : (band (ieq (D.toI (D.fld (getD r1 (toN i1)) 0)) (D.toI (D.fld (getD r2 (toN i1)) 0))) (band (ieq (D.toI (D.fld (getD r1 (toN i1)) 1)) (D.toI (D.fld (getD r2 (toN i1)) 1))) (band (ieq (D.toI (D.fld (getD r1 (toN i1)) 2)) (D.toI (D.fld (getD r2 (toN i1)) 2))) true))) = true := by first | exact (bnot_f.1 h) | (have h2 := (bnot_f.1 h); simp only [choice_lk, lock_eq] at h2; exact h2) | (simp only [choice_lk, lock_eq] at h; exact (bnot_f.1 h))
            rw [if_pos h1] at hr
            (try cbv)
            apply Hidden.out
            obtain rfl := Option.some.inj hr
            constructor
            refine ⟨⟨_, rfl⟩, ?_⟩
            rintro u0 e
            replace e := Sum.inl.inj e
            refine le_auto hk ?_
            (try cbv); (try simp only [choice_lk, lock_eq, and_self, and_true, true_and]); (try first | exact e | exact e.symm | (and_intros <;> first | assumption | rfl | exact Eq.symm (by assumption)))
        · have h1 : (ilt i1 (ofN (xlen r1))) = false := by first | exact h | (have h2 := h; simp only [choice_lk, lock_eq] at h2; exact h2) | (simp only [choice_lk, lock_eq] at h; exact h)
          rw [if_neg (by rw [h1]; exact Bool.false_ne_true)] at hr
          (try cbv)
          apply Hidden.out
          obtain rfl := Option.some.inj hr
          have e := ht1 _ rfl
          constructor
          refine ⟨_, hF, ?_⟩
          (try cbv); (try simp only [choice_lk, lock_eq, and_self, and_true, true_and]); (try first | exact e | exact e.symm | (and_intros <;> first | assumption | rfl | exact Eq.symm (by assumption)))
end Go.Proofs.Ytdagccoamfhdcaa
end
section
/-
  The walk of tollbar/tollbarref22.Pop (printed by a program of ours).
-/
set_option linter.unusedVariables false
set_option linter.unusedSimpArgs false
namespace Go.Proofs.Ytdagccoamfhdcaa
open Go.RowKit

noncomputable def tab_tollbarref22_Pop : Nat → Option Con := look []
set_option maxHeartbeats 4000000 in
set_option maxRecDepth 100000 in
theorem vc_tollbarref22_Pop (P : Program) (T : Tab P tab_tollbarref22_Pop) (hm : P.follows .mixedOrders = true) : FnVC P tab_tollbarref22_Pop ic_19 [.c 2 2 true, .c 3 3 true, .t 4] 22 con_tollbarref22_Pop := by
  intro cargs ccks ce hce hob C hk
  apply Hidden.out
  replace hce : con_tollbarref22_Pop_1 cargs ccks = some ce := hce
  · unfold con_tollbarref22_Pop_1 at hce
    split at hce
    rotate_left
    · cases hce
    obtain rfl := Option.some.inj hce
    rename_i r1 x1
    have hb1 := hob _ (List.mem_singleton.2 rfl)
    have hb2 := obl.1 hb1
    clear hb1 hob hce
    refine hb2.elim fun r hF => ?_
    clear hb2
    simp only [List.length_cons, List.length_nil, Nat.zero_add, Nat.reduceAdd] at hk
    have hr : F_tollbarref22_Pop_4 r1 x1 = some r := by rw [lock_eq] at hF; exact hF
    unfold F_tollbarref22_Pop_4 at hr
    constructor
    (try cbv)
    refine sel_intro (fun h => ?_) (fun h => ?_)
    · have h1 : (ieq (ofN (xlen r1)) (0 : Int)) = true := by first | exact h | (have h2 := h; simp only [choice_lk, lock_eq] at h2; exact h2) | (simp only [choice_lk, lock_eq] at h; exact h)
      rw [if_pos h1] at hr
      (try cbv)
      apply Hidden.out
      have e := Option.some.inj hr
      obtain ⟨u0, u1, u2, u3, u4⟩ := r
      simp only [Prod.mk.injEq] at e
      obtain ⟨e0, e1, e2, e3, e4⟩ := e
      constructor
      refine ⟨_, hF, ?_⟩
      (try cbv); (try simp only [choice_lk, lock_eq, and_self, and_true, true_and]); (try first | exact e | exact e.symm | (and_intros <;> first | assumption | rfl | exact Eq.symm (by assumption)))
    · have h1 : (ieq (ofN (xlen r1)) (0 : Int)) = false := by first | exact h | (have h2 := h; simp only [choice_lk, lock_eq] at h2; exact h2) | (simp only [choice_lk, lock_eq] at h; exact h)
      rw [if_neg (by rw [h1]; exact Bool.false_ne_true)] at hr
      (try cbv)
      have gg := guard_inv hr
      have g := gg.1
      replace hr := gg.2
      clear gg
      refine ⟨obl.2 (by first | (simp only [choice_lk, lock_eq, R.len, R.sub]; exact g) | exact g), ?_⟩
      have gg := guard_inv hr
      have g := gg.1
      replace hr := gg.2
      clear gg
      refine ⟨obl.2 (by first | (simp only [choice_lk, lock_eq, R.len, R.sub]; exact g) | exact g), ?_⟩
      apply Hidden.out
      have e := Option.some.inj hr
      obtain ⟨u0, u1, u2, u3, u4⟩ := r
      simp only [Prod.mk.injEq] at e
      obtain ⟨e0, e1, e2, e3, e4⟩ := e
      constructor
      refine ⟨_, hF, ?_⟩
      (try cbv); (try simp only [choice_lk, lock_eq, and_self, and_true, true_and]); (try first | exact e | exact e.symm | (and_intros <;> first | assumption | rfl | exact Eq.symm (by assumption)))
end Go.Proofs.Ytdagccoamfhdcaa
end
section
/-
  The walk of (*tollbar/fifo.Queue).Pop (printed by a program of ours).
-/
set_option linter.unusedVariables false
set_option linter.unusedSimpArgs false
namespace Go.Proofs.Ytdagccoamfhdcaa
open Go.RowKit

noncomputable def tab_fifo_Queue_Pop : Nat → Option Con := look [(20, con_fifo_Queue_Head), (25, con_fifo_Queue_at)]
set_option maxHeartbeats 4000000 in
set_option maxRecDepth 100000 in
theorem vc_fifo_Queue_Pop (P : Program) (T : Tab P tab_fifo_Queue_Pop) (hm : P.follows .mixedOrders = true) : FnVC P tab_fifo_Queue_Pop ic_13 [.c 2 3 true, .t 3] 26 con_fifo_Queue_Pop := by
  intro cargs ccks ce hce hob C hk
  apply Hidden.out
  replace hce : altC (con_fifo_Queue_Pop_1 cargs ccks) (con_fifo_Queue_Pop_2 cargs ccks) = some ce := hce
  replace hce := altC_inv hce
  rcases hce with hce | hce
  · unfold con_fifo_Queue_Pop_1 at hce
    split at hce
    rotate_left
    · cases hce
    obtain rfl := Option.some.inj hce
    rename_i x1 x2 x3 r1
    have hb1 := hob _ (List.mem_singleton.2 rfl)
    have hb2 := obl.1 hb1
    clear hb1 hob hce
    refine hb2.elim fun r hF => ?_
    clear hb2
    simp only [List.length_cons, List.length_nil, Nat.zero_add, Nat.reduceAdd] at hk
    have hr : F_fifo_Queue_Pop_2 x1 x2 x3 r1 = some r := by rw [lock_eq] at hF; exact hF
    unfold F_fifo_Queue_Pop_2 at hr
    constructor
    (try cbv)
    have hqe : ∃ qq, F_fifo_Queue_Head x1 x2 x3 r1 = some qq := by
      cases hq : F_fifo_Queue_Head x1 x2 x3 r1 with
      | none => rw [hq] at hr; cases hr
      | some qq => exact ⟨qq, rfl⟩
    refine ⟨obl.2 (by simp only [choice_lk, lock_eq]; exact hqe), (by rintro (⟨_, _, _, _⟩) _ <;> cbv), ?_⟩
    clear hqe
    intro qq hx1
    simp only [choice_lk, lock_eq] at hx1
    rcases qq with ⟨y1, y2, y3, c1⟩
    all_goals (rw [hx1] at hr; dsimp only at hr; constructor; (try cbv))
    refine sel_intro (fun h => ?_) (fun h => ?_)
    · have h1 : c1 = true := by first | exact h | (have h2 := h; simp only [choice_lk, lock_eq] at h2; exact h2) | (simp only [choice_lk, lock_eq] at h; exact h)
      rw [if_pos h1] at hr
      (try cbv)
      have hqe : ∃ qq, F_fifo_Queue_at (1 : Int) x1 x2 x3 r1 = some qq := by
        cases hq : F_fifo_Queue_at (1 : Int) x1 x2 x3 r1 with
        | none => rw [hq] at hr; cases hr
        | some qq => exact ⟨qq, rfl⟩
      refine ⟨obl.2 (by simp only [choice_lk, lock_eq]; exact hqe), (by rintro (_) _ <;> cbv), ?_⟩
      clear hqe
      intro y4 hx2
      simp only [choice_lk, lock_eq] at hx2
      all_goals (rw [hx2] at hr; dsimp only at hr; constructor; (try cbv))
      apply Hidden.out
      have e := Option.some.inj hr
      obtain ⟨u0, u1, u2, u3, u4, u5⟩ := r
      simp only [Prod.mk.injEq] at e
      obtain ⟨e0, e1, e2, e3, e4, e5⟩ := e
      constructor
      refine ⟨_, hF, ?_⟩
      (try cbv); (try simp only [choice_lk, lock_eq, and_self, and_true, true_and]); (try first | exact e | exact e.symm | (and_intros <;> first | assumption | rfl | exact Eq.symm (by assumption)))
    · have h1 : c1 = false := by first | exact h | (have h2 := h; simp only [choice_lk, lock_eq] at h2; exact h2) | (simp only [choice_lk, lock_eq] at h; exact h)
      rw [if_neg (by rw [h1]; exact Bool.false_ne_true)] at hr
      (try cbv)
      apply Hidden.out
      have e := Option.some.inj hr
      obtain ⟨u0, u1, u2, u3, u4, u5⟩ := r
      simp only [Prod.mk.injEq] at e
      obtain ⟨e0, e1, e2, e3, e4, e5⟩ := e
      constructor
      refine ⟨_, hF, ?_⟩
      (try cbv); (try simp only [choice_lk, lock_eq, and_self, and_true, true_and]); (try first | exact e | exact e.symm | (and_intros <;> first | assumption | rfl | exact Eq.symm (by assumption)))
  · unfold con_fifo_Queue_Pop_2 at hce
    split at hce
    rotate_left
    · cases hce
    obtain rfl := Option.some.inj hce
    have hb1 := hob _ (List.mem_singleton.2 rfl)
    have hb2 := obl.1 hb1
    clear hb1 hob hce
    refine hb2.elim fun r hF => ?_
    clear hb2
    simp only [List.length_cons, List.length_nil, Nat.zero_add, Nat.reduceAdd] at hk
    have hr : F_fifo_Queue_Pop_3 = some r := by rw [lock_eq] at hF; exact hF
    unfold F_fifo_Queue_Pop_3 at hr
    constructor
    (try cbv)
    have hqe : ∃ qq, F_fifo_Queue_Head_3 = some qq := by
      cases hq : F_fifo_Queue_Head_3 with
      | none => rw [hq] at hr; cases hr
      | some qq => exact ⟨qq, rfl⟩
    refine ⟨obl.2 (by simp only [choice_lk, lock_eq]; exact hqe), (by rintro (_) _ <;> cbv), ?_⟩
    clear hqe
    intro qq hx1
    simp only [choice_lk, lock_eq] at hx1
    rcases qq with _
    all_goals (rw [hx1] at hr; dsimp only at hr; constructor; (try cbv))
    apply Hidden.out
    have e := Option.some.inj hr
    constructor
    refine ⟨_, hF, ?_⟩
    (try cbv); (try simp only [choice_lk, lock_eq, and_self, and_true, true_and]); (try first | exact e | exact e.symm | (and_intros <;> first | assumption | rfl | exact Eq.symm (by assumption)))
end Go.Proofs.Ytdagccoamfhdcaa
end
section
/-
  The walk of (*tollbar/fifo.Queue).Tune (printed by a program of ours).
-/
set_option linter.unusedVariables false
set_option linter.unusedSimpArgs false
namespace Go.Proofs.Ytdagccoamfhdcaa
open Go.RowKit

noncomputable def tab_fifo_Queue_Tune : Nat → Option Con := look []
set_option maxHeartbeats 4000000 in
set_option maxRecDepth 100000 in
theorem vc_fifo_Queue_Tune (P : Program) (T : Tab P tab_fifo_Queue_Tune) (hm : P.follows .mixedOrders = true) : FnVC P tab_fifo_Queue_Tune ic_21 [] 10 con_fifo_Queue_Tune := by
  intro cargs ccks ce hce hob C hk
  apply Hidden.out
  replace hce : altC (con_fifo_Queue_Tune_1 cargs ccks) (con_fifo_Queue_Tune_2 cargs ccks) = some ce := hce
  replace hce := altC_inv hce
  rcases hce with hce | hce
  · unfold con_fifo_Queue_Tune_1 at hce
    split at hce
    rotate_left
    · cases hce
    obtain rfl := Option.some.inj hce
    rename_i x1 x2 x3 x4 r1
    have hb1 := hob _ (List.mem_singleton.2 rfl)
    have hb2 := obl.1 hb1
    clear hb1 hob hce
    refine hb2.elim fun r hF => ?_
    clear hb2
    simp only [List.length_cons, List.length_nil, Nat.zero_add, Nat.reduceAdd] at hk
    have hr : F_fifo_Queue_Tune_2 x1 x2 x3 x4 r1 = some r := by rw [lock_eq] at hF; exact hF
    unfold F_fifo_Queue_Tune_2 at hr
    constructor
    (try cbv)
    apply Hidden.out
    have e := Option.some.inj hr
    constructor
    refine ⟨_, hF, ?_⟩
    (try cbv); (try simp only [choice_lk, lock_eq, and_self, and_true, true_and]); (try first | exact e | exact e.symm | (and_intros <;> first | assumption | rfl | exact Eq.symm (by assumption)))
  · unfold con_fifo_Queue_Tune_2 at hce
    split at hce
    rotate_left
    · cases hce
    obtain rfl := Option.some.inj hce
    rename_i x1
    have hb1 := hob _ (List.mem_singleton.2 rfl)
    have hb2 := obl.1 hb1
    clear hb1 hob hce
    refine hb2.elim fun r hF => ?_
    clear hb2
    simp only [List.length_cons, List.length_nil, Nat.zero_add, Nat.reduceAdd] at hk
    have hr : F_fifo_Queue_Tune_3 x1 = some r := by rw [lock_eq] at hF; exact hF
    unfold F_fifo_Queue_Tune_3 at hr
    constructor
    (try cbv)
    apply Hidden.out
    have e := Option.some.inj hr
    constructor
    refine ⟨_, hF, ?_⟩
    (try cbv); (try simp only [choice_lk, lock_eq, and_self, and_true, true_and]); (try first | exact e | exact e.symm | (and_intros <;> first | assumption | rfl | exact Eq.symm (by assumption)))
end Go.Proofs.Ytdagccoamfhdcaa
end
section
/-
  The walk of (*tollbar/fifo.Queue).Load (printed by a program of ours).
-/
set_option linter.unusedVariables false
set_option linter.unusedSimpArgs false
namespace Go.Proofs.Ytdagccoamfhdcaa
open Go.RowKit

noncomputable def tab_fifo_Queue_Load : Nat → Option Con := look [(24, con_fifo_Queue_put)]
set_option maxHeartbeats 4000000 in
set_option maxRecDepth 100000 in
theorem vc_fifo_Queue_Load (P : Program) (T : Tab P tab_fifo_Queue_Load) (hm : P.follows .mixedOrders = true) : FnVC P tab_fifo_Queue_Load ic_15 [] 28 con_fifo_Queue_Load := by
  intro cargs ccks ce hce hob C hk
  apply Hidden.out
  replace hce : altC (con_fifo_Queue_Load_1 cargs ccks) (altC (con_fifo_Queue_Load_2 cargs ccks) (con_fifo_Queue_Load_3 cargs ccks)) = some ce := hce
  replace hce := altC_inv hce
  rcases hce with hce | hce
  · unfold con_fifo_Queue_Load_1 at hce
    split at hce
    rotate_left
    · cases hce
    obtain rfl := Option.some.inj hce
    rename_i r1 x1 x2 x3
    have hb1 := hob _ (List.mem_singleton.2 rfl)
    have hb2 := obl.1 hb1
    clear hb1 hob hce
    refine hb2.elim fun r hF => ?_
    clear hb2
    simp only [List.length_cons, List.length_nil, Nat.zero_add, Nat.reduceAdd] at hk
    have hr : F_fifo_Queue_Load r1 x1 x2 x3 = some r := by rw [lock_eq] at hF; exact hF
    unfold F_fifo_Queue_Load at hr
    constructor
    (try cbv)
    refine LoopOK.iter T (drawOK T hm) (B := (F_fifo_Queue_Load_L1 r1 x1)) hr (fun | (i1, i2, i3, r2) => ⟨mkFr [(0, (.ptr 0 0)), (18, (.rsl (.row 28 (.st [(.int .u64), (.int .i64), (.int .i64)]) r1))), (19, (.v (.int .i64 (lock ofN (lock (@xlen D) r1))))), (20, (.v (.int .i64 i1)))] 28 0, [(0, .blk 54 [(.v (.int .i64 x1)), (.wsl 1), (.v (.int .i64 i2)), (.v (.int .i64 i3))]), (1, .row (.row 28 (.st [(.int .u64), (.int .i64), (.int .i64)]) r2))], 2⟩) ?_ ?_
    · rintro ⟨u0, u1, u2, u3⟩ e
      simp only [Prod.mk.injEq] at e
      obtain ⟨e0, e1, e2, e3⟩ := e
      refine le_auto hk ?_
      (try cbv); (try simp only [choice_lk, lock_eq, and_self, and_true, true_and]); (try first | exact e | exact e.symm | (and_intros <;> first | assumption | rfl | exact Eq.symm (by assumption)))
    · clear hr
      intro x bb1 hr ht1
      obtain ⟨i1, i2, i3, r2⟩ := x
      constructor
      unfold F_fifo_Queue_Load_L1 at hr
      (try dsimp only at hr)
      (try cbv)
      refine sel_intro (fun h => ?_) (fun h => ?_)
      · have h1 : (ilt i1 (ofN (xlen r1))) = true := by first | exact h | (have h2 := h; simp only [choice_lk, lock_eq] at h2; exact h2) | (simp only [choice_lk, lock_eq] at h; exact h)
        rw [if_pos h1] at hr
        (try cbv)
        have gg := guard_inv hr
        have g := gg.1
        replace hr := gg.2
        clear gg
        refine ⟨obl.2 (by first | (simp only [choice_lk, lock_eq, R.len, R.sub]; exact g) | exact g), ?_⟩
        have hqe : ∃ qq, F_fifo_Queue_put_2 (D.toI (D.fld (getD r1 (toN i1)) 0)) (D.toI (D.fld (getD r1 (toN i1)) 1)) (D.toI (D.fld (getD r1 (toN i1)) 2)) x1 i2 i3 r2 = some qq := by
          cases hq : F_fifo_Queue_put_2 (D.toI (D.fld (getD r1 (toN i1)) 0)) (D.toI (D.fld (getD r1 (toN i1)) 1)) (D.toI (D.fld (getD r1 (toN i1)) 2)) x1 i2 i3 r2 with
          | none => rw [hq] at hr; cases hr
          | some qq => exact ⟨qq, rfl⟩
        refine ⟨obl.2 (by simp only [choice_lk, lock_eq]; exact hqe), (by rintro (⟨_, _, _⟩) _ <;> cbv), ?_⟩
        clear hqe
        intro qq hx4
        simp only [choice_lk, lock_eq] at hx4
        rcases qq with ⟨y6, y7, q4⟩
        all_goals (rw [hx4] at hr; dsimp only at hr; constructor; (try cbv))
        apply Hidden.out
        obtain rfl := Option.some.inj hr
        constructor
        refine ⟨⟨_, rfl⟩, ?_⟩
        rintro ⟨u0, u1, u2, u3⟩ e
        replace e := Sum.inl.inj e
        simp only [Prod.mk.injEq] at e
        obtain ⟨e0, e1, e2, e3⟩ := e
        refine le_auto hk ?_
        (try cbv); (try simp only [choice_lk, lock_eq, and_self, and_true, true_and]); (try first | exact e | exact e.symm | (and_intros <;> first | assumption | rfl | exact Eq.symm (by assumption)))
      · have h1 : (ilt i1 (ofN (xlen r1))) = false := by first | exact h | (have h2 := h; simp only [choice_lk, lock_eq] at h2; exact h2) | (simp only [choice_lk, lock_eq] at h; exact h)
        rw [if_neg (by rw [h1]; exact Bool.false_ne_true)] at hr
        (try cbv)
        apply Hidden.out
        obtain rfl := Option.some.inj hr
        have e := ht1 _ rfl
        obtain ⟨u0, u1, u2⟩ := r
        simp only [Prod.mk.injEq] at e
        obtain ⟨e0, e1, e2⟩ := e
        constructor
        refine ⟨_, hF, ?_⟩
        (try cbv); (try simp only [choice_lk, lock_eq, and_self, and_true, true_and]); (try first | exact e | exact e.symm | (and_intros <;> first | assumption | rfl | exact Eq.symm (by assumption)))
  replace hce := altC_inv hce
  rcases hce with hce | hce
  · unfold con_fifo_Queue_Load_2 at hce
    split at hce
    rotate_left
    · cases hce
    obtain rfl := Option.some.inj hce
    rename_i r1 x1 x2 x3 r2
    have hb1 := hob _ (List.mem_singleton.2 rfl)
    have hb2 := obl.1 hb1
    clear hb1 hob hce
    refine hb2.elim fun r hF => ?_
    clear hb2
    simp only [List.length_cons, List.length_nil, Nat.zero_add, Nat.reduceAdd] at hk
    have hr : F_fifo_Queue_Load_2 r1 x1 x2 x3 r2 = some r := by rw [lock_eq] at hF; exact hF
    unfold F_fifo_Queue_Load_2 at hr
    constructor
    (try cbv)
    refine LoopOK.iter T (drawOK T hm) (B := (F_fifo_Queue_Load_2_L1 r1 x1)) hr (fun | (i1, i2, i3, r3) => ⟨mkFr [(0, (.ptr 0 0)), (18, (.rsl (.row 28 (.st [(.int .u64), (.int .i64), (.int .i64)]) r1))), (19, (.v (.int .i64 (lock ofN (lock (@xlen D) r1))))), (20, (.v (.int .i64 i1)))] 28 0, [(0, .blk 54 [(.v (.int .i64 x1)), (.wsl 2), (.v (.int .i64 i2)), (.v (.int .i64 i3))]), (2, .row (.row 28 (.st [(.int .u64), (.int .i64), (.int .i64)]) r3))], 3⟩) ?_ ?_
    · rintro ⟨u0, u1, u2, u3⟩ e
      simp only [Prod.mk.injEq] at e
      obtain ⟨e0, e1, e2, e3⟩ := e
      refine le_auto hk ?_
      (try cbv); (try simp only [choice_lk, lock_eq, and_self, and_true, true_and]); (try first | exact e | exact e.symm | (and_intros <;> first | assumption | rfl | exact Eq.symm (by assumption)))
    · clear hr
      intro x bb1 hr ht1
      obtain ⟨i1, i2, i3, r3⟩ := x
      constructor
      unfold F_fifo_Queue_Load_2_L1 at hr
      (try dsimp only at hr)
      (try cbv)
      refine sel_intro (fun h => ?_) (fun h => ?_)
      · have h1 : (ilt i1 (ofN (xlen r1))) = true := by first | exact h | (have h2 := h; simp only [choice_lk, lock_eq] at h2; exact h2) | (simp only [choice_lk, lock_eq] at h; exact h)
        rw [if_pos h1] at hr
        (try cbv)
        have gg := guard_inv hr
        have g := gg.1
        replace hr := gg.2
        clear gg
        refine ⟨obl.2 (by first | (simp only [choice_lk, lock_eq, R.len, R.sub]; exact g) | exact g), ?_⟩
        have hqe : ∃ qq, F_fifo_Queue_put_2 (D.toI (D.fld (getD r1 (toN i1)) 0)) (D.toI (D.fld (getD r1 (toN i1)) 1)) (D.toI (D.fld (getD r1 (toN i1)) 2)) x1 i2 i3 r3 = some qq := by
          cases hq : F_fifo_Queue_put_2 (D.toI (D.fld (getD r1 (toN i1)) 0)) (D.toI (D.fld (getD r1 (toN i1)) 1)) (D.toI (D.fld (getD r1 (toN i1)) 2)) x1 i2 i3 r3 with
          | none => rw [hq] at hr; cases hr
          | some qq => exact ⟨qq, rfl⟩
        refine ⟨obl.2 (by simp only [choice_lk, lock_eq]; exact hqe), (by rintro (⟨_, _, _⟩) _ <;> cbv), ?_⟩
        clear hqe
        intro qq hx4
        simp only [choice_lk, lock_eq] at hx4
        rcases qq with ⟨y7, y8, q4⟩
        all_goals (rw [hx4] at hr; dsimp only at hr; constructor; (try cbv))
        apply Hidden.out
        obtain rfl := Option.some.inj hr
        constructor
        refine ⟨⟨_, rfl⟩, ?_⟩
        rintro ⟨u0, u1, u2, u3⟩ e
        replace e := Sum.inl.inj e
        simp only [Prod.mk.injEq] at e
        obtain ⟨e0, e1, e2, e3⟩ := e
        refine le_auto hk ?_
        (try cbv); (try simp only [choice_lk, lock_eq, and_self, and_true, true_and]); (try first | exact e | exact e.symm | (and_intros <;> first | assumption | rfl | exact Eq.symm (by assumption)))
      · have h1 : (ilt i1 (ofN (xlen r1))) = false := by first | exact h | (have h2 := h; simp only [choice_lk, lock_eq] at h2; exact h2) | (simp only [choice_lk, lock_eq] at h; exact h)
        rw [if_neg (by rw [h1]; exact Bool.false_ne_true)] at hr
        (try cbv)
        apply Hidden.out
        obtain rfl := Option.some.inj hr
        have e := ht1 _ rfl
        obtain ⟨u0, u1, u2⟩ := r
        simp only [Prod.mk.injEq] at e
        obtain ⟨e0, e1, e2⟩ := e
        constructor
        refine ⟨_, hF, ?_⟩
        (try cbv); (try simp only [choice_lk, lock_eq, and_self, and_true, true_and]); (try first | exact e | exact e.symm | (and_intros <;> first | assumption | rfl | exact Eq.symm (by assumption)))
  · unfold con_fifo_Queue_Load_3 at hce
    split at hce
    rotate_left
    · cases hce
    obtain rfl := Option.some.inj hce
    rename_i r1
    have hb1 := hob _ (List.mem_singleton.2 rfl)
    have hb2 := obl.1 hb1
    clear hb1 hob hce
    refine hb2.elim fun r hF => ?_
    clear hb2
    simp only [List.length_cons, List.length_nil, Nat.zero_add, Nat.reduceAdd] at hk
    have hr : F_fifo_Queue_Load_3 r1 = some r := by rw [lock_eq] at hF; exact hF
    unfold F_fifo_Queue_Load_3 at hr
    constructor
    (try cbv)
    apply Hidden.out
    have e := Option.some.inj hr
    constructor
    refine ⟨_, hF, ?_⟩
    (try cbv); (try simp only [choice_lk, lock_eq, and_self, and_true, true_and]); (try first | exact e | exact e.symm | (and_intros <;> first | assumption | rfl | exact Eq.symm (by assumption)))
end Go.Proofs.Ytdagccoamfhdcaa
end
