/-
  Texts that the row of this claim stands on, one behind the other.
-/
import Derived.Test.YtojbpjcfdjakkaaProg
import Derived.Test.YtojbpjcfdjakkaaKShaperRates1
import Derived.Test.YtojbpjcfdjakkaaKShaperRates2
import Derived.Test.YtojbpjcfdjakkaaKShaperRates3
section
/-
  What the functions do, told plainly (printed by a program of ours).
-/
set_option linter.unusedVariables false
set_option linter.unusedSimpArgs false
namespace Go.Proofs.Ytojbpjcfdjakkaa
noncomputable def growP (n : Int) : Option (Unit ⊕ Unit) := if n < 0 then none else if n = 0 then some (.inl ()) else if n * ((24 : Nat) : Int) ≤ 140737488355328 then some (.inr ()) else none
noncomputable def cloneU64 (l : List Int) : Option (List Int) := if ((xlen l : Nat) : Int) * ((8 : Nat) : Int) ≤ 140737488355328 then some l else none
noncomputable def cloneC (l : List D) : Option (List D) := if ((xlen l : Nat) : Int) * ((56 : Nat) : Int) ≤ 140737488355328 then some l else none
noncomputable def cloneR (l : List D) : Option (List D) := if ((xlen l : Nat) : Int) * ((24 : Nat) : Int) ≤ 140737488355328 then some l else none
noncomputable def F_shaper_RightIn (x1 : Int) (x2 : Int) : Option (Bool) :=
 if (ile (0 : Int) x1) = true then
  some (ilt x1 x2)
 else
  some false
noncomputable def F_shaper_Right_L2 : Unit → Option ((Unit) ⊕ (Bool))
 | () =>
  if (ilt (0 : Int) (ofN 0)) = true then
   none
  else
   some (.inr true)
noncomputable def F_shaper_Right_L1 (r1 : List D) : Int → Option ((Int) ⊕ (Bool))
 | i1 =>
  if (ilt i1 (ofN (xlen r1))) = true then
   if 0 ≤ i1 ∧ i1 < (ofN (xlen r1)) then
    if (ilt (D.toI (D.fld (getD r1 (toN i1)) 1)) (1500 : Int)) = true then
     some (.inr false)
    else
     if (ilt (D.toI (D.fld (getD r1 (toN i1)) 4)) (1 : Int)) = true then
      some (.inr false)
     else
      if (ilt (64 : Int) (D.toI (D.fld (getD r1 (toN i1)) 4))) = true then
       some (.inr false)
      else
       if (ilt (0 : Int) i1) = true then
        if 0 ≤ (isub .i64 i1 (1 : Int)) ∧ (isub .i64 i1 (1 : Int)) < (ofN (xlen r1)) then
         if (slt (D.toS (D.fld (getD r1 (toN (isub .i64 i1 (1 : Int)))) 0)) (D.toS (D.fld (getD r1 (toN i1)) 0))) = true then
          some (.inl (iadd .i64 i1 (1 : Int)))
         else
          some (.inr false)
        else none
       else
        some (.inl (iadd .i64 i1 (1 : Int)))
   else none
  else
   Option.map (fun t => (.inr t)) (iter F_shaper_Right_L2 ())
noncomputable def F_shaper_Right (s1 : List UInt8) (b1 : Bool) (x1 : Int) (r1 : List D) : Option (Bool) :=
 if (ilt (ofN (xlen r1)) (1 : Int)) = true then
  some false
 else
  if (ilt (8 : Int) (ofN (xlen r1))) = true then
   some false
  else
   bindO (F_shaper_RightIn x1 (ofN (xlen r1))) fun
   | c1 =>
    if c1 = true then
     iter (F_shaper_Right_L1 r1) (0 : Int)
    else
     some false
noncomputable def F_shaper_own (s1 : List UInt8) (b1 : Bool) (x1 : Int) (r1 : List D) : Option ((List D) × (List D)) :=
 bindO (cloneC r1) fun
 | q1 =>
  bindO (cloneR ([] : List D)) fun
  | q2 =>
   some (q1, q2)
noncomputable def F_bucket_New (x1 : Int) (x2 : Int) : Option (Unit) :=
 some ()
noncomputable def F_fifo_New (x1 : Int) : Option (Unit) :=
 some ()
noncomputable def F_drr_New (l1 : List Int) : Option ((List Int) × (List Int)) :=
 bindO (cloneU64 l1) fun
 | m1 =>
  if 0 ≤ (ofN (xlen l1)) ∧ (ofN (xlen l1)) ≤ (ofN (xlen l1)) ∧ (ofN (xlen l1)) * ((8 : Nat) : Int) ≤ 140737488355328 ∧ (ofN (xlen l1)) ≤ 9223372036854775807 then
   some (m1, (@lrep Int (toN (ofN (xlen l1))) (0 : Int)))
  else none
noncomputable def F_shaper_Shaper_by_L1 (r1 : List D) (q1 : List D) (q2 : List D) : Int × (List Int) × Nat × (List D) → Option ((Int × (List Int) × Nat × (List D)) ⊕ ((List D) × (List D) × Nat × (List D) × (List Int) × (List Int)))
 | (i1, l1, n1, r2) =>
  if (ilt i1 (ofN (xlen r1))) = true then
   if 0 ≤ i1 ∧ i1 < (ofN (xlen r1)) then
    bindO (F_bucket_New (D.toI (D.fld (getD r1 (toN i1)) 2)) (D.toI (D.fld (getD r1 (toN i1)) 3))) fun
    | () =>
     bindO (F_fifo_New (D.toI (D.fld (getD r1 (toN i1)) 4))) fun
     | () =>
      if (((n1 : Nat) : Int) + 1) * ((8 : Nat) : Int) ≤ 140737488355328 then
       if ((((xlen l1) : Nat) : Int) + (((xlen ([(D.toI (D.fld (getD r1 (toN i1)) 1))] : List Int)) : Nat) : Int)) * ((8 : Nat) : Int) ≤ 140737488355328 then
        some (.inl ((iadd .i64 i1 (1 : Int)), (cat l1 ([(D.toI (D.fld (getD r1 (toN i1)) 1))] : List Int)), (nadd n1 1), (cat r2 ([(D.l [(D.l [(D.s (D.toS (D.fld (getD r1 (toN i1)) 0))), (D.i (D.toI (D.fld (getD r1 (toN i1)) 1))), (D.i (D.toI (D.fld (getD r1 (toN i1)) 2))), (D.i (D.toI (D.fld (getD r1 (toN i1)) 3))), (D.i (D.toI (D.fld (getD r1 (toN i1)) 4))), (D.b (D.toB (D.fld (getD r1 (toN i1)) 5)))]), (D.l [(D.i (D.toI (D.fld (getD r1 (toN i1)) 2))), (D.i (D.toI (D.fld (getD r1 (toN i1)) 3))), (D.i (D.toI (D.fld (getD r1 (toN i1)) 3)))]), (D.l [(D.i (D.toI (D.fld (getD r1 (toN i1)) 4))), (D.l ([] : List D)), (D.i (0 : Int)), (D.i (0 : Int))])])] : List D))))
       else none
      else none
   else none
  else
   bindO (F_drr_New l1) fun
   | (m1, m2) =>
    some (.inr (q1, q2, n1, r2, m1, m2))
noncomputable def F_shaper_Shaper_by (s1 : List UInt8) (b1 : Bool) (x1 : Int) (s2 : List UInt8) (b2 : Bool) (x2 : Int) (x3 : Int) (r1 : List D) : Option ((List D) × (List D) × Nat × (List D) × (List Int) × (List Int)) :=
 bindO (F_shaper_own s1 b1 x1 r1) fun
 | (q1, q2) =>
  iter (F_shaper_Shaper_by_L1 r1 q1 q2) ((0 : Int), ([] : List Int), 0, ([] : List D))
noncomputable def F_shaper_New (s1 : List UInt8) (b1 : Bool) (x1 : Int) (r1 : List D) : Option ((Unit) ⊕ ((List D) × (List D) × Nat × (List D) × (List Int) × (List Int))) :=
 bindO (F_shaper_Right s1 b1 x1 r1) fun
 | c1 =>
  if c1 = true then
   bindO (F_shaper_Shaper_by s1 b1 x1 ([] : List UInt8) false (0 : Int) (0 : Int) r1) fun
   | (q1, q2, k1, q3, m1, m2) =>
    some (.inr (q1, q2, k1, q3, m1, m2))
  else
   some (.inl ())
noncomputable def F_flow_ClassIn (x1 : Int) (x2 : Int) (x3 : Int) (x4 : Int) : Option (Bool) :=
 if (ile x1 x4) = true then
  some (ile x4 x2)
 else
  some false
noncomputable def F_slices_IndexFuncR_L1 (r1 : List D) (x1 : Int) : Int → Option ((Int) ⊕ (Int))
 | i1 =>
  if (ilt i1 (ofN (xlen r1))) = true then
   if 0 ≤ i1 ∧ i1 < (ofN (xlen r1)) then
    bindO (F_flow_ClassIn (D.toI (D.fld (getD r1 (toN i1)) 0)) (D.toI (D.fld (getD r1 (toN i1)) 1)) (D.toI (D.fld (getD r1 (toN i1)) 2)) x1) fun
    | c3 =>
     if c3 = true then
      some (.inr i1)
     else
      some (.inl (iadd .i64 i1 (1 : Int)))
   else none
  else
   some (.inr (-1 : Int))
noncomputable def F_slices_IndexFuncR (r1 : List D) (x1 : Int) : Option (Int) :=
 iter (F_slices_IndexFuncR_L1 r1 x1) (0 : Int)
noncomputable def F_flow_Table_Class (x1 : Int) (x2 : Int) (r1 : List D) : Option (Int) :=
 bindO (F_slices_IndexFuncR r1 x2) fun
 | y1 =>
  if (ilt y1 (0 : Int)) = true then
   some x1
  else
   if 0 ≤ y1 ∧ y1 < (ofN (xlen r1)) then
    some (D.toI (D.fld (getD r1 (toN y1)) 2))
   else none
noncomputable def F_fifo_Queue_grow (x1 : Int) (x2 : Int) (x3 : Int) (r1 : List D) : Option ((List D)) :=
 if 0 ≤ (imax (4 : Int) (imul .i64 (2 : Int) (ofN (xlen r1)))) ∧ (imax (4 : Int) (imul .i64 (2 : Int) (ofN (xlen r1)))) ≤ (imax (4 : Int) (imul .i64 (2 : Int) (ofN (xlen r1)))) ∧ (imax (4 : Int) (imul .i64 (2 : Int) (ofN (xlen r1)))) * ((24 : Nat) : Int) ≤ 140737488355328 ∧ (imax (4 : Int) (imul .i64 (2 : Int) (ofN (xlen r1)))) ≤ 9223372036854775807 then
  if 0 ≤ x2 ∧ x2 ≤ (ofN (xlen r1)) then
   if 0 ≤ (ofN (nmin (xlen (@lrep D (toN (imax (4 : Int) (imul .i64 (2 : Int) (ofN (xlen r1))))) (D.l [(D.i (0 : Int)), (D.i (0 : Int)), (D.i (0 : Int))]))) (xlen (lsub r1 (toN x2) (ndec (xlen r1) (toN x2)))))) ∧ (ofN (nmin (xlen (@lrep D (toN (imax (4 : Int) (imul .i64 (2 : Int) (ofN (xlen r1))))) (D.l [(D.i (0 : Int)), (D.i (0 : Int)), (D.i (0 : Int))]))) (xlen (lsub r1 (toN x2) (ndec (xlen r1) (toN x2)))))) ≤ (ofN (xlen (lspl (@lrep D (toN (imax (4 : Int) (imul .i64 (2 : Int) (ofN (xlen r1))))) (D.l [(D.i (0 : Int)), (D.i (0 : Int)), (D.i (0 : Int))])) 0 (lsub (lsub r1 (toN x2) (ndec (xlen r1) (toN x2))) 0 (nmin (xlen (@lrep D (toN (imax (4 : Int) (imul .i64 (2 : Int) (ofN (xlen r1))))) (D.l [(D.i (0 : Int)), (D.i (0 : Int)), (D.i (0 : Int))]))) (xlen (lsub r1 (toN x2) (ndec (xlen r1) (toN x2))))))))) then
    if 0 ≤ x2 ∧ x2 ≤ (ofN (xlen r1)) then
     some (lspl (lspl (@lrep D (toN (imax (4 : Int) (imul .i64 (2 : Int) (ofN (xlen r1))))) (D.l [(D.i (0 : Int)), (D.i (0 : Int)), (D.i (0 : Int))])) 0 (lsub (lsub r1 (toN x2) (ndec (xlen r1) (toN x2))) 0 (nmin (xlen (@lrep D (toN (imax (4 : Int) (imul .i64 (2 : Int) (ofN (xlen r1))))) (D.l [(D.i (0 : Int)), (D.i (0 : Int)), (D.i (0 : Int))]))) (xlen (lsub r1 (toN x2) (ndec (xlen r1) (toN x2))))))) (toN (ofN (nmin (xlen (@lrep D (toN (imax (4 : Int) (imul .i64 (2 : Int) (ofN (xlen r1))))) (D.l [(D.i (0 : Int)), (D.i (0 : Int)), (D.i (0 : Int))]))) (xlen (lsub r1 (toN x2) (ndec (xlen r1) (toN x2))))))) (lsub (lsub r1 0 (toN x2)) 0 (nmin (ndec (xlen (lspl (@lrep D (toN (imax (4 : Int) (imul .i64 (2 : Int) (ofN (xlen r1))))) (D.l [(D.i (0 : Int)), (D.i (0 : Int)), (D.i (0 : Int))])) 0 (lsub (lsub r1 (toN x2) (ndec (xlen r1) (toN x2))) 0 (nmin (xlen (@lrep D (toN (imax (4 : Int) (imul .i64 (2 : Int) (ofN (xlen r1))))) (D.l [(D.i (0 : Int)), (D.i (0 : Int)), (D.i (0 : Int))]))) (xlen (lsub r1 (toN x2) (ndec (xlen r1) (toN x2)))))))) (toN (ofN (nmin (xlen (@lrep D (toN (imax (4 : Int) (imul .i64 (2 : Int) (ofN (xlen r1))))) (D.l [(D.i (0 : Int)), (D.i (0 : Int)), (D.i (0 : Int))]))) (xlen (lsub r1 (toN x2) (ndec (xlen r1) (toN x2)))))))) (xlen (lsub r1 0 (toN x2))))))
    else none
   else none
  else none
 else none
noncomputable def F_fifo_Queue_at (x1 : Int) (x2 : Int) (x3 : Int) (x4 : Int) (r1 : List D) : Option (Int) :=
 if (ofN (xlen r1)) ≠ 0 then
  some (irem (iadd .i64 x3 x1) (ofN (xlen r1)))
 else none
noncomputable def F_fifo_Queue_put (x1 : Int) (x2 : Int) (x3 : Int) (x4 : Int) (x5 : Int) (x6 : Int) (r1 : List D) : Option (Int × Int × (List D)) :=
 if (ieq x6 (ofN (xlen r1))) = true then
  bindO (F_fifo_Queue_grow x4 x5 x6 r1) fun
  | q1 =>
   bindO (F_fifo_Queue_at x6 x4 (0 : Int) x6 q1) fun
   | y1 =>
    if 0 ≤ y1 ∧ y1 < (ofN (xlen q1)) then
     some ((0 : Int), (iadd .i64 x6 (1 : Int)), (setD q1 (toN y1) (D.l [(D.i x1), (D.i x2), (D.i x3)])))
    else none
 else
  bindO (F_fifo_Queue_at x6 x4 x5 x6 r1) fun
  | y2 =>
   if 0 ≤ y2 ∧ y2 < (ofN (xlen r1)) then
    some (x5, (iadd .i64 x6 (1 : Int)), (setD r1 (toN y2) (D.l [(D.i x1), (D.i x2), (D.i x3)])))
   else none
noncomputable def F_fifo_Queue_Push (x1 : Int) (x2 : Int) (x3 : Int) (x4 : Int) (x5 : Int) (x6 : Int) (r1 : List D) : Option (Bool × Int × Int × (List D)) :=
 if (ile x4 x6) = true then
  some (false, x5, x6, r1)
 else
  bindO (F_fifo_Queue_put x1 x2 x3 x4 x5 x6 r1) fun
  | (y1, y2, q1) =>
   some (true, y1, y2, q1)
noncomputable def F_shaper_Shaper_Arrive (x1 : Int) (x2 : Int) (s1 : List UInt8) (b1 : Bool) (x3 : Int) (x4 : Int) (r1 : List D) (r2 : List D) (n1 : Nat) (x5 : Int) (b2 : Bool) (r3 : List D) (l1 : List Int) (l2 : List Int) : Option (Int × Int × Int × Int × Int × (List D)) :=
 if (ilt x1 (0 : Int)) = true then
  some ((0 : Int), (0 : Int), (0 : Int), (1 : Int), x4, r3)
 else
  if (ilt (65535 : Int) x1) = true then
   some ((0 : Int), (0 : Int), (0 : Int), (1 : Int), x4, r3)
  else
   if (ilt x2 (1 : Int)) = true then
    some ((0 : Int), (0 : Int), (0 : Int), (1 : Int), x4, r3)
   else
    if (ilt (1500 : Int) x2) = true then
     some ((0 : Int), (0 : Int), (0 : Int), (1 : Int), x4, r3)
    else
     bindO (F_flow_Table_Class x3 x1 r2) fun
     | y1 =>
      if 0 ≤ y1 ∧ y1 < (ofN n1) then
       bindO (F_fifo_Queue_Push (iadd .u64 x4 (1 : Int)) x1 x2 (D.toI (D.fld (D.fld (getD r3 (toN y1)) 2) 0)) (D.toI (D.fld (D.fld (getD r3 (toN y1)) 2) 2)) (D.toI (D.fld (D.fld (getD r3 (toN y1)) 2) 3)) (D.toL (D.fld (D.fld (getD r3 (toN y1)) 2) 1))) fun
       | (c1, y2, y3, q1) =>
        if c1 = true then
         some ((iadd .u64 x4 (1 : Int)), x1, x2, (0 : Int), (iadd .u64 x4 (1 : Int)), (setD r3 (toN y1) (D.l [(D.l [(D.s (D.toS (D.fld (D.fld (getD r3 (toN y1)) 0) 0))), (D.i (D.toI (D.fld (D.fld (getD r3 (toN y1)) 0) 1))), (D.i (D.toI (D.fld (D.fld (getD r3 (toN y1)) 0) 2))), (D.i (D.toI (D.fld (D.fld (getD r3 (toN y1)) 0) 3))), (D.i (D.toI (D.fld (D.fld (getD r3 (toN y1)) 0) 4))), (D.b (D.toB (D.fld (D.fld (getD r3 (toN y1)) 0) 5)))]), (D.l [(D.i (D.toI (D.fld (D.fld (getD r3 (toN y1)) 1) 0))), (D.i (D.toI (D.fld (D.fld (getD r3 (toN y1)) 1) 1))), (D.i (D.toI (D.fld (D.fld (getD r3 (toN y1)) 1) 2)))]), (D.l [(D.i (D.toI (D.fld (D.fld (getD r3 (toN y1)) 2) 0))), (D.l q1), (D.i y2), (D.i y3)])])))
        else
         some ((0 : Int), (0 : Int), (0 : Int), (35 : Int), x4, (setD r3 (toN y1) (D.l [(D.l [(D.s (D.toS (D.fld (D.fld (getD r3 (toN y1)) 0) 0))), (D.i (D.toI (D.fld (D.fld (getD r3 (toN y1)) 0) 1))), (D.i (D.toI (D.fld (D.fld (getD r3 (toN y1)) 0) 2))), (D.i (D.toI (D.fld (D.fld (getD r3 (toN y1)) 0) 3))), (D.i (D.toI (D.fld (D.fld (getD r3 (toN y1)) 0) 4))), (D.b (D.toB (D.fld (D.fld (getD r3 (toN y1)) 0) 5)))]), (D.l [(D.i (D.toI (D.fld (D.fld (getD r3 (toN y1)) 1) 0))), (D.i (D.toI (D.fld (D.fld (getD r3 (toN y1)) 1) 1))), (D.i (D.toI (D.fld (D.fld (getD r3 (toN y1)) 1) 2)))]), (D.l [(D.i (D.toI (D.fld (D.fld (getD r3 (toN y1)) 2) 0))), (D.l q1), (D.i y2), (D.i y3)])])))
      else none
noncomputable def F_fifo_Queue_Len (x1 : Int) (x2 : Int) (x3 : Int) (r1 : List D) : Option (Unit) :=
 some ()
noncomputable def F_fifo_Queue_Head (x1 : Int) (x2 : Int) (x3 : Int) (r1 : List D) : Option (Int × Int × Int × Bool) :=
 bindO (F_fifo_Queue_Len x1 x2 x3 r1) fun
 | () =>
  if (ieq x3 (0 : Int)) = true then
   some ((0 : Int), (0 : Int), (0 : Int), false)
  else
   if 0 ≤ x2 ∧ x2 < (ofN (xlen r1)) then
    some ((D.toI (D.fld (getD r1 (toN x2)) 0)), (D.toI (D.fld (getD r1 (toN x2)) 1)), (D.toI (D.fld (getD r1 (toN x2)) 2)), true)
   else none
noncomputable def F_shaper_Shaper_view (s1 : List UInt8) (b1 : Bool) (x1 : Int) (x2 : Int) (s2 : List UInt8) (x3 : Int) (x4 : Int) (x5 : Int) (x6 : Int) (b2 : Bool) (x7 : Int) (x8 : Int) (x9 : Int) (r1 : List D) (r2 : List D) (n1 : Nat) (x10 : Int) (b3 : Bool) (x11 : Int) (x12 : Int) (x13 : Int) (r3 : List D) (n2 : Nat) (l1 : List Int) (l2 : List Int) (r4 : List D) : Option (Int × Bool) :=
 bindO (F_fifo_Queue_Head x11 x12 x13 r4) fun
 | (y1, y2, y3, c1) =>
  if c1 = true then
   if b1 = true then
    if b2 = true then
     some ((iconv .u64 y3), (ile (iconv .u64 y3) x9))
    else
     some ((iconv .u64 y3), true)
   else
    some ((iconv .u64 y3), false)
  else
   some ((0 : Int), false)
noncomputable def F_drr_Ring_on (x1 : Int) (b1 : Bool) (l1 : List Int) (l2 : List Int) : Option (Int) :=
 if (ofN (xlen l1)) ≠ 0 then
  some (irem (iadd .i64 x1 (1 : Int)) (ofN (xlen l1)))
 else none
noncomputable def F_sat_Add (x1 : Int) (x2 : Int) : Option (Int) :=
 if (ile x1 (iadd .u64 x1 x2)) = true then
  some (iadd .u64 x1 x2)
 else
  some (18446744073709551615 : Int)
noncomputable def F_drr_Ring_visit (x1 : Int) (b1 : Bool) (x2 : Int) (b2 : Bool) (l1 : List Int) (l2 : List Int) : Option (Bool × Int × Bool × (List Int)) :=
 if 0 ≤ x2 ∧ x2 < (ofN (xlen l2)) then
  if (ieq x1 (0 : Int)) = true then
   bindO (F_drr_Ring_on x2 b2 l1 (setI l2 (toN x2) (0 : Int))) fun
   | y1 =>
    some (false, y1, false, (setI l2 (toN x2) (0 : Int)))
  else
   if b1 = true then
    if b2 = true then
     if (ilt (getI l2 (toN x2)) x1) = true then
      bindO (F_drr_Ring_on x2 b2 l1 l2) fun
      | y5 =>
       some (false, y5, false, l2)
     else
      some (true, x2, b2, (setI l2 (toN x2) (isub .u64 (getI l2 (toN x2)) x1)))
    else
     if 0 ≤ x2 ∧ x2 < (ofN (xlen l1)) then
      bindO (F_sat_Add (getI l2 (toN x2)) (getI l1 (toN x2))) fun
      | y3 =>
       if (ilt (getI (setI l2 (toN x2) y3) (toN x2)) x1) = true then
        bindO (F_drr_Ring_on x2 true l1 (setI l2 (toN x2) y3)) fun
        | y4 =>
         some (false, y4, false, (setI l2 (toN x2) y3))
       else
        some (true, x2, true, (setI (setI l2 (toN x2) y3) (toN x2) (isub .u64 (getI (setI l2 (toN x2) y3) (toN x2)) x1)))
     else none
   else
    bindO (F_drr_Ring_on x2 b2 l1 (setI l2 (toN x2) (0 : Int))) fun
    | y2 =>
     some (false, y2, false, (setI l2 (toN x2) (0 : Int)))
 else none
noncomputable def F_drr_Ring_Next_L1 (r1 : List D) (l1 : List Int) : Int × Int × Bool × (List Int) → Option ((Int × Int × Bool × (List Int)) ⊕ (Int × Int × Bool × (List Int)))
 | (i1, i2, b2, l3) =>
  if (ilt i1 (iadd .i64 (ofN (xlen r1)) (1 : Int))) = true then
   if 0 ≤ i2 ∧ i2 < (ofN (xlen r1)) then
    bindO (F_drr_Ring_visit (D.toI (D.fld (getD r1 (toN i2)) 0)) (D.toB (D.fld (getD r1 (toN i2)) 1)) i2 b2 l1 l3) fun
    | (c5, y3, c6, m3) =>
     if c5 = true then
      some (.inr (y3, y3, c6, m3))
     else
      some (.inl ((iadd .i64 i1 (1 : Int)), y3, c6, m3))
   else none
  else
   some (.inr ((-1 : Int), i2, b2, l3))
noncomputable def F_drr_Ring_Next (r1 : List D) (x1 : Int) (b1 : Bool) (l1 : List Int) (l2 : List Int) : Option (Int × Int × Bool × (List Int)) :=
 if (ieq (ofN (xlen r1)) (ofN (xlen l1))) = true then
  if (ieq (ofN (xlen r1)) (0 : Int)) = true then
   some ((-1 : Int), x1, b1, l2)
  else
   iter (F_drr_Ring_Next_L1 r1 l1) ((0 : Int), x1, b1, l2)
 else
  some ((-1 : Int), x1, b1, l2)
noncomputable def F_fifo_Queue_Pop (x1 : Int) (x2 : Int) (x3 : Int) (r1 : List D) : Option (Int × Int × Int × Bool × Int × Int) :=
 bindO (F_fifo_Queue_Head x1 x2 x3 r1) fun
 | (y1, y2, y3, c1) =>
  if c1 = true then
   bindO (F_fifo_Queue_at (1 : Int) x1 x2 x3 r1) fun
   | y4 =>
    some (y1, y2, y3, c1, y4, (isub .i64 x3 (1 : Int)))
  else
   some (y1, y2, y3, c1, x2, x3)
noncomputable def F_bucket_Bucket_Take (x1 : Int) (x2 : Int) (x3 : Int) (x4 : Int) : Option (Int × Bool) :=
 if (ilt x3 x4) = true then
  some (x3, false)
 else
  some ((isub .u64 x3 x4), true)
noncomputable def F_shaper_Shaper_Next_L1 (n1 : Nat) (s1 : List UInt8) (b1 : Bool) (x1 : Int) (x2 : Int) (r1 : List D) (r2 : List D) (x3 : Int) (b2 : Bool) (l1 : List Int) (l2 : List Int) : Int × (List D) × (List D) → Option ((Int × (List D) × (List D)) ⊕ (Int × Int × Int × (List UInt8) × Bool × Int × Bool × (List Int) × (List D)))
 | (i1, r4, r5) =>
  if (ilt i1 (ofN n1)) = true then
   if 0 ≤ i1 ∧ i1 < (ofN n1) then
    bindO (F_shaper_Shaper_view s1 b1 x1 x2 (D.toS (D.fld (D.fld (getD r5 (toN i1)) 0) 0)) (D.toI (D.fld (D.fld (getD r5 (toN i1)) 0) 1)) (D.toI (D.fld (D.fld (getD r5 (toN i1)) 0) 2)) (D.toI (D.fld (D.fld (getD r5 (toN i1)) 0) 3)) (D.toI (D.fld (D.fld (getD r5 (toN i1)) 0) 4)) (D.toB (D.fld (D.fld (getD r5 (toN i1)) 0) 5)) (D.toI (D.fld (D.fld (getD r5 (toN i1)) 1) 0)) (D.toI (D.fld (D.fld (getD r5 (toN i1)) 1) 1)) (D.toI (D.fld (D.fld (getD r5 (toN i1)) 1) 2)) r1 r2 n1 x3 b2 (D.toI (D.fld (D.fld (getD r5 (toN i1)) 2) 0)) (D.toI (D.fld (D.fld (getD r5 (toN i1)) 2) 2)) (D.toI (D.fld (D.fld (getD r5 (toN i1)) 2) 3)) r5 (toN i1) l1 l2 (D.toL (D.fld (D.fld (getD r5 (toN i1)) 2) 1))) fun
    | (y4, c4) =>
     if ((((xlen r4) : Nat) : Int) + (((xlen ([(D.l [(D.i y4), (D.b c4)])] : List D)) : Nat) : Int)) * ((16 : Nat) : Int) ≤ 140737488355328 then
      some (.inl ((iadd .i64 i1 (1 : Int)), (cat r4 ([(D.l [(D.i y4), (D.b c4)])] : List D)), (setD r5 (toN i1) (D.l [(D.l [(D.s (D.toS (D.fld (D.fld (getD r5 (toN i1)) 0) 0))), (D.i (D.toI (D.fld (D.fld (getD r5 (toN i1)) 0) 1))), (D.i (D.toI (D.fld (D.fld (getD r5 (toN i1)) 0) 2))), (D.i (D.toI (D.fld (D.fld (getD r5 (toN i1)) 0) 3))), (D.i (D.toI (D.fld (D.fld (getD r5 (toN i1)) 0) 4))), (D.b (D.toB (D.fld (D.fld (getD r5 (toN i1)) 0) 5)))]), (D.l [(D.i (D.toI (D.fld (D.fld (getD r5 (toN i1)) 1) 0))), (D.i (D.toI (D.fld (D.fld (getD r5 (toN i1)) 1) 1))), (D.i (D.toI (D.fld (D.fld (getD r5 (toN i1)) 1) 2)))]), (D.l [(D.i (D.toI (D.fld (D.fld (getD r5 (toN i1)) 2) 0))), (D.l (D.toL (D.fld (D.fld (getD r5 (toN i1)) 2) 1))), (D.i (D.toI (D.fld (D.fld (getD r5 (toN i1)) 2) 2))), (D.i (D.toI (D.fld (D.fld (getD r5 (toN i1)) 2) 3)))])]))))
     else none
   else none
  else
   bindO (F_drr_Ring_Next r4 x3 b2 l1 l2) fun
   | (y5, y6, c5, m1) =>
    if (ilt y5 (0 : Int)) = true then
     some (.inr ((0 : Int), (0 : Int), (0 : Int), ([] : List UInt8), false, y6, c5, m1, r5))
    else
     if 0 ≤ y5 ∧ y5 < (ofN n1) then
      bindO (F_fifo_Queue_Pop (D.toI (D.fld (D.fld (getD r5 (toN y5)) 2) 0)) (D.toI (D.fld (D.fld (getD r5 (toN y5)) 2) 2)) (D.toI (D.fld (D.fld (getD r5 (toN y5)) 2) 3)) (D.toL (D.fld (D.fld (getD r5 (toN y5)) 2) 1))) fun
      | (y7, y8, y9, c6, y10, y11) =>
       if (D.toB (D.fld (D.fld (getD r5 (toN y5)) 0) 5)) = true then
        bindO (F_bucket_Bucket_Take (D.toI (D.fld (D.fld (getD r5 (toN y5)) 1) 0)) (D.toI (D.fld (D.fld (getD r5 (toN y5)) 1) 1)) (D.toI (D.fld (D.fld (getD r5 (toN y5)) 1) 2)) (iconv .u64 y9)) fun
        | (y12, c7) =>
         some (.inr (y7, y8, y9, (D.toS (D.fld (D.fld (getD r5 (toN y5)) 0) 0)), true, y6, c5, m1, (setD r5 (toN y5) (D.l [(D.l [(D.s (D.toS (D.fld (D.fld (getD r5 (toN y5)) 0) 0))), (D.i (D.toI (D.fld (D.fld (getD r5 (toN y5)) 0) 1))), (D.i (D.toI (D.fld (D.fld (getD r5 (toN y5)) 0) 2))), (D.i (D.toI (D.fld (D.fld (getD r5 (toN y5)) 0) 3))), (D.i (D.toI (D.fld (D.fld (getD r5 (toN y5)) 0) 4))), (D.b (D.toB (D.fld (D.fld (getD r5 (toN y5)) 0) 5)))]), (D.l [(D.i (D.toI (D.fld (D.fld (getD r5 (toN y5)) 1) 0))), (D.i (D.toI (D.fld (D.fld (getD r5 (toN y5)) 1) 1))), (D.i y12)]), (D.l [(D.i (D.toI (D.fld (D.fld (getD r5 (toN y5)) 2) 0))), (D.l (D.toL (D.fld (D.fld (getD r5 (toN y5)) 2) 1))), (D.i y10), (D.i y11)])]))))
       else
        some (.inr (y7, y8, y9, (D.toS (D.fld (D.fld (getD r5 (toN y5)) 0) 0)), true, y6, c5, m1, (setD r5 (toN y5) (D.l [(D.l [(D.s (D.toS (D.fld (D.fld (getD r5 (toN y5)) 0) 0))), (D.i (D.toI (D.fld (D.fld (getD r5 (toN y5)) 0) 1))), (D.i (D.toI (D.fld (D.fld (getD r5 (toN y5)) 0) 2))), (D.i (D.toI (D.fld (D.fld (getD r5 (toN y5)) 0) 3))), (D.i (D.toI (D.fld (D.fld (getD r5 (toN y5)) 0) 4))), (D.b (D.toB (D.fld (D.fld (getD r5 (toN y5)) 0) 5)))]), (D.l [(D.i (D.toI (D.fld (D.fld (getD r5 (toN y5)) 1) 0))), (D.i (D.toI (D.fld (D.fld (getD r5 (toN y5)) 1) 1))), (D.i (D.toI (D.fld (D.fld (getD r5 (toN y5)) 1) 2)))]), (D.l [(D.i (D.toI (D.fld (D.fld (getD r5 (toN y5)) 2) 0))), (D.l (D.toL (D.fld (D.fld (getD r5 (toN y5)) 2) 1))), (D.i y10), (D.i y11)])]))))
     else none
noncomputable def F_shaper_Shaper_Next (s1 : List UInt8) (b1 : Bool) (x1 : Int) (x2 : Int) (r1 : List D) (r2 : List D) (n1 : Nat) (x3 : Int) (b2 : Bool) (r3 : List D) (l1 : List Int) (l2 : List Int) : Option (Int × Int × Int × (List UInt8) × Bool × Int × Bool × (List Int) × (List D)) :=
 iter (F_shaper_Shaper_Next_L1 n1 s1 b1 x1 x2 r1 r2 x3 b2 l1 l2) ((0 : Int), ([] : List D), r3)
noncomputable def F_sat_Mul (x1 : Int) (x2 : Int) : Option (Int) :=
 if (ilt (0 : Int) x1) = true then
  if x1 ≠ 0 then
   if (ilt (iquo .u64 (18446744073709551615 : Int) x1) x2) = true then
    some (18446744073709551615 : Int)
   else
    some (imul .u64 x1 x2)
  else none
 else
  some (imul .u64 x1 x2)
noncomputable def F_sat_Fill (x1 : Int) (x2 : Int) (x3 : Int) (x4 : Int) : Option (Int) :=
 bindO (F_sat_Mul x2 x3) fun
 | y1 =>
  bindO (F_sat_Add x1 y1) fun
  | y2 =>
   some (imax x1 (imin x4 y2))
noncomputable def F_bucket_Bucket_Tick (x1 : Int) (x2 : Int) (x3 : Int) (x4 : Int) : Option (Int) :=
 bindO (F_sat_Fill x3 x1 x4 x2) fun
 | y1 =>
  some y1
noncomputable def F_shaper_Shaper_Tick_L1 (n1 : Nat) (x1 : Int) : Int × (List D) → Option ((Int × (List D)) ⊕ ((List D)))
 | (i1, r4) =>
  if (ilt i1 (ofN n1)) = true then
   if 0 ≤ i1 ∧ i1 < (ofN n1) then
    bindO (F_bucket_Bucket_Tick (D.toI (D.fld (D.fld (getD r4 (toN i1)) 1) 0)) (D.toI (D.fld (D.fld (getD r4 (toN i1)) 1) 1)) (D.toI (D.fld (D.fld (getD r4 (toN i1)) 1) 2)) x1) fun
    | y4 =>
     some (.inl ((iadd .i64 i1 (1 : Int)), (setD r4 (toN i1) (D.l [(D.l [(D.s (D.toS (D.fld (D.fld (getD r4 (toN i1)) 0) 0))), (D.i (D.toI (D.fld (D.fld (getD r4 (toN i1)) 0) 1))), (D.i (D.toI (D.fld (D.fld (getD r4 (toN i1)) 0) 2))), (D.i (D.toI (D.fld (D.fld (getD r4 (toN i1)) 0) 3))), (D.i (D.toI (D.fld (D.fld (getD r4 (toN i1)) 0) 4))), (D.b (D.toB (D.fld (D.fld (getD r4 (toN i1)) 0) 5)))]), (D.l [(D.i (D.toI (D.fld (D.fld (getD r4 (toN i1)) 1) 0))), (D.i (D.toI (D.fld (D.fld (getD r4 (toN i1)) 1) 1))), (D.i y4)]), (D.l [(D.i (D.toI (D.fld (D.fld (getD r4 (toN i1)) 2) 0))), (D.l (D.toL (D.fld (D.fld (getD r4 (toN i1)) 2) 1))), (D.i (D.toI (D.fld (D.fld (getD r4 (toN i1)) 2) 2))), (D.i (D.toI (D.fld (D.fld (getD r4 (toN i1)) 2) 3)))])]))))
   else none
  else
   some (.inr r4)
noncomputable def F_shaper_Shaper_Tick (x1 : Int) (s1 : List UInt8) (b1 : Bool) (x2 : Int) (x3 : Int) (r1 : List D) (r2 : List D) (n1 : Nat) (x4 : Int) (b2 : Bool) (r3 : List D) (l1 : List Int) (l2 : List Int) : Option ((List D)) :=
 iter (F_shaper_Shaper_Tick_L1 n1 x1) ((0 : Int), r3)
noncomputable def F_shaper_Shaper_Len_L1 (n1 : Nat) : Int × Int × (List D) → Option ((Int × Int × (List D)) ⊕ (Int × (List D)))
 | (i1, i2, r4) =>
  if (ilt i2 (ofN n1)) = true then
   if 0 ≤ i2 ∧ i2 < (ofN n1) then
    bindO (F_fifo_Queue_Len (D.toI (D.fld (D.fld (getD r4 (toN i2)) 2) 0)) (D.toI (D.fld (D.fld (getD r4 (toN i2)) 2) 2)) (D.toI (D.fld (D.fld (getD r4 (toN i2)) 2) 3)) (D.toL (D.fld (D.fld (getD r4 (toN i2)) 2) 1))) fun
    | () =>
     some (.inl ((iadd .i64 i1 (D.toI (D.fld (D.fld (getD r4 (toN i2)) 2) 3))), (iadd .i64 i2 (1 : Int)), (setD r4 (toN i2) (D.l [(D.l [(D.s (D.toS (D.fld (D.fld (getD r4 (toN i2)) 0) 0))), (D.i (D.toI (D.fld (D.fld (getD r4 (toN i2)) 0) 1))), (D.i (D.toI (D.fld (D.fld (getD r4 (toN i2)) 0) 2))), (D.i (D.toI (D.fld (D.fld (getD r4 (toN i2)) 0) 3))), (D.i (D.toI (D.fld (D.fld (getD r4 (toN i2)) 0) 4))), (D.b (D.toB (D.fld (D.fld (getD r4 (toN i2)) 0) 5)))]), (D.l [(D.i (D.toI (D.fld (D.fld (getD r4 (toN i2)) 1) 0))), (D.i (D.toI (D.fld (D.fld (getD r4 (toN i2)) 1) 1))), (D.i (D.toI (D.fld (D.fld (getD r4 (toN i2)) 1) 2)))]), (D.l [(D.i (D.toI (D.fld (D.fld (getD r4 (toN i2)) 2) 0))), (D.l (D.toL (D.fld (D.fld (getD r4 (toN i2)) 2) 1))), (D.i (D.toI (D.fld (D.fld (getD r4 (toN i2)) 2) 2))), (D.i (D.toI (D.fld (D.fld (getD r4 (toN i2)) 2) 3)))])]))))
   else none
  else
   some (.inr (i1, r4))
noncomputable def F_shaper_Shaper_Len (s1 : List UInt8) (b1 : Bool) (x1 : Int) (x2 : Int) (r1 : List D) (r2 : List D) (n1 : Nat) (x3 : Int) (b2 : Bool) (r3 : List D) (l1 : List Int) (l2 : List Int) : Option (Int × (List D)) :=
 iter (F_shaper_Shaper_Len_L1 n1) ((0 : Int), (0 : Int), r3)
noncomputable def F_drr_copied (x1 : Int) (b1 : Bool) (l1 : List Int) : Option ((List Int)) :=
 if 0 ≤ (ofN (xlen l1)) ∧ (ofN (xlen l1)) ≤ (ofN (xlen l1)) ∧ (ofN (xlen l1)) * ((8 : Nat) : Int) ≤ 140737488355328 ∧ (ofN (xlen l1)) ≤ 9223372036854775807 then
  some (lspl (@lrep Int (toN (ofN (xlen l1))) (0 : Int)) 0 (lsub l1 0 (nmin (xlen (@lrep Int (toN (ofN (xlen l1))) (0 : Int))) (xlen l1))))
 else none
noncomputable def F_drr_Ring_State (x1 : Int) (b1 : Bool) (l1 : List Int) (l2 : List Int) : Option ((List Int)) :=
 bindO (F_drr_copied x1 b1 l2) fun
 | m1 =>
  some m1
noncomputable def F_fifo_Queue_All_L1 (x3 : Int) (x1 : Int) (x2 : Int) (r1 : List D) : Int × (List D) → Option ((Int × (List D)) ⊕ ((List D)))
 | (i1, r2) =>
  if (ilt i1 x3) = true then
   bindO (F_fifo_Queue_at i1 x1 x2 x3 r1) fun
   | y4 =>
    if 0 ≤ y4 ∧ y4 < (ofN (xlen r1)) then
     if ((((xlen r2) : Nat) : Int) + (((xlen ([(D.l [(D.i (D.toI (D.fld (getD r1 (toN y4)) 0))), (D.i (D.toI (D.fld (getD r1 (toN y4)) 1))), (D.i (D.toI (D.fld (getD r1 (toN y4)) 2)))])] : List D)) : Nat) : Int)) * ((24 : Nat) : Int) ≤ 140737488355328 then
      some (.inl ((iadd .i64 i1 (1 : Int)), (cat r2 ([(D.l [(D.i (D.toI (D.fld (getD r1 (toN y4)) 0))), (D.i (D.toI (D.fld (getD r1 (toN y4)) 1))), (D.i (D.toI (D.fld (getD r1 (toN y4)) 2)))])] : List D))))
     else none
    else none
  else
   some (.inr r2)
noncomputable def F_fifo_Queue_All (x1 : Int) (x2 : Int) (x3 : Int) (r1 : List D) : Option ((List D)) :=
 bindO (F_fifo_Queue_Len x1 x2 x3 r1) fun
 | () =>
  iter (F_fifo_Queue_All_L1 x3 x1 x2 r1) ((0 : Int), ([] : List D))
noncomputable def F_shaper_Shaper_queues_L1 (n1 : Nat) : Int × (List D) × (List D) → Option ((Int × (List D) × (List D)) ⊕ ((List D) × (List D)))
 | (i1, r4, r5) =>
  if (ilt i1 (ofN n1)) = true then
   if 0 ≤ i1 ∧ i1 < (ofN n1) then
    bindO (F_fifo_Queue_All (D.toI (D.fld (D.fld (getD r5 (toN i1)) 2) 0)) (D.toI (D.fld (D.fld (getD r5 (toN i1)) 2) 2)) (D.toI (D.fld (D.fld (getD r5 (toN i1)) 2) 3)) (D.toL (D.fld (D.fld (getD r5 (toN i1)) 2) 1))) fun
    | q4 =>
     if ((((xlen r4) : Nat) : Int) + (((xlen ([(D.l q4)] : List D)) : Nat) : Int)) * ((24 : Nat) : Int) ≤ 140737488355328 then
      some (.inl ((iadd .i64 i1 (1 : Int)), (cat r4 ([(D.l q4)] : List D)), (setD r5 (toN i1) (D.l [(D.l [(D.s (D.toS (D.fld (D.fld (getD r5 (toN i1)) 0) 0))), (D.i (D.toI (D.fld (D.fld (getD r5 (toN i1)) 0) 1))), (D.i (D.toI (D.fld (D.fld (getD r5 (toN i1)) 0) 2))), (D.i (D.toI (D.fld (D.fld (getD r5 (toN i1)) 0) 3))), (D.i (D.toI (D.fld (D.fld (getD r5 (toN i1)) 0) 4))), (D.b (D.toB (D.fld (D.fld (getD r5 (toN i1)) 0) 5)))]), (D.l [(D.i (D.toI (D.fld (D.fld (getD r5 (toN i1)) 1) 0))), (D.i (D.toI (D.fld (D.fld (getD r5 (toN i1)) 1) 1))), (D.i (D.toI (D.fld (D.fld (getD r5 (toN i1)) 1) 2)))]), (D.l [(D.i (D.toI (D.fld (D.fld (getD r5 (toN i1)) 2) 0))), (D.l (D.toL (D.fld (D.fld (getD r5 (toN i1)) 2) 1))), (D.i (D.toI (D.fld (D.fld (getD r5 (toN i1)) 2) 2))), (D.i (D.toI (D.fld (D.fld (getD r5 (toN i1)) 2) 3)))])]))))
     else none
   else none
  else
   some (.inr (r4, r5))
noncomputable def F_shaper_Shaper_queues (s1 : List UInt8) (b1 : Bool) (x1 : Int) (x2 : Int) (r1 : List D) (r2 : List D) (n1 : Nat) (x3 : Int) (b2 : Bool) (r3 : List D) (l1 : List Int) (l2 : List Int) : Option ((List D) × (List D)) :=
 iter (F_shaper_Shaper_queues_L1 n1) ((0 : Int), ([] : List D), r3)
noncomputable def F_shaper_Shaper_Snap_L1 (n1 : Nat) (m1 : List Int) (q1 : List D) : Int × (List D) × (List Int) → Option ((Int × (List D) × (List Int)) ⊕ ((List Int) × (List Int) × (List D) × (List D)))
 | (i1, r4, l3) =>
  if (ilt i1 (ofN n1)) = true then
   if 0 ≤ i1 ∧ i1 < (ofN n1) then
    if ((((xlen l3) : Nat) : Int) + (((xlen ([(D.toI (D.fld (D.fld (getD r4 (toN i1)) 1) 2))] : List Int)) : Nat) : Int)) * ((8 : Nat) : Int) ≤ 140737488355328 then
     some (.inl ((iadd .i64 i1 (1 : Int)), (setD r4 (toN i1) (D.l [(D.l [(D.s (D.toS (D.fld (D.fld (getD r4 (toN i1)) 0) 0))), (D.i (D.toI (D.fld (D.fld (getD r4 (toN i1)) 0) 1))), (D.i (D.toI (D.fld (D.fld (getD r4 (toN i1)) 0) 2))), (D.i (D.toI (D.fld (D.fld (getD r4 (toN i1)) 0) 3))), (D.i (D.toI (D.fld (D.fld (getD r4 (toN i1)) 0) 4))), (D.b (D.toB (D.fld (D.fld (getD r4 (toN i1)) 0) 5)))]), (D.l [(D.i (D.toI (D.fld (D.fld (getD r4 (toN i1)) 1) 0))), (D.i (D.toI (D.fld (D.fld (getD r4 (toN i1)) 1) 1))), (D.i (D.toI (D.fld (D.fld (getD r4 (toN i1)) 1) 2)))]), (D.l [(D.i (D.toI (D.fld (D.fld (getD r4 (toN i1)) 2) 0))), (D.l (D.toL (D.fld (D.fld (getD r4 (toN i1)) 2) 1))), (D.i (D.toI (D.fld (D.fld (getD r4 (toN i1)) 2) 2))), (D.i (D.toI (D.fld (D.fld (getD r4 (toN i1)) 2) 3)))])])), (cat l3 ([(D.toI (D.fld (D.fld (getD r4 (toN i1)) 1) 2))] : List Int))))
    else none
   else none
  else
   some (.inr (l3, m1, q1, r4))
noncomputable def F_shaper_Shaper_Snap (s1 : List UInt8) (b1 : Bool) (x1 : Int) (x2 : Int) (r1 : List D) (r2 : List D) (n1 : Nat) (x3 : Int) (b2 : Bool) (r3 : List D) (l1 : List Int) (l2 : List Int) : Option ((List Int) × (List Int) × (List D) × (List D)) :=
 bindO (F_drr_Ring_State x3 b2 l1 l2) fun
 | m1 =>
  bindO (F_shaper_Shaper_queues s1 b1 x1 x2 r1 r2 n1 x3 b2 r3 l1 l2) fun
  | (q1, q2) =>
   iter (F_shaper_Shaper_Snap_L1 n1 m1 q1) ((0 : Int), q2, ([] : List Int))
noncomputable def F_slices_EqualC_L1 (r1 : List D) (r2 : List D) : Int → Option ((Int) ⊕ (Bool))
 | i1 =>
  if (ilt i1 (ofN (xlen r1))) = true then
   if 0 ≤ i1 ∧ i1 < (ofN (xlen r1)) then
    if 0 ≤ i1 ∧ i1 < (ofN (xlen r2)) then
     if (band (seq (D.toS (D.fld (getD r1 (toN i1)) 0)) (D.toS (D.fld (getD r2 (toN i1)) 0))) (band (ieq (D.toI (D.fld (getD r1 (toN i1)) 1)) (D.toI (D.fld (getD r2 (toN i1)) 1))) (band (ieq (D.toI (D.fld (getD r1 (toN i1)) 2)) (D.toI (D.fld (getD r2 (toN i1)) 2))) (band (ieq (D.toI (D.fld (getD r1 (toN i1)) 3)) (D.toI (D.fld (getD r2 (toN i1)) 3))) (band (ieq (D.toI (D.fld (getD r1 (toN i1)) 4)) (D.toI (D.fld (getD r2 (toN i1)) 4))) (band (beq2 (D.toB (D.fld (getD r1 (toN i1)) 5)) (D.toB (D.fld (getD r2 (toN i1)) 5))) true)))))) = true then
      some (.inl (iadd .i64 i1 (1 : Int)))
     else
      some (.inr false)
    else none
   else none
  else
   some (.inr true)
noncomputable def F_slices_EqualC (r1 : List D) (r2 : List D) : Option (Bool) :=
 if (ieq (ofN (xlen r1)) (ofN (xlen r2))) = true then
  iter (F_slices_EqualC_L1 r1 r2) (0 : Int)
 else
  some false
noncomputable def F_slices_EqualR_L1 (r1 : List D) (r2 : List D) : Int → Option ((Int) ⊕ (Bool))
 | i1 =>
  if (ilt i1 (ofN (xlen r1))) = true then
   if 0 ≤ i1 ∧ i1 < (ofN (xlen r1)) then
    if 0 ≤ i1 ∧ i1 < (ofN (xlen r2)) then
     if (band (ieq (D.toI (D.fld (getD r1 (toN i1)) 0)) (D.toI (D.fld (getD r2 (toN i1)) 0))) (band (ieq (D.toI (D.fld (getD r1 (toN i1)) 1)) (D.toI (D.fld (getD r2 (toN i1)) 1))) (band (ieq (D.toI (D.fld (getD r1 (toN i1)) 2)) (D.toI (D.fld (getD r2 (toN i1)) 2))) true))) = true then
      some (.inl (iadd .i64 i1 (1 : Int)))
     else
      some (.inr false)
    else none
   else none
  else
   some (.inr true)
noncomputable def F_slices_EqualR (r1 : List D) (r2 : List D) : Option (Bool) :=
 if (ieq (ofN (xlen r1)) (ofN (xlen r2))) = true then
  iter (F_slices_EqualR_L1 r1 r2) (0 : Int)
 else
  some false
noncomputable def F_plan_Same (s1 : List UInt8) (b1 : Bool) (x1 : Int) (s2 : List UInt8) (b2 : Bool) (x2 : Int) (r1 : List D) (r2 : List D) (r3 : List D) : Option (Bool) :=
 if (seq s1 s2) = true then
  if (beq2 b1 b2) = true then
   bindO (F_slices_EqualC r1 r2) fun
   | c1 =>
    if c1 = true then
     bindO (F_slices_EqualR ([] : List D) r3) fun
     | c2 =>
      if c2 = true then
       some (ieq x1 x2)
      else
       some false
    else
     some false
  else
   some false
 else
  some false
noncomputable def F_shaper_Shaper_Apply (s1 : List UInt8) (b1 : Bool) (x1 : Int) (b2 : Bool) (s2 : List UInt8) (b3 : Bool) (x2 : Int) (x3 : Int) (r1 : List D) (r2 : List D) (r3 : List D) (n1 : Nat) (x4 : Int) (b4 : Bool) (r4 : List D) (l1 : List Int) (l2 : List Int) : Option (Int) :=
 bindO (F_shaper_Right s1 b1 x1 r1) fun
 | c1 =>
  if c1 = true then
   bindO (F_plan_Same s1 b1 x1 s2 b3 x2 r1 r2 r3) fun
   | c2 =>
    if c2 = true then
     some (0 : Int)
    else
     none
  else
   some (1 : Int)
noncomputable def F_shaper_own_2 (s1 : List UInt8) (b1 : Bool) (x1 : Int) (r1 : List D) (r2 : List D) : Option ((List D) × (List D)) :=
 bindO (cloneC r1) fun
 | q1 =>
  bindO (cloneR r2) fun
  | q2 =>
   some (q1, q2)
noncomputable def F_shaper_Shaper_Port (s1 : List UInt8) (b1 : Bool) (x1 : Int) (x2 : Int) (r1 : List D) (r2 : List D) (n1 : Nat) (x3 : Int) (b2 : Bool) (r3 : List D) (l1 : List Int) (l2 : List Int) : Option ((List D) × (List D)) :=
 bindO (F_shaper_own_2 s1 b1 x1 r1 r2) fun
 | (q1, q2) =>
  some (q1, q2)
noncomputable def F_shaper_Right_2_L2 : Unit → Option ((Unit) ⊕ (Bool))
 | () =>
  if (ilt (0 : Int) (ofN 0)) = true then
   none
  else
   some (.inr true)
noncomputable def F_shaper_Right_2_L1 : Unit → Option ((Unit) ⊕ (Bool))
 | () =>
  if (ilt (0 : Int) (ofN 0)) = true then
   none
  else
   Option.map (fun t => (.inr t)) (iter F_shaper_Right_2_L2 ())
noncomputable def F_shaper_Right_2 (s1 : List UInt8) (b1 : Bool) (x1 : Int) : Option (Bool) :=
 if (ilt (ofN 0) (1 : Int)) = true then
  some false
 else
  if (ilt (8 : Int) (ofN 0)) = true then
   some false
  else
   bindO (F_shaper_RightIn x1 (ofN 0)) fun
   | c1 =>
    if c1 = true then
     iter F_shaper_Right_2_L1 ()
    else
     some false
noncomputable def F_snap_Snap_queue_L1 (r1 : List D) (x1 : Int) : Int × Int → Option ((Int × Int) ⊕ (Bool))
 | (i1, i2) =>
  if (ilt i2 (ofN (xlen r1))) = true then
   if 0 ≤ i2 ∧ i2 < (ofN (xlen r1)) then
    if (ilt (D.toI (D.fld (getD r1 (toN i2)) 1)) (0 : Int)) = true then
     some (.inr false)
    else
     if (ilt (65535 : Int) (D.toI (D.fld (getD r1 (toN i2)) 1))) = true then
      some (.inr false)
     else
      if (ilt (D.toI (D.fld (getD r1 (toN i2)) 2)) (1 : Int)) = true then
       some (.inr false)
      else
       if (ilt (1500 : Int) (D.toI (D.fld (getD r1 (toN i2)) 2))) = true then
        some (.inr false)
       else
        if (ile (D.toI (D.fld (getD r1 (toN i2)) 0)) i1) = true then
         some (.inr false)
        else
         if (ilt x1 (D.toI (D.fld (getD r1 (toN i2)) 0))) = true then
          some (.inr false)
         else
          some (.inl ((D.toI (D.fld (getD r1 (toN i2)) 0)), (iadd .i64 i2 (1 : Int))))
   else none
  else
   some (.inr true)
noncomputable def F_snap_Snap_queue (x1 : Int) (x2 : Int) (b1 : Bool) (r1 : List D) : Option (Bool) :=
 iter (F_snap_Snap_queue_L1 r1 x1) ((0 : Int), (0 : Int))
noncomputable def F_snap_RightIn (r1 : List D) (x1 : Int) (x2 : Int) (b1 : Bool) : Option (Bool) :=
 bindO (F_snap_Snap_queue x1 x2 b1 r1) fun
 | c1 =>
  some (bnot c1)
noncomputable def F_slices_IndexFuncQ_L1 (r1 : List D) (x1 : Int) (x2 : Int) (b1 : Bool) : Int → Option ((Int) ⊕ (Int))
 | i1 =>
  if (ilt i1 (ofN (xlen r1))) = true then
   if 0 ≤ i1 ∧ i1 < (ofN (xlen r1)) then
    bindO (F_snap_RightIn (D.toL (getD r1 (toN i1))) x1 x2 b1) fun
    | c3 =>
     if c3 = true then
      some (.inr i1)
     else
      some (.inl (iadd .i64 i1 (1 : Int)))
   else none
  else
   some (.inr (-1 : Int))
noncomputable def F_slices_IndexFuncQ (r1 : List D) (x1 : Int) (x2 : Int) (b1 : Bool) : Option (Int) :=
 iter (F_slices_IndexFuncQ_L1 r1 x1 x2 b1) (0 : Int)
noncomputable def F_slices_ContainsFunc (r1 : List D) (x1 : Int) (x2 : Int) (b1 : Bool) : Option (Bool) :=
 bindO (F_slices_IndexFuncQ r1 x1 x2 b1) fun
 | y1 =>
  some (ile (0 : Int) y1)
noncomputable def F_snap_Right (x1 : Int) (x2 : Int) (b1 : Bool) : Option (Bool) :=
 if (ilt (8 : Int) (ofN 0)) = true then
  some false
 else
  if (ieq (ofN 0) (ofN 0)) = true then
   if (ieq (ofN 0) (ofN 0)) = true then
    if (ilt x2 (0 : Int)) = true then
     some false
    else
     if (ile (imax (ofN 0) (1 : Int)) x2) = true then
      some false
     else
      bindO (F_slices_ContainsFunc ([] : List D) x1 x2 b1) fun
      | c1 =>
       some (bnot c1)
   else
    none
  else
   some false
noncomputable def F_drr_copied_2 (x1 : Int) (b1 : Bool) : Option ((List Int)) :=
 if 0 ≤ (ofN 0) ∧ (ofN 0) ≤ (ofN 0) ∧ (ofN 0) * ((8 : Nat) : Int) ≤ 140737488355328 ∧ (ofN 0) ≤ 9223372036854775807 then
  some (@lrep Int (toN (ofN 0)) (0 : Int))
 else none
noncomputable def F_drr_Ring_Restore (x1 : Int) (b1 : Bool) (x2 : Int) (b2 : Bool) (l1 : List Int) (l2 : List Int) : Option (Bool × Int × Bool × (List Int)) :=
 if (ieq (ofN 0) (ofN (xlen l1))) = true then
  if (ilt x1 (0 : Int)) = true then
   some (false, x2, b2, l2)
  else
   if (ile (imax (ofN 0) (1 : Int)) x1) = true then
    some (false, x2, b2, l2)
   else
    bindO (F_drr_copied_2 x1 b1) fun
    | m1 =>
     some (true, x1, b1, m1)
 else
  some (false, x2, b2, l2)
noncomputable def F_shaper_Shaper_Restore_L1 (n1 : Nat) (x1 : Int) (y1 : Int) (c3 : Bool) (m1 : List Int) : Unit → Option ((Unit) ⊕ (Int × Int × Int × Bool × (List Int)))
 | () =>
  if (ilt (0 : Int) (ofN n1)) = true then
   none
  else
   some (.inr ((0 : Int), x1, y1, c3, m1))
noncomputable def F_shaper_Shaper_Restore (x1 : Int) (x2 : Int) (b1 : Bool) (s1 : List UInt8) (b2 : Bool) (x3 : Int) (x4 : Int) (r1 : List D) (r2 : List D) (n1 : Nat) (x5 : Int) (b3 : Bool) (r3 : List D) (l1 : List Int) (l2 : List Int) : Option (Int × Int × Int × Bool × (List Int)) :=
 bindO (F_snap_Right x1 x2 b1) fun
 | c1 =>
  if c1 = true then
   if (ieq (ofN 0) (ofN n1)) = true then
    bindO (F_drr_Ring_Restore x2 b1 x5 b3 l1 l2) fun
    | (c2, y1, c3, m1) =>
     iter (F_shaper_Shaper_Restore_L1 n1 x1 y1 c3 m1) ()
   else
    some ((1 : Int), x4, x5, b3, l2)
  else
   some ((1 : Int), x4, x5, b3, l2)
noncomputable def F_tollbarlaw27_awake : Option (Bool) :=
 bindO (F_shaper_New ([112] : List UInt8) true (0 : Int) ([(D.l [(D.s ([120] : List UInt8)), (D.i (1500 : Int)), (D.i (10 : Int)), (D.i (100 : Int)), (D.i (2 : Int)), (D.b true)])] : List D)) fun
 | (.inl ()) =>
  some false
 | (.inr (q1, q2, k1, q3, m1, m2)) =>
  bindO (F_shaper_Shaper_Arrive (1 : Int) (60 : Int) ([112] : List UInt8) true (0 : Int) (0 : Int) q1 q2 k1 (0 : Int) false q3 m1 m2) fun
  | (y1, y2, y3, y4, y5, q4) =>
   bindO (F_shaper_Shaper_Arrive (2 : Int) (70 : Int) ([112] : List UInt8) true (0 : Int) y5 q1 q2 k1 (0 : Int) false q4 m1 m2) fun
   | (y6, y7, y8, y9, y10, q5) =>
    bindO (F_shaper_Shaper_Arrive (1 : Int) (5 : Int) ([112] : List UInt8) true (0 : Int) y10 q1 q2 k1 (0 : Int) false q5 m1 m2) fun
    | (y11, y12, y13, y14, y15, q6) =>
     bindO (F_shaper_Shaper_Next ([112] : List UInt8) true (0 : Int) y15 q1 q2 k1 (0 : Int) false q6 m1 m2) fun
     | (y16, y17, y18, t1, c1, y19, c2, m3, q7) =>
      bindO (F_shaper_Shaper_Next ([112] : List UInt8) true (0 : Int) y15 q1 q2 k1 y19 c2 q7 m1 m3) fun
      | (y20, y21, y22, t2, c3, y23, c4, m4, q8) =>
       bindO (F_shaper_Shaper_Tick (3 : Int) ([112] : List UInt8) true (0 : Int) y15 q1 q2 k1 y23 c4 q8 m1 m4) fun
       | q9 =>
        bindO (F_shaper_Shaper_Next ([112] : List UInt8) true (0 : Int) y15 q1 q2 k1 y23 c4 q9 m1 m4) fun
        | (y24, y25, y26, t3, c5, y27, c6, m5, q10) =>
         if (ieq y1 (1 : Int)) = true then
          if (ieq y4 (0 : Int)) = true then
           if (ieq y9 (0 : Int)) = true then
            if (ieq y14 (35 : Int)) = true then
             if (band (ieq y16 y1) (band (ieq y17 y2) (band (ieq y18 y3) true))) = true then
              if (seq t1 ([120] : List UInt8)) = true then
               if c1 = true then
                if c3 = true then
                 some false
                else
                 if c5 = true then
                  if (ieq y25 (2 : Int)) = true then
                   bindO (F_shaper_Shaper_Len ([112] : List UInt8) true (0 : Int) y15 q1 q2 k1 y27 c6 q10 m1 m5) fun
                   | (y28, q11) =>
                    if (ieq y28 (0 : Int)) = true then
                     bindO (F_shaper_Shaper_Snap ([112] : List UInt8) true (0 : Int) y15 q1 q2 k1 y27 c6 q11 m1 m5) fun
                     | (m6, m7, q12, q13) =>
                      if (ieq (ofN (xlen m6)) (1 : Int)) = true then
                       bindO (F_shaper_Shaper_Apply ([112] : List UInt8) true (0 : Int) false ([112] : List UInt8) true (0 : Int) y15 ([(D.l [(D.s ([120] : List UInt8)), (D.i (1500 : Int)), (D.i (10 : Int)), (D.i (100 : Int)), (D.i (2 : Int)), (D.b true)])] : List D) q1 q2 k1 y27 c6 q13 m1 m5) fun
                       | y29 =>
                        if (ieq y29 (0 : Int)) = true then
                         bindO (F_shaper_Shaper_Port ([112] : List UInt8) true (0 : Int) y15 q1 q2 k1 y27 c6 q13 m1 m5) fun
                         | (q14, q15) =>
                          if (seq ([112] : List UInt8) ([112] : List UInt8)) = true then
                           bindO (F_shaper_Right ([112] : List UInt8) true (0 : Int) ([(D.l [(D.s ([120] : List UInt8)), (D.i (1500 : Int)), (D.i (10 : Int)), (D.i (100 : Int)), (D.i (2 : Int)), (D.b true)])] : List D)) fun
                           | c7 =>
                            if c7 = true then
                             bindO (F_shaper_Right_2 ([] : List UInt8) false (0 : Int)) fun
                             | c8 =>
                              if c8 = true then
                               some false
                              else
                               bindO (F_shaper_Shaper_Restore (0 : Int) (0 : Int) false ([112] : List UInt8) true (0 : Int) y15 q1 q2 k1 y27 c6 q13 m1 m5) fun
                               | (y30, y31, y32, c9, m8) =>
                                some (ieq y30 (1 : Int))
                            else
                             some false
                          else
                           some false
                        else
                         some false
                      else
                       some false
                    else
                     some false
                  else
                   some false
                 else
                  some false
               else
                some false
              else
               some false
             else
              some false
            else
             some false
           else
            some false
          else
           some false
         else
          some false
noncomputable def F_tollbarlaw27_few_L1 (r1 : List D) (r2 : List D) : Int → Option ((Int) ⊕ (Bool))
 | i1 =>
  if (ilt i1 (ofN (xlen r1))) = true then
   if 0 ≤ i1 ∧ i1 < (ofN (xlen r1)) then
    if (ilt (20 : Int) (ofN (xlen (D.toL (D.fld (getD r1 (toN i1)) 2))))) = true then
     some (.inr false)
    else
     if 0 ≤ i1 ∧ i1 < (ofN (xlen r1)) then
      if (ilt (40 : Int) (ofN (xlen (D.toL (D.fld (D.fld (getD r1 (toN i1)) 3) 0))))) = true then
       some (.inr false)
      else
       some (.inl (iadd .i64 i1 (1 : Int)))
     else none
   else none
  else
   if (ilt (0 : Int) (ofN (xlen r1))) = true then
    if (ile (ofN (xlen r1)) (10 : Int)) = true then
     some (.inr (ile (ofN (xlen r2)) (300 : Int)))
    else
     some (.inr false)
   else
    some (.inr false)
noncomputable def F_tollbarlaw27_few (r1 : List D) (r2 : List D) : Option (Bool) :=
 iter (F_tollbarlaw27_few_L1 r1 r2) (0 : Int)
noncomputable def F_shaper_Right_3_L2 (r2 : List D) (r1 : List D) : Int → Option ((Int) ⊕ (Bool))
 | i2 =>
  if (ilt i2 (ofN (xlen r2))) = true then
   if 0 ≤ i2 ∧ i2 < (ofN (xlen r2)) then
    bindO (F_shaper_RightIn (D.toI (D.fld (getD r2 (toN i2)) 2)) (ofN (xlen r1))) fun
    | c4 =>
     if c4 = true then
      some (.inl (iadd .i64 i2 (1 : Int)))
     else
      some (.inr false)
   else none
  else
   some (.inr true)
noncomputable def F_shaper_Right_3_L1 (r1 : List D) (r2 : List D) : Int → Option ((Int) ⊕ (Bool))
 | i1 =>
  if (ilt i1 (ofN (xlen r1))) = true then
   if 0 ≤ i1 ∧ i1 < (ofN (xlen r1)) then
    if (ilt (D.toI (D.fld (getD r1 (toN i1)) 1)) (1500 : Int)) = true then
     some (.inr false)
    else
     if (ilt (D.toI (D.fld (getD r1 (toN i1)) 4)) (1 : Int)) = true then
      some (.inr false)
     else
      if (ilt (64 : Int) (D.toI (D.fld (getD r1 (toN i1)) 4))) = true then
       some (.inr false)
      else
       if (ilt (0 : Int) i1) = true then
        if 0 ≤ (isub .i64 i1 (1 : Int)) ∧ (isub .i64 i1 (1 : Int)) < (ofN (xlen r1)) then
         if (slt (D.toS (D.fld (getD r1 (toN (isub .i64 i1 (1 : Int)))) 0)) (D.toS (D.fld (getD r1 (toN i1)) 0))) = true then
          some (.inl (iadd .i64 i1 (1 : Int)))
         else
          some (.inr false)
        else none
       else
        some (.inl (iadd .i64 i1 (1 : Int)))
   else none
  else
   Option.map (fun t => (.inr t)) (iter (F_shaper_Right_3_L2 r2 r1) (0 : Int))
noncomputable def F_shaper_Right_3 (s1 : List UInt8) (b1 : Bool) (r1 : List D) (r2 : List D) (x1 : Int) : Option (Bool) :=
 if (ilt (ofN (xlen r1)) (1 : Int)) = true then
  some false
 else
  if (ilt (8 : Int) (ofN (xlen r1))) = true then
   some false
  else
   bindO (F_shaper_RightIn x1 (ofN (xlen r1))) fun
   | c1 =>
    if c1 = true then
     iter (F_shaper_Right_3_L1 r1 r2) (0 : Int)
    else
     some false
noncomputable def F_shaper_own_3 (s1 : List UInt8) (b1 : Bool) (r1 : List D) (r2 : List D) (x1 : Int) : Option ((List D) × (List D)) :=
 bindO (cloneC r1) fun
 | q1 =>
  bindO (cloneR r2) fun
  | q2 =>
   some (q1, q2)
noncomputable def F_shaper_Shaper_by_2_L1 (r1 : List D) (q1 : List D) (q2 : List D) : Int × (List Int) × Nat × (List D) → Option ((Int × (List Int) × Nat × (List D)) ⊕ ((List D) × (List D) × Nat × (List D) × (List Int) × (List Int)))
 | (i1, l1, n1, r3) =>
  if (ilt i1 (ofN (xlen r1))) = true then
   if 0 ≤ i1 ∧ i1 < (ofN (xlen r1)) then
    bindO (F_bucket_New (D.toI (D.fld (getD r1 (toN i1)) 2)) (D.toI (D.fld (getD r1 (toN i1)) 3))) fun
    | () =>
     bindO (F_fifo_New (D.toI (D.fld (getD r1 (toN i1)) 4))) fun
     | () =>
      if (((n1 : Nat) : Int) + 1) * ((8 : Nat) : Int) ≤ 140737488355328 then
       if ((((xlen l1) : Nat) : Int) + (((xlen ([(D.toI (D.fld (getD r1 (toN i1)) 1))] : List Int)) : Nat) : Int)) * ((8 : Nat) : Int) ≤ 140737488355328 then
        some (.inl ((iadd .i64 i1 (1 : Int)), (cat l1 ([(D.toI (D.fld (getD r1 (toN i1)) 1))] : List Int)), (nadd n1 1), (cat r3 ([(D.l [(D.l [(D.s (D.toS (D.fld (getD r1 (toN i1)) 0))), (D.i (D.toI (D.fld (getD r1 (toN i1)) 1))), (D.i (D.toI (D.fld (getD r1 (toN i1)) 2))), (D.i (D.toI (D.fld (getD r1 (toN i1)) 3))), (D.i (D.toI (D.fld (getD r1 (toN i1)) 4))), (D.b (D.toB (D.fld (getD r1 (toN i1)) 5)))]), (D.l [(D.i (D.toI (D.fld (getD r1 (toN i1)) 2))), (D.i (D.toI (D.fld (getD r1 (toN i1)) 3))), (D.i (D.toI (D.fld (getD r1 (toN i1)) 3)))]), (D.l [(D.i (D.toI (D.fld (getD r1 (toN i1)) 4))), (D.l ([] : List D)), (D.i (0 : Int)), (D.i (0 : Int))])])] : List D))))
       else none
      else none
   else none
  else
   bindO (F_drr_New l1) fun
   | (m1, m2) =>
    some (.inr (q1, q2, n1, r3, m1, m2))
noncomputable def F_shaper_Shaper_by_2 (s1 : List UInt8) (b1 : Bool) (r1 : List D) (r2 : List D) (x1 : Int) (s2 : List UInt8) (b2 : Bool) (x2 : Int) (x3 : Int) : Option ((List D) × (List D) × Nat × (List D) × (List Int) × (List Int)) :=
 bindO (F_shaper_own_3 s1 b1 r1 r2 x1) fun
 | (q1, q2) =>
  iter (F_shaper_Shaper_by_2_L1 r1 q1 q2) ((0 : Int), ([] : List Int), 0, ([] : List D))
noncomputable def F_shaper_New_2 (s1 : List UInt8) (b1 : Bool) (r1 : List D) (r2 : List D) (x1 : Int) : Option ((Unit) ⊕ ((List D) × (List D) × Nat × (List D) × (List Int) × (List Int))) :=
 bindO (F_shaper_Right_3 s1 b1 r1 r2 x1) fun
 | c1 =>
  if c1 = true then
   bindO (F_shaper_Shaper_by_2 s1 b1 r1 r2 x1 ([] : List UInt8) false (0 : Int) (0 : Int)) fun
   | (q1, q2, k1, q3, m1, m2) =>
    some (.inr (q1, q2, k1, q3, m1, m2))
  else
   some (.inl ())
noncomputable def F_tollbarlaw27_ShaperRates_L3 (r2 : List D) (l1 : List Int) (l2 : List Int) (r1 : List D) (x1 : Int) (i7 : Int) : Int × Int × Int → Option ((Int × Int × Int) ⊕ ((Int) ⊕ (Bool)))
 | (i11, i12, i13) =>
  if (ilt i13 (ofN (xlen r2))) = true then
   if 0 ≤ i13 ∧ i13 < (ofN (xlen l1)) then
    if 0 ≤ i13 ∧ i13 < (ofN (xlen l2)) then
     if (ilt (iadd .u64 (D.toI (D.fld (getD (D.toL (D.fld (getD r1 (toN (0 : Int))) 2)) (toN (irem (iconv .i64 x1) (ofN (xlen (D.toL (D.fld (getD r1 (toN (0 : Int))) 2))))))) 3)) (imul .u64 (D.toI (D.fld (getD (D.toL (D.fld (getD r1 (toN (0 : Int))) 2)) (toN (irem (iconv .i64 x1) (ofN (xlen (D.toL (D.fld (getD r1 (toN (0 : Int))) 2))))))) 2)) (iadd .u64 i12 (getI l2 (toN i13))))) (iadd .u64 i11 (getI l1 (toN i13)))) = true then
      some (.inr (.inr false))
     else
      some (.inl ((iadd .u64 i11 (getI l1 (toN i13))), (iadd .u64 i12 (getI l2 (toN i13))), (iadd .i64 i13 (1 : Int))))
    else none
   else none
  else
   some (.inr (.inl (iadd .i64 i7 (1 : Int))))
noncomputable def F_tollbarlaw27_ShaperRates_L2 (r2 : List D) (l1 : List Int) (l2 : List Int) (r1 : List D) (x1 : Int) : Int → Option ((Int) ⊕ (Bool))
 | i7 =>
  if (ilt i7 (ofN (xlen r2))) = true then
   iter (F_tollbarlaw27_ShaperRates_L3 r2 l1 l2 r1 x1 i7) ((0 : Int), (0 : Int), i7)
  else
   some (.inr true)
noncomputable def F_tollbarlaw27_ShaperRates_L1 (r2 : List D) (r1 : List D) (q1 : List D) (q2 : List D) (k1 : Nat) (m1 : List Int) (x1 : Int) : Int × Int × (List Int) × (List Int) × Int × Bool × (List D) × (List Int) → Option ((Int × Int × (List Int) × (List Int) × Int × Bool × (List D) × (List Int)) ⊕ (Bool))
 | (i1, i2, l1, l2, i3, b1, r3, l3) =>
  if (ilt i1 (ofN (xlen r2))) = true then
   if 0 ≤ i1 ∧ i1 < (ofN (xlen r2)) then
    if (ieq (D.toI (D.fld (getD r2 (toN i1)) 0)) (0 : Int)) = true then
     bindO (F_shaper_Shaper_Arrive (D.toI (D.fld (getD r2 (toN i1)) 1)) (D.toI (D.fld (getD r2 (toN i1)) 2)) (D.toS (D.fld (getD r1 (toN (0 : Int))) 0)) (D.toB (D.fld (getD r1 (toN (0 : Int))) 1)) (D.toI (D.fld (D.fld (getD r1 (toN (0 : Int))) 3) 1)) i2 q1 q2 k1 i3 b1 r3 m1 l3) fun
     | (y28, y29, y30, y31, y32, q13) =>
      if ((((xlen l1) : Nat) : Int) + (((xlen ([(0 : Int)] : List Int)) : Nat) : Int)) * ((8 : Nat) : Int) ≤ 140737488355328 then
       if ((((xlen l2) : Nat) : Int) + (((xlen ([(0 : Int)] : List Int)) : Nat) : Int)) * ((8 : Nat) : Int) ≤ 140737488355328 then
        some (.inl ((iadd .i64 i1 (1 : Int)), y32, (cat l1 ([(0 : Int)] : List Int)), (cat l2 ([(0 : Int)] : List Int)), i3, b1, q13, l3))
       else none
      else none
    else
     if (ieq (D.toI (D.fld (getD r2 (toN i1)) 0)) (1 : Int)) = true then
      bindO (F_shaper_Shaper_Tick (irem (D.toI (D.fld (getD r2 (toN i1)) 3)) (10000 : Int)) (D.toS (D.fld (getD r1 (toN (0 : Int))) 0)) (D.toB (D.fld (getD r1 (toN (0 : Int))) 1)) (D.toI (D.fld (D.fld (getD r1 (toN (0 : Int))) 3) 1)) i2 q1 q2 k1 i3 b1 r3 m1 l3) fun
      | q14 =>
       if ((((xlen l1) : Nat) : Int) + (((xlen ([(0 : Int)] : List Int)) : Nat) : Int)) * ((8 : Nat) : Int) ≤ 140737488355328 then
        if ((((xlen l2) : Nat) : Int) + (((xlen ([(irem (D.toI (D.fld (getD r2 (toN i1)) 3)) (10000 : Int))] : List Int)) : Nat) : Int)) * ((8 : Nat) : Int) ≤ 140737488355328 then
         some (.inl ((iadd .i64 i1 (1 : Int)), i2, (cat l1 ([(0 : Int)] : List Int)), (cat l2 ([(irem (D.toI (D.fld (getD r2 (toN i1)) 3)) (10000 : Int))] : List Int)), i3, b1, q14, l3))
        else none
       else none
     else
      if (ieq (D.toI (D.fld (getD r2 (toN i1)) 0)) (2 : Int)) = true then
       bindO (F_shaper_Shaper_Next (D.toS (D.fld (getD r1 (toN (0 : Int))) 0)) (D.toB (D.fld (getD r1 (toN (0 : Int))) 1)) (D.toI (D.fld (D.fld (getD r1 (toN (0 : Int))) 3) 1)) i2 q1 q2 k1 i3 b1 r3 m1 l3) fun
       | (y33, y34, y35, t4, c9, y36, c10, m6, q15) =>
        if c9 = true then
         if (seq t4 (D.toS (D.fld (getD (D.toL (D.fld (getD r1 (toN (0 : Int))) 2)) (toN (irem (iconv .i64 x1) (ofN (xlen (D.toL (D.fld (getD r1 (toN (0 : Int))) 2))))))) 0))) = true then
          if ((((xlen l1) : Nat) : Int) + (((xlen ([(iconv .u64 y35)] : List Int)) : Nat) : Int)) * ((8 : Nat) : Int) ≤ 140737488355328 then
           if ((((xlen l2) : Nat) : Int) + (((xlen ([(0 : Int)] : List Int)) : Nat) : Int)) * ((8 : Nat) : Int) ≤ 140737488355328 then
            some (.inl ((iadd .i64 i1 (1 : Int)), i2, (cat l1 ([(iconv .u64 y35)] : List Int)), (cat l2 ([(0 : Int)] : List Int)), y36, c10, q15, m6))
           else none
          else none
         else
          if ((((xlen l1) : Nat) : Int) + (((xlen ([(0 : Int)] : List Int)) : Nat) : Int)) * ((8 : Nat) : Int) ≤ 140737488355328 then
           if ((((xlen l2) : Nat) : Int) + (((xlen ([(0 : Int)] : List Int)) : Nat) : Int)) * ((8 : Nat) : Int) ≤ 140737488355328 then
            some (.inl ((iadd .i64 i1 (1 : Int)), i2, (cat l1 ([(0 : Int)] : List Int)), (cat l2 ([(0 : Int)] : List Int)), y36, c10, q15, m6))
           else none
          else none
        else
         if ((((xlen l1) : Nat) : Int) + (((xlen ([(0 : Int)] : List Int)) : Nat) : Int)) * ((8 : Nat) : Int) ≤ 140737488355328 then
          if ((((xlen l2) : Nat) : Int) + (((xlen ([(0 : Int)] : List Int)) : Nat) : Int)) * ((8 : Nat) : Int) ≤ 140737488355328 then
           some (.inl ((iadd .i64 i1 (1 : Int)), i2, (cat l1 ([(0 : Int)] : List Int)), (cat l2 ([(0 : Int)] : List Int)), y36, c10, q15, m6))
          else none
         else none
      else
       if ((((xlen l1) : Nat) : Int) + (((xlen ([(0 : Int)] : List Int)) : Nat) : Int)) * ((8 : Nat) : Int) ≤ 140737488355328 then
        if ((((xlen l2) : Nat) : Int) + (((xlen ([(0 : Int)] : List Int)) : Nat) : Int)) * ((8 : Nat) : Int) ≤ 140737488355328 then
         some (.inl ((iadd .i64 i1 (1 : Int)), i2, (cat l1 ([(0 : Int)] : List Int)), (cat l2 ([(0 : Int)] : List Int)), i3, b1, r3, l3))
        else none
       else none
   else none
  else
   Option.map (fun t => (.inr t)) (iter (F_tollbarlaw27_ShaperRates_L2 r2 l1 l2 r1 x1) (0 : Int))
noncomputable def F_tollbarlaw27_ShaperRates (r1 : List D) (r2 : List D) (x1 : Int) : Option (Bool) :=
 bindO (F_tollbarlaw27_awake) fun
 | c1 =>
  if c1 = true then
   bindO (F_tollbarlaw27_few r1 r2) fun
   | c2 =>
    if c2 = true then
     if (ilt (120 : Int) (ofN (xlen r2))) = true then
      some true
     else
      if 0 ≤ (0 : Int) ∧ (0 : Int) < (ofN (xlen r1)) then
       bindO (F_shaper_New_2 (D.toS (D.fld (getD r1 (toN (0 : Int))) 0)) (D.toB (D.fld (getD r1 (toN (0 : Int))) 1)) (D.toL (D.fld (getD r1 (toN (0 : Int))) 2)) (D.toL (D.fld (D.fld (getD r1 (toN (0 : Int))) 3) 0)) (D.toI (D.fld (D.fld (getD r1 (toN (0 : Int))) 3) 1))) fun
       | (.inl ()) =>
        some true
       | (.inr (q1, q2, k1, q3, m1, m2)) =>
        if 0 ≤ (0 : Int) ∧ (0 : Int) < (ofN (xlen r1)) then
         if 0 ≤ (0 : Int) ∧ (0 : Int) < (ofN (xlen r1)) then
          if (ofN (xlen (D.toL (D.fld (getD r1 (toN (0 : Int))) 2)))) ≠ 0 then
           if 0 ≤ (irem (iconv .i64 x1) (ofN (xlen (D.toL (D.fld (getD r1 (toN (0 : Int))) 2))))) ∧ (irem (iconv .i64 x1) (ofN (xlen (D.toL (D.fld (getD r1 (toN (0 : Int))) 2))))) < (ofN (xlen (D.toL (D.fld (getD r1 (toN (0 : Int))) 2)))) then
            if (D.toB (D.fld (getD (D.toL (D.fld (getD r1 (toN (0 : Int))) 2)) (toN (irem (iconv .i64 x1) (ofN (xlen (D.toL (D.fld (getD r1 (toN (0 : Int))) 2))))))) 5)) = true then
             if (ilt (1000000000 : Int) (D.toI (D.fld (getD (D.toL (D.fld (getD r1 (toN (0 : Int))) 2)) (toN (irem (iconv .i64 x1) (ofN (xlen (D.toL (D.fld (getD r1 (toN (0 : Int))) 2))))))) 3))) = true then
              some true
             else
              if (ilt (1000000000 : Int) (D.toI (D.fld (getD (D.toL (D.fld (getD r1 (toN (0 : Int))) 2)) (toN (irem (iconv .i64 x1) (ofN (xlen (D.toL (D.fld (getD r1 (toN (0 : Int))) 2))))))) 2))) = true then
               some true
              else
               iter (F_tollbarlaw27_ShaperRates_L1 r2 r1 q1 q2 k1 m1 x1) ((0 : Int), (0 : Int), ([] : List Int), ([] : List Int), (0 : Int), false, q3, m2)
            else
             some true
           else none
          else none
         else none
        else none
      else none
    else
     some true
  else
   some false
end Go.Proofs.Ytojbpjcfdjakkaa
end
section
/-
  The contracts of the functions (printed by a program of ours).
-/
set_option linter.unusedVariables false
set_option linter.unusedSimpArgs false
namespace Go.Proofs.Ytojbpjcfdjakkaa
open Go.RowKit
noncomputable def con_slices_CloneC_1 (a : List SV) (c : List Ck) : Option CEff := match a, c with
 | [(.rsl (.row 83 (.st [.str, (.int .u64), (.int .u64), (.int .u64), (.int .i64), .bool]) r1))], [] => some ⟨[lock Obl fun _ => ∃ r, lock cloneC r1 = some r], .many ((List D)) (fun r => lock cloneC r1 = some r) (fun u0 => (.wsl 0)) (fun u0 => [.to (.row (.row 83 (.st [.str, (.int .u64), (.int .u64), (.int .u64), (.int .i64), .bool]) u0))]), []⟩
 | _, _ => none
noncomputable def con_slices_CloneC : Con := ⟨[(some (.row 83 (.st [.str, (.int .u64), (.int .u64), (.int .u64), (.int .i64), .bool])))], fun a c => con_slices_CloneC_1 a c, []⟩
noncomputable def con_slices_CloneR_1 (a : List SV) (c : List Ck) : Option CEff := match a, c with
 | [(.rsl (.row 96 (.st [(.int .i64), (.int .i64), (.int .i64)]) r1))], [] => some ⟨[lock Obl fun _ => ∃ r, lock cloneR r1 = some r], .many ((List D)) (fun r => lock cloneR r1 = some r) (fun u0 => (.wsl 0)) (fun u0 => [.to (.row (.row 96 (.st [(.int .i64), (.int .i64), (.int .i64)]) u0))]), []⟩
 | _, _ => none
noncomputable def con_slices_CloneR : Con := ⟨[(some (.row 96 (.st [(.int .i64), (.int .i64), (.int .i64)])))], fun a c => con_slices_CloneR_1 a c, []⟩
noncomputable def con_slices_Clone_1 (a : List SV) (c : List Ck) : Option CEff := match a, c with
 | [(.rsl (.ints 46 .u64 l1))], [] => some ⟨[lock Obl fun _ => ∃ r, lock cloneU64 l1 = some r], .many ((List Int)) (fun r => lock cloneU64 l1 = some r) (fun u0 => (.wsl 0)) (fun u0 => [.to (.row (.ints 46 .u64 u0))]), []⟩
 | _, _ => none
noncomputable def con_slices_Clone : Con := ⟨[(some (.ints 46 .u64))], fun a c => con_slices_Clone_1 a c, []⟩
noncomputable def con_shaper_RightIn_1 (a : List SV) (c : List Ck) : Option CEff := match a, c with
 | [(.v (.int .i64 x1)), (.ptr 0 0)], [.blk 3 [(.v (.int .i64 x2))]] => some ⟨[lock Obl fun _ => ∃ r, lock F_shaper_RightIn x1 x2 = some r], .many (Bool) (fun r => lock F_shaper_RightIn x1 x2 = some r) (fun u0 => (.v (.bool u0))) (fun u0 => [.same]), [true]⟩
 | _, _ => none
noncomputable def con_shaper_RightIn : Con := ⟨[none], fun a c => con_shaper_RightIn_1 a c, []⟩
noncomputable def con_shaper_Right_1 (a : List SV) (c : List Ck) : Option CEff := match a, c with
 | [(.agg [(.str s1), (.v (.bool b1)), (.wsl 0), .nsl, (.v (.int .i64 x1))])], [.row (.row 83 (.st [.str, (.int .u64), (.int .u64), (.int .u64), (.int .i64), .bool]) r1)] => some ⟨[lock Obl fun _ => ∃ r, lock F_shaper_Right s1 b1 x1 r1 = some r], .many (Bool) (fun r => lock F_shaper_Right s1 b1 x1 r1 = some r) (fun u0 => (.v (.bool u0))) (fun u0 => [.same]), [true]⟩
 | _, _ => none
noncomputable def con_shaper_Right_2 (a : List SV) (c : List Ck) : Option CEff := match a, c with
 | [(.agg [(.str s1), (.v (.bool b1)), .nsl, .nsl, (.v (.int .i64 x1))])], [] => some ⟨[lock Obl fun _ => ∃ r, lock F_shaper_Right_2 s1 b1 x1 = some r], .many (Bool) (fun r => lock F_shaper_Right_2 s1 b1 x1 = some r) (fun u0 => (.v (.bool u0))) (fun u0 => []), []⟩
 | _, _ => none
noncomputable def con_shaper_Right_3 (a : List SV) (c : List Ck) : Option CEff := match a, c with
 | [(.agg [(.str s1), (.v (.bool b1)), (.rsl (.row 83 (.st [.str, (.int .u64), (.int .u64), (.int .u64), (.int .i64), .bool]) r1)), (.rsl (.row 96 (.st [(.int .i64), (.int .i64), (.int .i64)]) r2)), (.v (.int .i64 x1))])], [] => some ⟨[lock Obl fun _ => ∃ r, lock F_shaper_Right_3 s1 b1 r1 r2 x1 = some r], .many (Bool) (fun r => lock F_shaper_Right_3 s1 b1 r1 r2 x1 = some r) (fun u0 => (.v (.bool u0))) (fun u0 => []), []⟩
 | _, _ => none
noncomputable def con_shaper_Right : Con := ⟨[none], fun a c => altC (con_shaper_Right_1 a c) (altC (con_shaper_Right_2 a c) (con_shaper_Right_3 a c)), []⟩
noncomputable def con_shaper_own_1 (a : List SV) (c : List Ck) : Option CEff := match a, c with
 | [(.agg [(.str s1), (.v (.bool b1)), (.wsl 0), .nsl, (.v (.int .i64 x1))])], [.row (.row 83 (.st [.str, (.int .u64), (.int .u64), (.int .u64), (.int .i64), .bool]) r1)] => some ⟨[lock Obl fun _ => ∃ r, lock F_shaper_own s1 b1 x1 r1 = some r], .many ((List D) × (List D)) (fun r => lock F_shaper_own s1 b1 x1 r1 = some r) (fun | (u0, u1) => (.agg [(.str s1), (.v (.bool b1)), (.wsl 1), (.wsl 2), (.v (.int .i64 x1))])) (fun | (u0, u1) => [.same, .to (.row (.row 83 (.st [.str, (.int .u64), (.int .u64), (.int .u64), (.int .i64), .bool]) u0)), .to (.row (.row 96 (.st [(.int .i64), (.int .i64), (.int .i64)]) u1))]), [true]⟩
 | _, _ => none
noncomputable def con_shaper_own_2 (a : List SV) (c : List Ck) : Option CEff := match a, c with
 | [(.agg [(.str s1), (.v (.bool b1)), (.wsl 0), (.wsl 1), (.v (.int .i64 x1))])], [.row (.row 83 (.st [.str, (.int .u64), (.int .u64), (.int .u64), (.int .i64), .bool]) r1), .row (.row 96 (.st [(.int .i64), (.int .i64), (.int .i64)]) r2)] => some ⟨[lock Obl fun _ => ∃ r, lock F_shaper_own_2 s1 b1 x1 r1 r2 = some r], .many ((List D) × (List D)) (fun r => lock F_shaper_own_2 s1 b1 x1 r1 r2 = some r) (fun | (u0, u1) => (.agg [(.str s1), (.v (.bool b1)), (.wsl 2), (.wsl 3), (.v (.int .i64 x1))])) (fun | (u0, u1) => [.same, .same, .to (.row (.row 83 (.st [.str, (.int .u64), (.int .u64), (.int .u64), (.int .i64), .bool]) u0)), .to (.row (.row 96 (.st [(.int .i64), (.int .i64), (.int .i64)]) u1))]), [true, true]⟩
 | _, _ => none
noncomputable def con_shaper_own_3 (a : List SV) (c : List Ck) : Option CEff := match a, c with
 | [(.agg [(.str s1), (.v (.bool b1)), (.rsl (.row 83 (.st [.str, (.int .u64), (.int .u64), (.int .u64), (.int .i64), .bool]) r1)), (.rsl (.row 96 (.st [(.int .i64), (.int .i64), (.int .i64)]) r2)), (.v (.int .i64 x1))])], [] => some ⟨[lock Obl fun _ => ∃ r, lock F_shaper_own_3 s1 b1 r1 r2 x1 = some r], .many ((List D) × (List D)) (fun r => lock F_shaper_own_3 s1 b1 r1 r2 x1 = some r) (fun | (u0, u1) => (.agg [(.str s1), (.v (.bool b1)), (.wsl 0), (.wsl 1), (.v (.int .i64 x1))])) (fun | (u0, u1) => [.to (.row (.row 83 (.st [.str, (.int .u64), (.int .u64), (.int .u64), (.int .i64), .bool]) u0)), .to (.row (.row 96 (.st [(.int .i64), (.int .i64), (.int .i64)]) u1))]), []⟩
 | _, _ => none
noncomputable def con_shaper_own : Con := ⟨[none], fun a c => altC (con_shaper_own_1 a c) (altC (con_shaper_own_2 a c) (con_shaper_own_3 a c)), []⟩
noncomputable def con_bucket_New_1 (a : List SV) (c : List Ck) : Option CEff := match a, c with
 | [(.v (.int .u64 x1)), (.v (.int .u64 x2))], [] => some ⟨[lock Obl fun _ => ∃ r, lock F_bucket_New x1 x2 = some r], .many (Unit) (fun r => lock F_bucket_New x1 x2 = some r) (fun _ => (.agg [(.v (.int .u64 x1)), (.v (.int .u64 x2)), (.v (.int .u64 x2))])) (fun _ => []), []⟩
 | _, _ => none
noncomputable def con_bucket_New : Con := ⟨[none, none], fun a c => con_bucket_New_1 a c, []⟩
noncomputable def con_fifo_New_1 (a : List SV) (c : List Ck) : Option CEff := match a, c with
 | [(.v (.int .i64 x1))], [] => some ⟨[lock Obl fun _ => ∃ r, lock F_fifo_New x1 = some r], .many (Unit) (fun r => lock F_fifo_New x1 = some r) (fun _ => (.ptr 0 0)) (fun _ => [.to (.blk 144 [(.v (.int .i64 x1)), .nsl, (.v (.int .i64 (0 : Int))), (.v (.int .i64 (0 : Int)))])]), []⟩
 | _, _ => none
noncomputable def con_fifo_New : Con := ⟨[none], fun a c => con_fifo_New_1 a c, []⟩
noncomputable def con_drr_New_1 (a : List SV) (c : List Ck) : Option CEff := match a, c with
 | [(.rsl (.ints 46 .u64 l1))], [] => some ⟨[lock Obl fun _ => ∃ r, lock F_drr_New l1 = some r], .many ((List Int) × (List Int)) (fun r => lock F_drr_New l1 = some r) (fun | (u0, u1) => (.ptr 0 0)) (fun | (u0, u1) => [.to (.blk 169 [(.wsl 1), (.v (.int .i64 (0 : Int))), (.v (.bool false)), (.wsl 2)]), .to (.row (.ints 46 .u64 u0)), .to (.row (.ints 46 .u64 u1))]), []⟩
 | _, _ => none
noncomputable def con_drr_New : Con := ⟨[(some (.ints 46 .u64))], fun a c => con_drr_New_1 a c, []⟩
noncomputable def con_shaper_Shaper_by_1 (a : List SV) (c : List Ck) : Option CEff := match a, c with
 | [(.ptr 0 0), (.agg [(.str s1), (.v (.bool b1)), (.wsl 1), .nsl, (.v (.int .i64 x1))])], [.blk 92 [(.str s2), (.v (.bool b2)), .nsl, .nsl, (.v (.int .i64 x2)), (.v (.int .u64 x3)), .nsl, (.v (.pointer none))], .row (.row 83 (.st [.str, (.int .u64), (.int .u64), (.int .u64), (.int .i64), .bool]) r1)] => some ⟨[lock Obl fun _ => ∃ r, lock F_shaper_Shaper_by s1 b1 x1 s2 b2 x2 x3 r1 = some r], .many ((List D) × (List D) × Nat × (List D) × (List Int) × (List Int)) (fun r => lock F_shaper_Shaper_by s1 b1 x1 s2 b2 x2 x3 r1 = some r) (fun | (u0, u1, u2, u3, u4, u5) => (.tup [])) (fun | (u0, u1, u2, u3, u4, u5) => [.to (.blk 92 [(.str s1), (.v (.bool b1)), (.wsl 2), (.wsl 3), (.v (.int .i64 x1)), (.v (.int .u64 x3)), (.wsl 4), (.ptr 5 0)]), .same, .to (.row (.row 83 (.st [.str, (.int .u64), (.int .u64), (.int .u64), (.int .i64), .bool]) u0)), .to (.row (.row 96 (.st [(.int .i64), (.int .i64), (.int .i64)]) u1)), .to (.prow 98 tm98 u2 6), .to (.blk 169 [(.wsl 7), (.v (.int .i64 (0 : Int))), (.v (.bool false)), (.wsl 8)]), .to (.gho tm98 u3 none), .to (.row (.ints 46 .u64 u4)), .to (.row (.ints 46 .u64 u5))]), [false, true]⟩
 | _, _ => none
noncomputable def con_shaper_Shaper_by_2 (a : List SV) (c : List Ck) : Option CEff := match a, c with
 | [(.ptr 0 0), (.agg [(.str s1), (.v (.bool b1)), (.rsl (.row 83 (.st [.str, (.int .u64), (.int .u64), (.int .u64), (.int .i64), .bool]) r1)), (.rsl (.row 96 (.st [(.int .i64), (.int .i64), (.int .i64)]) r2)), (.v (.int .i64 x1))])], [.blk 92 [(.str s2), (.v (.bool b2)), .nsl, .nsl, (.v (.int .i64 x2)), (.v (.int .u64 x3)), .nsl, (.v (.pointer none))]] => some ⟨[lock Obl fun _ => ∃ r, lock F_shaper_Shaper_by_2 s1 b1 r1 r2 x1 s2 b2 x2 x3 = some r], .many ((List D) × (List D) × Nat × (List D) × (List Int) × (List Int)) (fun r => lock F_shaper_Shaper_by_2 s1 b1 r1 r2 x1 s2 b2 x2 x3 = some r) (fun | (u0, u1, u2, u3, u4, u5) => (.tup [])) (fun | (u0, u1, u2, u3, u4, u5) => [.to (.blk 92 [(.str s1), (.v (.bool b1)), (.wsl 1), (.wsl 2), (.v (.int .i64 x1)), (.v (.int .u64 x3)), (.wsl 3), (.ptr 4 0)]), .to (.row (.row 83 (.st [.str, (.int .u64), (.int .u64), (.int .u64), (.int .i64), .bool]) u0)), .to (.row (.row 96 (.st [(.int .i64), (.int .i64), (.int .i64)]) u1)), .to (.prow 98 tm98 u2 5), .to (.blk 169 [(.wsl 6), (.v (.int .i64 (0 : Int))), (.v (.bool false)), (.wsl 7)]), .to (.gho tm98 u3 none), .to (.row (.ints 46 .u64 u4)), .to (.row (.ints 46 .u64 u5))]), [false]⟩
 | _, _ => none
noncomputable def con_shaper_Shaper_by : Con := ⟨[none, none], fun a c => altC (con_shaper_Shaper_by_1 a c) (con_shaper_Shaper_by_2 a c), []⟩
noncomputable def con_shaper_New_1 (a : List SV) (c : List Ck) : Option CEff := match a, c with
 | [(.agg [(.str s1), (.v (.bool b1)), (.wsl 0), .nsl, (.v (.int .i64 x1))])], [.row (.row 83 (.st [.str, (.int .u64), (.int .u64), (.int .u64), (.int .i64), .bool]) r1)] => some ⟨[lock Obl fun _ => ∃ r, lock F_shaper_New s1 b1 x1 r1 = some r], .many ((Unit) ⊕ ((List D) × (List D) × Nat × (List D) × (List Int) × (List Int))) (fun r => lock F_shaper_New s1 b1 x1 r1 = some r) (fun | (.inl _) => (.v (.pointer none)) | (.inr (u0, u1, u2, u3, u4, u5)) => (.ptr 1 0)) (fun | (.inl _) => [.same] | (.inr (u0, u1, u2, u3, u4, u5)) => [.same, .to (.blk 92 [(.str s1), (.v (.bool b1)), (.wsl 2), (.wsl 3), (.v (.int .i64 x1)), (.v (.int .u64 (0 : Int))), (.wsl 4), (.ptr 5 0)]), .to (.row (.row 83 (.st [.str, (.int .u64), (.int .u64), (.int .u64), (.int .i64), .bool]) u0)), .to (.row (.row 96 (.st [(.int .i64), (.int .i64), (.int .i64)]) u1)), .to (.prow 98 tm98 u2 6), .to (.blk 169 [(.wsl 7), (.v (.int .i64 (0 : Int))), (.v (.bool false)), (.wsl 8)]), .to (.gho tm98 u3 none), .to (.row (.ints 46 .u64 u4)), .to (.row (.ints 46 .u64 u5))]), [true]⟩
 | _, _ => none
noncomputable def con_shaper_New_2 (a : List SV) (c : List Ck) : Option CEff := match a, c with
 | [(.agg [(.str s1), (.v (.bool b1)), (.rsl (.row 83 (.st [.str, (.int .u64), (.int .u64), (.int .u64), (.int .i64), .bool]) r1)), (.rsl (.row 96 (.st [(.int .i64), (.int .i64), (.int .i64)]) r2)), (.v (.int .i64 x1))])], [] => some ⟨[lock Obl fun _ => ∃ r, lock F_shaper_New_2 s1 b1 r1 r2 x1 = some r], .many ((Unit) ⊕ ((List D) × (List D) × Nat × (List D) × (List Int) × (List Int))) (fun r => lock F_shaper_New_2 s1 b1 r1 r2 x1 = some r) (fun | (.inl _) => (.v (.pointer none)) | (.inr (u0, u1, u2, u3, u4, u5)) => (.ptr 0 0)) (fun | (.inl _) => [] | (.inr (u0, u1, u2, u3, u4, u5)) => [.to (.blk 92 [(.str s1), (.v (.bool b1)), (.wsl 1), (.wsl 2), (.v (.int .i64 x1)), (.v (.int .u64 (0 : Int))), (.wsl 3), (.ptr 4 0)]), .to (.row (.row 83 (.st [.str, (.int .u64), (.int .u64), (.int .u64), (.int .i64), .bool]) u0)), .to (.row (.row 96 (.st [(.int .i64), (.int .i64), (.int .i64)]) u1)), .to (.prow 98 tm98 u2 5), .to (.blk 169 [(.wsl 6), (.v (.int .i64 (0 : Int))), (.v (.bool false)), (.wsl 7)]), .to (.gho tm98 u3 none), .to (.row (.ints 46 .u64 u4)), .to (.row (.ints 46 .u64 u5))]), []⟩
 | _, _ => none
noncomputable def con_shaper_New : Con := ⟨[none], fun a c => altC (con_shaper_New_1 a c) (con_shaper_New_2 a c), []⟩
noncomputable def con_flow_ClassIn_1 (a : List SV) (c : List Ck) : Option CEff := match a, c with
 | [(.agg [(.v (.int .i64 x1)), (.v (.int .i64 x2)), (.v (.int .i64 x3))]), (.ptr 0 0)], [.blk 3 [(.v (.int .i64 x4))]] => some ⟨[lock Obl fun _ => ∃ r, lock F_flow_ClassIn x1 x2 x3 x4 = some r], .many (Bool) (fun r => lock F_flow_ClassIn x1 x2 x3 x4 = some r) (fun u0 => (.v (.bool u0))) (fun u0 => [.same]), [true]⟩
 | _, _ => none
noncomputable def con_flow_ClassIn : Con := ⟨[none], fun a c => con_flow_ClassIn_1 a c, []⟩
noncomputable def con_slices_IndexFuncR_1 (a : List SV) (c : List Ck) : Option CEff := match a, c with
 | [(.rsl (.row 96 (.st [(.int .i64), (.int .i64), (.int .i64)]) r1)), (.fn 81 [(.ptr 0 0)])], [.blk 3 [(.v (.int .i64 x1))]] => some ⟨[lock Obl fun _ => ∃ r, lock F_slices_IndexFuncR r1 x1 = some r], .many (Int) (fun r => lock F_slices_IndexFuncR r1 x1 = some r) (fun u0 => (.v (.int .i64 u0))) (fun u0 => [.same]), [true]⟩
 | _, _ => none
noncomputable def con_slices_IndexFuncR : Con := ⟨[(some (.row 96 (.st [(.int .i64), (.int .i64), (.int .i64)]))), none], fun a c => con_slices_IndexFuncR_1 a c, []⟩
noncomputable def con_flow_Table_Class_1 (a : List SV) (c : List Ck) : Option CEff := match a, c with
 | [(.agg [(.wsl 0), (.v (.int .i64 x1))]), (.v (.int .i64 x2))], [.row (.row 96 (.st [(.int .i64), (.int .i64), (.int .i64)]) r1)] => some ⟨[lock Obl fun _ => ∃ r, lock F_flow_Table_Class x1 x2 r1 = some r], .many (Int) (fun r => lock F_flow_Table_Class x1 x2 r1 = some r) (fun u0 => (.v (.int .i64 u0))) (fun u0 => [.same]), [true]⟩
 | _, _ => none
noncomputable def con_flow_Table_Class : Con := ⟨[none, none], fun a c => con_flow_Table_Class_1 a c, []⟩
noncomputable def con_fifo_Queue_grow_1 (a : List SV) (c : List Ck) : Option CEff := match a, c with
 | [(.ptr 0 0)], [.blk 144 [(.v (.int .i64 x1)), (.wsl 1), (.v (.int .i64 x2)), (.v (.int .i64 x3))], .row (.row 75 (.st [(.int .u64), (.int .i64), (.int .i64)]) r1)] => some ⟨[lock Obl fun _ => ∃ r, lock F_fifo_Queue_grow x1 x2 x3 r1 = some r], .many ((List D)) (fun r => lock F_fifo_Queue_grow x1 x2 x3 r1 = some r) (fun u0 => (.tup [])) (fun u0 => [.to (.blk 144 [(.v (.int .i64 x1)), (.wsl 2), (.v (.int .i64 (0 : Int))), (.v (.int .i64 x3))]), .same, .to (.row (.row 75 (.st [(.int .u64), (.int .i64), (.int .i64)]) u0))]), [false, true]⟩
 | _, _ => none
noncomputable def con_fifo_Queue_grow : Con := ⟨[none], fun a c => con_fifo_Queue_grow_1 a c, []⟩
noncomputable def con_fifo_Queue_at_1 (a : List SV) (c : List Ck) : Option CEff := match a, c with
 | [(.ptr 0 0), (.v (.int .i64 x1))], [.blk 144 [(.v (.int .i64 x2)), (.wsl 1), (.v (.int .i64 x3)), (.v (.int .i64 x4))], .row (.row 75 (.st [(.int .u64), (.int .i64), (.int .i64)]) r1)] => some ⟨[lock Obl fun _ => ∃ r, lock F_fifo_Queue_at x1 x2 x3 x4 r1 = some r], .many (Int) (fun r => lock F_fifo_Queue_at x1 x2 x3 x4 r1 = some r) (fun u0 => (.v (.int .i64 u0))) (fun u0 => [.same, .same]), [true, true]⟩
 | _, _ => none
noncomputable def con_fifo_Queue_at : Con := ⟨[none, none], fun a c => con_fifo_Queue_at_1 a c, []⟩
noncomputable def con_fifo_Queue_put_1 (a : List SV) (c : List Ck) : Option CEff := match a, c with
 | [(.ptr 0 0), (.agg [(.v (.int .u64 x1)), (.v (.int .i64 x2)), (.v (.int .i64 x3))])], [.blk 144 [(.v (.int .i64 x4)), (.wsl 1), (.v (.int .i64 x5)), (.v (.int .i64 x6))], .row (.row 75 (.st [(.int .u64), (.int .i64), (.int .i64)]) r1)] => some ⟨[lock Obl fun _ => ∃ r, lock F_fifo_Queue_put x1 x2 x3 x4 x5 x6 r1 = some r], .many (Int × Int × (List D)) (fun r => lock F_fifo_Queue_put x1 x2 x3 x4 x5 x6 r1 = some r) (fun | (u0, u1, u2) => (.tup [])) (fun | (u0, u1, u2) => [.to (.blk 144 [(.v (.int .i64 x4)), (.wsl 2), (.v (.int .i64 u0)), (.v (.int .i64 u1))]), .gone, .to (.row (.row 75 (.st [(.int .u64), (.int .i64), (.int .i64)]) u2))]), [false, false]⟩
 | _, _ => none
noncomputable def con_fifo_Queue_put : Con := ⟨[none, none], fun a c => con_fifo_Queue_put_1 a c, []⟩
noncomputable def con_fifo_Queue_Push_1 (a : List SV) (c : List Ck) : Option CEff := match a, c with
 | [(.ptr 0 0), (.agg [(.v (.int .u64 x1)), (.v (.int .i64 x2)), (.v (.int .i64 x3))])], [.blk 144 [(.v (.int .i64 x4)), (.wsl 1), (.v (.int .i64 x5)), (.v (.int .i64 x6))], .row (.row 75 (.st [(.int .u64), (.int .i64), (.int .i64)]) r1)] => some ⟨[lock Obl fun _ => ∃ r, lock F_fifo_Queue_Push x1 x2 x3 x4 x5 x6 r1 = some r], .many (Bool × Int × Int × (List D)) (fun r => lock F_fifo_Queue_Push x1 x2 x3 x4 x5 x6 r1 = some r) (fun | (u0, u1, u2, u3) => (.v (.bool u0))) (fun | (u0, u1, u2, u3) => [.to (.blk 144 [(.v (.int .i64 x4)), (.wsl 2), (.v (.int .i64 u1)), (.v (.int .i64 u2))]), .gone, .to (.row (.row 75 (.st [(.int .u64), (.int .i64), (.int .i64)]) u3))]), [false, false]⟩
 | _, _ => none
noncomputable def con_fifo_Queue_Push : Con := ⟨[none, none], fun a c => con_fifo_Queue_Push_1 a c, []⟩
noncomputable def con_shaper_Shaper_Arrive_1 (a : List SV) (c : List Ck) : Option CEff := match a with
 | [(.ptr 0 0), (.v (.int .i64 x1)), (.v (.int .i64 x2))] => (match c with | [g0, g1, g2, g3, g4, g5, g6, g7] => (match g0 with | .blk 92 [(.str s1), (.v (.bool b1)), (.wsl 1), (.wsl 2), (.v (.int .i64 x3)), (.v (.int .u64 x4)), (.wsl 3), (.ptr 4 0)] => (match g1 with | .row (.row 83 (.st [.str, (.int .u64), (.int .u64), (.int .u64), (.int .i64), .bool]) r1) => (match g2 with | .row (.row 96 (.st [(.int .i64), (.int .i64), (.int .i64)]) r2) => (match g3 with | .prow 98 w1 n1 5 => (match g4 with | .blk 169 [(.wsl 6), (.v (.int .i64 x5)), (.v (.bool b2)), (.wsl 7)] => (match g5 with | .gho w2 r3 none => (match g6 with | .row (.ints 46 .u64 l1) => (match g7 with | .row (.ints 46 .u64 l2) => (match Tm.eq tm98 w1 && Tm.eq tm98 w2 with | false => none | true => some ⟨[lock Obl fun _ => ∃ r, lock F_shaper_Shaper_Arrive x1 x2 s1 b1 x3 x4 r1 r2 n1 x5 b2 r3 l1 l2 = some r], .many (Int × Int × Int × Int × Int × (List D)) (fun r => lock F_shaper_Shaper_Arrive x1 x2 s1 b1 x3 x4 r1 r2 n1 x5 b2 r3 l1 l2 = some r) (fun | (u0, u1, u2, u3, u4, u5) => (.tup [(.agg [(.v (.int .u64 u0)), (.v (.int .i64 u1)), (.v (.int .i64 u2))]), (.v (.int .i64 u3))])) (fun | (u0, u1, u2, u3, u4, u5) => [.to (.blk 92 [(.str s1), (.v (.bool b1)), (.wsl 1), (.wsl 2), (.v (.int .i64 x3)), (.v (.int .u64 u4)), (.wsl 3), (.ptr 4 0)]), .same, .same, .to (.prow 98 tm98 n1 8), .same, .gone, .same, .same, .to (.gho tm98 u5 none)]), [false, true, true, false, true, false, true, true]⟩) | _ => none) | _ => none) | _ => none) | _ => none) | _ => none) | _ => none) | _ => none) | _ => none) | _ => none)
 | _ => none
noncomputable def con_shaper_Shaper_Arrive : Con := ⟨[none, none, none], fun a c => con_shaper_Shaper_Arrive_1 a c, []⟩
noncomputable def con_fifo_Queue_Len_1 (a : List SV) (c : List Ck) : Option CEff := match a, c with
 | [(.ptr 0 0)], [.blk 144 [(.v (.int .i64 x1)), (.wsl 1), (.v (.int .i64 x2)), (.v (.int .i64 x3))], .row (.row 75 (.st [(.int .u64), (.int .i64), (.int .i64)]) r1)] => some ⟨[lock Obl fun _ => ∃ r, lock F_fifo_Queue_Len x1 x2 x3 r1 = some r], .many (Unit) (fun r => lock F_fifo_Queue_Len x1 x2 x3 r1 = some r) (fun _ => (.v (.int .i64 x3))) (fun _ => [.same, .same]), [true, true]⟩
 | _, _ => none
noncomputable def con_fifo_Queue_Len : Con := ⟨[none], fun a c => con_fifo_Queue_Len_1 a c, []⟩
noncomputable def con_fifo_Queue_Head_1 (a : List SV) (c : List Ck) : Option CEff := match a, c with
 | [(.ptr 0 0)], [.blk 144 [(.v (.int .i64 x1)), (.wsl 1), (.v (.int .i64 x2)), (.v (.int .i64 x3))], .row (.row 75 (.st [(.int .u64), (.int .i64), (.int .i64)]) r1)] => some ⟨[lock Obl fun _ => ∃ r, lock F_fifo_Queue_Head x1 x2 x3 r1 = some r], .many (Int × Int × Int × Bool) (fun r => lock F_fifo_Queue_Head x1 x2 x3 r1 = some r) (fun | (u0, u1, u2, u3) => (.tup [(.agg [(.v (.int .u64 u0)), (.v (.int .i64 u1)), (.v (.int .i64 u2))]), (.v (.bool u3))])) (fun | (u0, u1, u2, u3) => [.same, .same]), [true, true]⟩
 | _, _ => none
noncomputable def con_fifo_Queue_Head : Con := ⟨[none], fun a c => con_fifo_Queue_Head_1 a c, []⟩
noncomputable def con_shaper_Shaper_view_1 (a : List SV) (c : List Ck) : Option CEff := match a with
 | [(.ptr 0 0), (.ptr 1 0)] => (match c with | [g0, g1, g2, g3, g4, g5, g6, g7, g8, g9, g10] => (match g0 with | .blk 92 [(.str s1), (.v (.bool b1)), (.wsl 2), (.wsl 3), (.v (.int .i64 x1)), (.v (.int .u64 x2)), (.wsl 4), (.ptr 5 0)] => (match g1 with | .blk 103 [(.str s2), (.v (.int .u64 x3)), (.v (.int .u64 x4)), (.v (.int .u64 x5)), (.v (.int .i64 x6)), (.v (.bool b2)), (.v (.int .u64 x7)), (.v (.int .u64 x8)), (.v (.int .u64 x9)), (.ptr 6 0)] => (match g2 with | .row (.row 83 (.st [.str, (.int .u64), (.int .u64), (.int .u64), (.int .i64), .bool]) r1) => (match g3 with | .row (.row 96 (.st [(.int .i64), (.int .i64), (.int .i64)]) r2) => (match g4 with | .prow 98 w1 n1 7 => (match g5 with | .blk 169 [(.wsl 8), (.v (.int .i64 x10)), (.v (.bool b3)), (.wsl 9)] => (match g6 with | .blk 144 [(.v (.int .i64 x11)), (.wsl 10), (.v (.int .i64 x12)), (.v (.int .i64 x13))] => (match g7 with | .gho w2 r3 (some (n2, [(.ptr 1 0)])) => (match g8 with | .row (.ints 46 .u64 l1) => (match g9 with | .row (.ints 46 .u64 l2) => (match g10 with | .row (.row 75 (.st [(.int .u64), (.int .i64), (.int .i64)]) r4) => (match Tm.eq tm98 w1 && Tm.eq tm98 w2 with | false => none | true => some ⟨[lock Obl fun _ => ∃ r, lock F_shaper_Shaper_view s1 b1 x1 x2 s2 x3 x4 x5 x6 b2 x7 x8 x9 r1 r2 n1 x10 b3 x11 x12 x13 r3 n2 l1 l2 r4 = some r], .many (Int × Bool) (fun r => lock F_shaper_Shaper_view s1 b1 x1 x2 s2 x3 x4 x5 x6 b2 x7 x8 x9 r1 r2 n1 x10 b3 x11 x12 x13 r3 n2 l1 l2 r4 = some r) (fun | (u0, u1) => (.agg [(.v (.int .u64 u0)), (.v (.bool u1))])) (fun | (u0, u1) => [.same, .same, .same, .same, .same, .same, .same, .same, .same, .same, .same]), [true, true, true, true, true, true, true, true, true, true, true]⟩) | _ => none) | _ => none) | _ => none) | _ => none) | _ => none) | _ => none) | _ => none) | _ => none) | _ => none) | _ => none) | _ => none) | _ => none)
 | _ => none
noncomputable def con_shaper_Shaper_view : Con := ⟨[none, none], fun a c => con_shaper_Shaper_view_1 a c, []⟩
noncomputable def con_drr_Ring_on_1 (a : List SV) (c : List Ck) : Option CEff := match a, c with
 | [(.ptr 0 0)], [.blk 169 [(.wsl 1), (.v (.int .i64 x1)), (.v (.bool b1)), (.wsl 2)], .row (.ints 46 .u64 l1), .row (.ints 46 .u64 l2)] => some ⟨[lock Obl fun _ => ∃ r, lock F_drr_Ring_on x1 b1 l1 l2 = some r], .many (Int) (fun r => lock F_drr_Ring_on x1 b1 l1 l2 = some r) (fun u0 => (.tup [])) (fun u0 => [.to (.blk 169 [(.wsl 1), (.v (.int .i64 u0)), (.v (.bool false)), (.wsl 2)]), .same, .same]), [false, true, true]⟩
 | _, _ => none
noncomputable def con_drr_Ring_on : Con := ⟨[none], fun a c => con_drr_Ring_on_1 a c, []⟩
noncomputable def con_sat_Add_1 (a : List SV) (c : List Ck) : Option CEff := match a, c with
 | [(.v (.int .u64 x1)), (.v (.int .u64 x2))], [] => some ⟨[lock Obl fun _ => ∃ r, lock F_sat_Add x1 x2 = some r], .many (Int) (fun r => lock F_sat_Add x1 x2 = some r) (fun u0 => (.v (.int .u64 u0))) (fun u0 => []), []⟩
 | _, _ => none
noncomputable def con_sat_Add : Con := ⟨[none, none], fun a c => con_sat_Add_1 a c, []⟩
noncomputable def con_drr_Ring_visit_1 (a : List SV) (c : List Ck) : Option CEff := match a, c with
 | [(.ptr 0 0), (.agg [(.v (.int .u64 x1)), (.v (.bool b1))])], [.blk 169 [(.wsl 1), (.v (.int .i64 x2)), (.v (.bool b2)), (.wsl 2)], .row (.ints 46 .u64 l1), .row (.ints 46 .u64 l2)] => some ⟨[lock Obl fun _ => ∃ r, lock F_drr_Ring_visit x1 b1 x2 b2 l1 l2 = some r], .many (Bool × Int × Bool × (List Int)) (fun r => lock F_drr_Ring_visit x1 b1 x2 b2 l1 l2 = some r) (fun | (u0, u1, u2, u3) => (.v (.bool u0))) (fun | (u0, u1, u2, u3) => [.to (.blk 169 [(.wsl 1), (.v (.int .i64 u1)), (.v (.bool u2)), (.wsl 2)]), .same, .to (.row (.ints 46 .u64 u3))]), [false, true, false]⟩
 | _, _ => none
noncomputable def con_drr_Ring_visit : Con := ⟨[none, none], fun a c => con_drr_Ring_visit_1 a c, []⟩
noncomputable def con_drr_Ring_Next_1 (a : List SV) (c : List Ck) : Option CEff := match a, c with
 | [(.ptr 0 0), (.rsl (.row 133 (.st [(.int .u64), .bool]) r1))], [.blk 169 [(.wsl 1), (.v (.int .i64 x1)), (.v (.bool b1)), (.wsl 2)], .row (.ints 46 .u64 l1), .row (.ints 46 .u64 l2)] => some ⟨[lock Obl fun _ => ∃ r, lock F_drr_Ring_Next r1 x1 b1 l1 l2 = some r], .many (Int × Int × Bool × (List Int)) (fun r => lock F_drr_Ring_Next r1 x1 b1 l1 l2 = some r) (fun | (u0, u1, u2, u3) => (.v (.int .i64 u0))) (fun | (u0, u1, u2, u3) => [.to (.blk 169 [(.wsl 1), (.v (.int .i64 u1)), (.v (.bool u2)), (.wsl 2)]), .same, .to (.row (.ints 46 .u64 u3))]), [false, true, false]⟩
 | _, _ => none
noncomputable def con_drr_Ring_Next : Con := ⟨[none, (some (.row 133 (.st [(.int .u64), .bool])))], fun a c => con_drr_Ring_Next_1 a c, []⟩
noncomputable def con_fifo_Queue_Pop_1 (a : List SV) (c : List Ck) : Option CEff := match a, c with
 | [(.ptr 0 0)], [.blk 144 [(.v (.int .i64 x1)), (.wsl 1), (.v (.int .i64 x2)), (.v (.int .i64 x3))], .row (.row 75 (.st [(.int .u64), (.int .i64), (.int .i64)]) r1)] => some ⟨[lock Obl fun _ => ∃ r, lock F_fifo_Queue_Pop x1 x2 x3 r1 = some r], .many (Int × Int × Int × Bool × Int × Int) (fun r => lock F_fifo_Queue_Pop x1 x2 x3 r1 = some r) (fun | (u0, u1, u2, u3, u4, u5) => (.tup [(.agg [(.v (.int .u64 u0)), (.v (.int .i64 u1)), (.v (.int .i64 u2))]), (.v (.bool u3))])) (fun | (u0, u1, u2, u3, u4, u5) => [.to (.blk 144 [(.v (.int .i64 x1)), (.wsl 1), (.v (.int .i64 u4)), (.v (.int .i64 u5))]), .same]), [false, true]⟩
 | _, _ => none
noncomputable def con_fifo_Queue_Pop : Con := ⟨[none], fun a c => con_fifo_Queue_Pop_1 a c, []⟩
noncomputable def con_bucket_Bucket_Take_1 (a : List SV) (c : List Ck) : Option CEff := match a, c with
 | [(.agg [(.v (.int .u64 x1)), (.v (.int .u64 x2)), (.v (.int .u64 x3))]), (.v (.int .u64 x4))], [] => some ⟨[lock Obl fun _ => ∃ r, lock F_bucket_Bucket_Take x1 x2 x3 x4 = some r], .many (Int × Bool) (fun r => lock F_bucket_Bucket_Take x1 x2 x3 x4 = some r) (fun | (u0, u1) => (.tup [(.agg [(.v (.int .u64 x1)), (.v (.int .u64 x2)), (.v (.int .u64 u0))]), (.v (.bool u1))])) (fun | (u0, u1) => []), []⟩
 | _, _ => none
noncomputable def con_bucket_Bucket_Take : Con := ⟨[none, none], fun a c => con_bucket_Bucket_Take_1 a c, []⟩
noncomputable def con_shaper_Shaper_Next_1 (a : List SV) (c : List Ck) : Option CEff := match a with
 | [(.ptr 0 0)] => (match c with | [g0, g1, g2, g3, g4, g5, g6, g7] => (match g0 with | .blk 92 [(.str s1), (.v (.bool b1)), (.wsl 1), (.wsl 2), (.v (.int .i64 x1)), (.v (.int .u64 x2)), (.wsl 3), (.ptr 4 0)] => (match g1 with | .row (.row 83 (.st [.str, (.int .u64), (.int .u64), (.int .u64), (.int .i64), .bool]) r1) => (match g2 with | .row (.row 96 (.st [(.int .i64), (.int .i64), (.int .i64)]) r2) => (match g3 with | .prow 98 w1 n1 5 => (match g4 with | .blk 169 [(.wsl 6), (.v (.int .i64 x3)), (.v (.bool b2)), (.wsl 7)] => (match g5 with | .gho w2 r3 none => (match g6 with | .row (.ints 46 .u64 l1) => (match g7 with | .row (.ints 46 .u64 l2) => (match Tm.eq tm98 w1 && Tm.eq tm98 w2 with | false => none | true => some ⟨[lock Obl fun _ => ∃ r, lock F_shaper_Shaper_Next s1 b1 x1 x2 r1 r2 n1 x3 b2 r3 l1 l2 = some r], .many (Int × Int × Int × (List UInt8) × Bool × Int × Bool × (List Int) × (List D)) (fun r => lock F_shaper_Shaper_Next s1 b1 x1 x2 r1 r2 n1 x3 b2 r3 l1 l2 = some r) (fun | (u0, u1, u2, u3, u4, u5, u6, u7, u8) => (.tup [(.agg [(.v (.int .u64 u0)), (.v (.int .i64 u1)), (.v (.int .i64 u2))]), (.str u3), (.v (.bool u4))])) (fun | (u0, u1, u2, u3, u4, u5, u6, u7, u8) => [.same, .same, .same, .to (.prow 98 tm98 n1 8), .to (.blk 169 [(.wsl 6), (.v (.int .i64 u5)), (.v (.bool u6)), (.wsl 7)]), .gone, .same, .to (.row (.ints 46 .u64 u7)), .to (.gho tm98 u8 none)]), [true, true, true, false, false, false, true, false]⟩) | _ => none) | _ => none) | _ => none) | _ => none) | _ => none) | _ => none) | _ => none) | _ => none) | _ => none)
 | _ => none
noncomputable def con_shaper_Shaper_Next : Con := ⟨[none], fun a c => con_shaper_Shaper_Next_1 a c, []⟩
noncomputable def con_sat_Mul_1 (a : List SV) (c : List Ck) : Option CEff := match a, c with
 | [(.v (.int .u64 x1)), (.v (.int .u64 x2))], [] => some ⟨[lock Obl fun _ => ∃ r, lock F_sat_Mul x1 x2 = some r], .many (Int) (fun r => lock F_sat_Mul x1 x2 = some r) (fun u0 => (.v (.int .u64 u0))) (fun u0 => []), []⟩
 | _, _ => none
noncomputable def con_sat_Mul : Con := ⟨[none, none], fun a c => con_sat_Mul_1 a c, []⟩
noncomputable def con_sat_Fill_1 (a : List SV) (c : List Ck) : Option CEff := match a, c with
 | [(.v (.int .u64 x1)), (.v (.int .u64 x2)), (.v (.int .u64 x3)), (.v (.int .u64 x4))], [] => some ⟨[lock Obl fun _ => ∃ r, lock F_sat_Fill x1 x2 x3 x4 = some r], .many (Int) (fun r => lock F_sat_Fill x1 x2 x3 x4 = some r) (fun u0 => (.v (.int .u64 u0))) (fun u0 => []), []⟩
 | _, _ => none
noncomputable def con_sat_Fill : Con := ⟨[none, none, none, none], fun a c => con_sat_Fill_1 a c, []⟩
noncomputable def con_bucket_Bucket_Tick_1 (a : List SV) (c : List Ck) : Option CEff := match a, c with
 | [(.agg [(.v (.int .u64 x1)), (.v (.int .u64 x2)), (.v (.int .u64 x3))]), (.v (.int .u64 x4))], [] => some ⟨[lock Obl fun _ => ∃ r, lock F_bucket_Bucket_Tick x1 x2 x3 x4 = some r], .many (Int) (fun r => lock F_bucket_Bucket_Tick x1 x2 x3 x4 = some r) (fun u0 => (.agg [(.v (.int .u64 x1)), (.v (.int .u64 x2)), (.v (.int .u64 u0))])) (fun u0 => []), []⟩
 | _, _ => none
noncomputable def con_bucket_Bucket_Tick : Con := ⟨[none, none], fun a c => con_bucket_Bucket_Tick_1 a c, []⟩
noncomputable def con_shaper_Shaper_Tick_1 (a : List SV) (c : List Ck) : Option CEff := match a with
 | [(.ptr 0 0), (.v (.int .u64 x1))] => (match c with | [g0, g1, g2, g3, g4, g5, g6, g7] => (match g0 with | .blk 92 [(.str s1), (.v (.bool b1)), (.wsl 1), (.wsl 2), (.v (.int .i64 x2)), (.v (.int .u64 x3)), (.wsl 3), (.ptr 4 0)] => (match g1 with | .row (.row 83 (.st [.str, (.int .u64), (.int .u64), (.int .u64), (.int .i64), .bool]) r1) => (match g2 with | .row (.row 96 (.st [(.int .i64), (.int .i64), (.int .i64)]) r2) => (match g3 with | .prow 98 w1 n1 5 => (match g4 with | .blk 169 [(.wsl 6), (.v (.int .i64 x4)), (.v (.bool b2)), (.wsl 7)] => (match g5 with | .gho w2 r3 none => (match g6 with | .row (.ints 46 .u64 l1) => (match g7 with | .row (.ints 46 .u64 l2) => (match Tm.eq tm98 w1 && Tm.eq tm98 w2 with | false => none | true => some ⟨[lock Obl fun _ => ∃ r, lock F_shaper_Shaper_Tick x1 s1 b1 x2 x3 r1 r2 n1 x4 b2 r3 l1 l2 = some r], .many ((List D)) (fun r => lock F_shaper_Shaper_Tick x1 s1 b1 x2 x3 r1 r2 n1 x4 b2 r3 l1 l2 = some r) (fun u0 => (.tup [])) (fun u0 => [.same, .same, .same, .to (.prow 98 tm98 n1 8), .same, .gone, .same, .same, .to (.gho tm98 u0 none)]), [true, true, true, false, true, false, true, true]⟩) | _ => none) | _ => none) | _ => none) | _ => none) | _ => none) | _ => none) | _ => none) | _ => none) | _ => none)
 | _ => none
noncomputable def con_shaper_Shaper_Tick : Con := ⟨[none, none], fun a c => con_shaper_Shaper_Tick_1 a c, []⟩
noncomputable def con_shaper_Shaper_Len_1 (a : List SV) (c : List Ck) : Option CEff := match a with
 | [(.ptr 0 0)] => (match c with | [g0, g1, g2, g3, g4, g5, g6, g7] => (match g0 with | .blk 92 [(.str s1), (.v (.bool b1)), (.wsl 1), (.wsl 2), (.v (.int .i64 x1)), (.v (.int .u64 x2)), (.wsl 3), (.ptr 4 0)] => (match g1 with | .row (.row 83 (.st [.str, (.int .u64), (.int .u64), (.int .u64), (.int .i64), .bool]) r1) => (match g2 with | .row (.row 96 (.st [(.int .i64), (.int .i64), (.int .i64)]) r2) => (match g3 with | .prow 98 w1 n1 5 => (match g4 with | .blk 169 [(.wsl 6), (.v (.int .i64 x3)), (.v (.bool b2)), (.wsl 7)] => (match g5 with | .gho w2 r3 none => (match g6 with | .row (.ints 46 .u64 l1) => (match g7 with | .row (.ints 46 .u64 l2) => (match Tm.eq tm98 w1 && Tm.eq tm98 w2 with | false => none | true => some ⟨[lock Obl fun _ => ∃ r, lock F_shaper_Shaper_Len s1 b1 x1 x2 r1 r2 n1 x3 b2 r3 l1 l2 = some r], .many (Int × (List D)) (fun r => lock F_shaper_Shaper_Len s1 b1 x1 x2 r1 r2 n1 x3 b2 r3 l1 l2 = some r) (fun | (u0, u1) => (.v (.int .i64 u0))) (fun | (u0, u1) => [.same, .same, .same, .to (.prow 98 tm98 n1 8), .same, .gone, .same, .same, .to (.gho tm98 u1 none)]), [true, true, true, false, true, false, true, true]⟩) | _ => none) | _ => none) | _ => none) | _ => none) | _ => none) | _ => none) | _ => none) | _ => none) | _ => none)
 | _ => none
noncomputable def con_shaper_Shaper_Len : Con := ⟨[none], fun a c => con_shaper_Shaper_Len_1 a c, []⟩
noncomputable def con_drr_copied_1 (a : List SV) (c : List Ck) : Option CEff := match a, c with
 | [(.agg [(.v (.int .i64 x1)), (.v (.bool b1)), (.wsl 0)])], [.row (.ints 46 .u64 l1)] => some ⟨[lock Obl fun _ => ∃ r, lock F_drr_copied x1 b1 l1 = some r], .many ((List Int)) (fun r => lock F_drr_copied x1 b1 l1 = some r) (fun u0 => (.agg [(.v (.int .i64 x1)), (.v (.bool b1)), (.wsl 1)])) (fun u0 => [.same, .to (.row (.ints 46 .u64 u0))]), [true]⟩
 | _, _ => none
noncomputable def con_drr_copied_2 (a : List SV) (c : List Ck) : Option CEff := match a, c with
 | [(.agg [(.v (.int .i64 x1)), (.v (.bool b1)), .nsl])], [] => some ⟨[lock Obl fun _ => ∃ r, lock F_drr_copied_2 x1 b1 = some r], .many ((List Int)) (fun r => lock F_drr_copied_2 x1 b1 = some r) (fun u0 => (.agg [(.v (.int .i64 x1)), (.v (.bool b1)), (.wsl 0)])) (fun u0 => [.to (.row (.ints 46 .u64 u0))]), []⟩
 | _, _ => none
noncomputable def con_drr_copied : Con := ⟨[none], fun a c => altC (con_drr_copied_1 a c) (con_drr_copied_2 a c), []⟩
noncomputable def con_drr_Ring_State_1 (a : List SV) (c : List Ck) : Option CEff := match a, c with
 | [(.ptr 0 0)], [.blk 169 [(.wsl 1), (.v (.int .i64 x1)), (.v (.bool b1)), (.wsl 2)], .row (.ints 46 .u64 l1), .row (.ints 46 .u64 l2)] => some ⟨[lock Obl fun _ => ∃ r, lock F_drr_Ring_State x1 b1 l1 l2 = some r], .many ((List Int)) (fun r => lock F_drr_Ring_State x1 b1 l1 l2 = some r) (fun u0 => (.agg [(.v (.int .i64 x1)), (.v (.bool b1)), (.wsl 3)])) (fun u0 => [.same, .same, .same, .to (.row (.ints 46 .u64 u0))]), [true, true, true]⟩
 | _, _ => none
noncomputable def con_drr_Ring_State : Con := ⟨[none], fun a c => con_drr_Ring_State_1 a c, []⟩
noncomputable def con_fifo_Queue_All_1 (a : List SV) (c : List Ck) : Option CEff := match a, c with
 | [(.ptr 0 0)], [.blk 144 [(.v (.int .i64 x1)), (.wsl 1), (.v (.int .i64 x2)), (.v (.int .i64 x3))], .row (.row 75 (.st [(.int .u64), (.int .i64), (.int .i64)]) r1)] => some ⟨[lock Obl fun _ => ∃ r, lock F_fifo_Queue_All x1 x2 x3 r1 = some r], .many ((List D)) (fun r => lock F_fifo_Queue_All x1 x2 x3 r1 = some r) (fun u0 => (.wsl 2)) (fun u0 => [.same, .same, .to (.row (.row 75 (.st [(.int .u64), (.int .i64), (.int .i64)]) u0))]), [true, true]⟩
 | _, _ => none
noncomputable def con_fifo_Queue_All : Con := ⟨[none], fun a c => con_fifo_Queue_All_1 a c, []⟩
noncomputable def con_shaper_Shaper_queues_1 (a : List SV) (c : List Ck) : Option CEff := match a with
 | [(.ptr 0 0)] => (match c with | [g0, g1, g2, g3, g4, g5, g6, g7] => (match g0 with | .blk 92 [(.str s1), (.v (.bool b1)), (.wsl 1), (.wsl 2), (.v (.int .i64 x1)), (.v (.int .u64 x2)), (.wsl 3), (.ptr 4 0)] => (match g1 with | .row (.row 83 (.st [.str, (.int .u64), (.int .u64), (.int .u64), (.int .i64), .bool]) r1) => (match g2 with | .row (.row 96 (.st [(.int .i64), (.int .i64), (.int .i64)]) r2) => (match g3 with | .prow 98 w1 n1 5 => (match g4 with | .blk 169 [(.wsl 6), (.v (.int .i64 x3)), (.v (.bool b2)), (.wsl 7)] => (match g5 with | .gho w2 r3 none => (match g6 with | .row (.ints 46 .u64 l1) => (match g7 with | .row (.ints 46 .u64 l2) => (match Tm.eq tm98 w1 && Tm.eq tm98 w2 with | false => none | true => some ⟨[lock Obl fun _ => ∃ r, lock F_shaper_Shaper_queues s1 b1 x1 x2 r1 r2 n1 x3 b2 r3 l1 l2 = some r], .many ((List D) × (List D)) (fun r => lock F_shaper_Shaper_queues s1 b1 x1 x2 r1 r2 n1 x3 b2 r3 l1 l2 = some r) (fun | (u0, u1) => (.wsl 8)) (fun | (u0, u1) => [.same, .same, .same, .to (.prow 98 tm98 n1 9), .same, .gone, .same, .same, .to (.row (.row 72 (.row 75 (.st [(.int .u64), (.int .i64), (.int .i64)])) u0)), .to (.gho tm98 u1 none)]), [true, true, true, false, true, false, true, true]⟩) | _ => none) | _ => none) | _ => none) | _ => none) | _ => none) | _ => none) | _ => none) | _ => none) | _ => none)
 | _ => none
noncomputable def con_shaper_Shaper_queues : Con := ⟨[none], fun a c => con_shaper_Shaper_queues_1 a c, []⟩
noncomputable def con_shaper_Shaper_Snap_1 (a : List SV) (c : List Ck) : Option CEff := match a with
 | [(.ptr 0 0)] => (match c with | [g0, g1, g2, g3, g4, g5, g6, g7] => (match g0 with | .blk 92 [(.str s1), (.v (.bool b1)), (.wsl 1), (.wsl 2), (.v (.int .i64 x1)), (.v (.int .u64 x2)), (.wsl 3), (.ptr 4 0)] => (match g1 with | .row (.row 83 (.st [.str, (.int .u64), (.int .u64), (.int .u64), (.int .i64), .bool]) r1) => (match g2 with | .row (.row 96 (.st [(.int .i64), (.int .i64), (.int .i64)]) r2) => (match g3 with | .prow 98 w1 n1 5 => (match g4 with | .blk 169 [(.wsl 6), (.v (.int .i64 x3)), (.v (.bool b2)), (.wsl 7)] => (match g5 with | .gho w2 r3 none => (match g6 with | .row (.ints 46 .u64 l1) => (match g7 with | .row (.ints 46 .u64 l2) => (match Tm.eq tm98 w1 && Tm.eq tm98 w2 with | false => none | true => some ⟨[lock Obl fun _ => ∃ r, lock F_shaper_Shaper_Snap s1 b1 x1 x2 r1 r2 n1 x3 b2 r3 l1 l2 = some r], .many ((List Int) × (List Int) × (List D) × (List D)) (fun r => lock F_shaper_Shaper_Snap s1 b1 x1 x2 r1 r2 n1 x3 b2 r3 l1 l2 = some r) (fun | (u0, u1, u2, u3) => (.agg [(.v (.int .u64 x2)), (.rsl (.ints 46 .u64 u0)), (.v (.int .i64 x3)), (.v (.bool b2)), (.rsl (.ints 46 .u64 u1)), (.rsl (.row 72 (.row 75 (.st [(.int .u64), (.int .i64), (.int .i64)])) u2))])) (fun | (u0, u1, u2, u3) => [.same, .same, .same, .to (.prow 98 tm98 n1 8), .same, .gone, .same, .same, .to (.gho tm98 u3 none)]), [true, true, true, false, true, false, true, true]⟩) | _ => none) | _ => none) | _ => none) | _ => none) | _ => none) | _ => none) | _ => none) | _ => none) | _ => none)
 | _ => none
noncomputable def con_shaper_Shaper_Snap : Con := ⟨[none], fun a c => con_shaper_Shaper_Snap_1 a c, []⟩
noncomputable def con_slices_EqualC_1 (a : List SV) (c : List Ck) : Option CEff := match a, c with
 | [(.rsl (.row 83 (.st [.str, (.int .u64), (.int .u64), (.int .u64), (.int .i64), .bool]) r1)), (.rsl (.row 83 (.st [.str, (.int .u64), (.int .u64), (.int .u64), (.int .i64), .bool]) r2))], [] => some ⟨[lock Obl fun _ => ∃ r, lock F_slices_EqualC r1 r2 = some r], .many (Bool) (fun r => lock F_slices_EqualC r1 r2 = some r) (fun u0 => (.v (.bool u0))) (fun u0 => []), []⟩
 | _, _ => none
noncomputable def con_slices_EqualC : Con := ⟨[(some (.row 83 (.st [.str, (.int .u64), (.int .u64), (.int .u64), (.int .i64), .bool]))), (some (.row 83 (.st [.str, (.int .u64), (.int .u64), (.int .u64), (.int .i64), .bool])))], fun a c => con_slices_EqualC_1 a c, []⟩
noncomputable def con_slices_EqualR_1 (a : List SV) (c : List Ck) : Option CEff := match a, c with
 | [(.rsl (.row 96 (.st [(.int .i64), (.int .i64), (.int .i64)]) r1)), (.rsl (.row 96 (.st [(.int .i64), (.int .i64), (.int .i64)]) r2))], [] => some ⟨[lock Obl fun _ => ∃ r, lock F_slices_EqualR r1 r2 = some r], .many (Bool) (fun r => lock F_slices_EqualR r1 r2 = some r) (fun u0 => (.v (.bool u0))) (fun u0 => []), []⟩
 | _, _ => none
noncomputable def con_slices_EqualR : Con := ⟨[(some (.row 96 (.st [(.int .i64), (.int .i64), (.int .i64)]))), (some (.row 96 (.st [(.int .i64), (.int .i64), (.int .i64)])))], fun a c => con_slices_EqualR_1 a c, []⟩
noncomputable def con_plan_Same_1 (a : List SV) (c : List Ck) : Option CEff := match a, c with
 | [(.agg [(.str s1), (.v (.bool b1)), (.wsl 0), .nsl, (.v (.int .i64 x1))]), (.agg [(.str s2), (.v (.bool b2)), (.wsl 1), (.wsl 2), (.v (.int .i64 x2))])], [.row (.row 83 (.st [.str, (.int .u64), (.int .u64), (.int .u64), (.int .i64), .bool]) r1), .row (.row 83 (.st [.str, (.int .u64), (.int .u64), (.int .u64), (.int .i64), .bool]) r2), .row (.row 96 (.st [(.int .i64), (.int .i64), (.int .i64)]) r3)] => some ⟨[lock Obl fun _ => ∃ r, lock F_plan_Same s1 b1 x1 s2 b2 x2 r1 r2 r3 = some r], .many (Bool) (fun r => lock F_plan_Same s1 b1 x1 s2 b2 x2 r1 r2 r3 = some r) (fun u0 => (.v (.bool u0))) (fun u0 => [.same, .same, .same]), [true, true, true]⟩
 | _, _ => none
noncomputable def con_plan_Same : Con := ⟨[none, none], fun a c => con_plan_Same_1 a c, []⟩
noncomputable def con_shaper_Shaper_Apply_1 (a : List SV) (c : List Ck) : Option CEff := match a with
 | [(.ptr 0 0), (.agg [(.str s1), (.v (.bool b1)), (.wsl 1), .nsl, (.v (.int .i64 x1))]), (.v (.bool b2))] => (match c with | [g0, g1, g2, g3, g4, g5, g6, g7, g8] => (match g0 with | .blk 92 [(.str s2), (.v (.bool b3)), (.wsl 2), (.wsl 3), (.v (.int .i64 x2)), (.v (.int .u64 x3)), (.wsl 4), (.ptr 5 0)] => (match g1 with | .row (.row 83 (.st [.str, (.int .u64), (.int .u64), (.int .u64), (.int .i64), .bool]) r1) => (match g2 with | .row (.row 83 (.st [.str, (.int .u64), (.int .u64), (.int .u64), (.int .i64), .bool]) r2) => (match g3 with | .row (.row 96 (.st [(.int .i64), (.int .i64), (.int .i64)]) r3) => (match g4 with | .prow 98 w1 n1 6 => (match g5 with | .blk 169 [(.wsl 7), (.v (.int .i64 x4)), (.v (.bool b4)), (.wsl 8)] => (match g6 with | .gho w2 r4 none => (match g7 with | .row (.ints 46 .u64 l1) => (match g8 with | .row (.ints 46 .u64 l2) => (match Tm.eq tm98 w1 && Tm.eq tm98 w2 with | false => none | true => some ⟨[lock Obl fun _ => ∃ r, lock F_shaper_Shaper_Apply s1 b1 x1 b2 s2 b3 x2 x3 r1 r2 r3 n1 x4 b4 r4 l1 l2 = some r], .many (Int) (fun r => lock F_shaper_Shaper_Apply s1 b1 x1 b2 s2 b3 x2 x3 r1 r2 r3 n1 x4 b4 r4 l1 l2 = some r) (fun u0 => (.v (.int .i64 u0))) (fun u0 => [.same, .same, .same, .same, .same, .same, .same, .same, .same]), [true, true, true, true, true, true, true, true, true]⟩) | _ => none) | _ => none) | _ => none) | _ => none) | _ => none) | _ => none) | _ => none) | _ => none) | _ => none) | _ => none)
 | _ => none
noncomputable def con_shaper_Shaper_Apply : Con := ⟨[none, none, none], fun a c => con_shaper_Shaper_Apply_1 a c, []⟩
noncomputable def con_shaper_Shaper_Port_1 (a : List SV) (c : List Ck) : Option CEff := match a with
 | [(.ptr 0 0)] => (match c with | [g0, g1, g2, g3, g4, g5, g6, g7] => (match g0 with | .blk 92 [(.str s1), (.v (.bool b1)), (.wsl 1), (.wsl 2), (.v (.int .i64 x1)), (.v (.int .u64 x2)), (.wsl 3), (.ptr 4 0)] => (match g1 with | .row (.row 83 (.st [.str, (.int .u64), (.int .u64), (.int .u64), (.int .i64), .bool]) r1) => (match g2 with | .row (.row 96 (.st [(.int .i64), (.int .i64), (.int .i64)]) r2) => (match g3 with | .prow 98 w1 n1 5 => (match g4 with | .blk 169 [(.wsl 6), (.v (.int .i64 x3)), (.v (.bool b2)), (.wsl 7)] => (match g5 with | .gho w2 r3 none => (match g6 with | .row (.ints 46 .u64 l1) => (match g7 with | .row (.ints 46 .u64 l2) => (match Tm.eq tm98 w1 && Tm.eq tm98 w2 with | false => none | true => some ⟨[lock Obl fun _ => ∃ r, lock F_shaper_Shaper_Port s1 b1 x1 x2 r1 r2 n1 x3 b2 r3 l1 l2 = some r], .many ((List D) × (List D)) (fun r => lock F_shaper_Shaper_Port s1 b1 x1 x2 r1 r2 n1 x3 b2 r3 l1 l2 = some r) (fun | (u0, u1) => (.agg [(.str s1), (.v (.bool b1)), (.rsl (.row 83 (.st [.str, (.int .u64), (.int .u64), (.int .u64), (.int .i64), .bool]) u0)), (.rsl (.row 96 (.st [(.int .i64), (.int .i64), (.int .i64)]) u1)), (.v (.int .i64 x1))])) (fun | (u0, u1) => [.same, .same, .same, .same, .same, .same, .same, .same]), [true, true, true, true, true, true, true, true]⟩) | _ => none) | _ => none) | _ => none) | _ => none) | _ => none) | _ => none) | _ => none) | _ => none) | _ => none)
 | _ => none
noncomputable def con_shaper_Shaper_Port : Con := ⟨[none], fun a c => con_shaper_Shaper_Port_1 a c, []⟩
noncomputable def con_snap_Snap_queue_1 (a : List SV) (c : List Ck) : Option CEff := match a, c with
 | [(.agg [(.v (.int .u64 x1)), .nsl, (.v (.int .i64 x2)), (.v (.bool b1)), .nsl, .nsl]), (.rsl (.row 75 (.st [(.int .u64), (.int .i64), (.int .i64)]) r1))], [] => some ⟨[lock Obl fun _ => ∃ r, lock F_snap_Snap_queue x1 x2 b1 r1 = some r], .many (Bool) (fun r => lock F_snap_Snap_queue x1 x2 b1 r1 = some r) (fun u0 => (.v (.bool u0))) (fun u0 => []), []⟩
 | _, _ => none
noncomputable def con_snap_Snap_queue : Con := ⟨[none, (some (.row 75 (.st [(.int .u64), (.int .i64), (.int .i64)])))], fun a c => con_snap_Snap_queue_1 a c, []⟩
noncomputable def con_snap_RightIn_1 (a : List SV) (c : List Ck) : Option CEff := match a, c with
 | [(.rsl (.row 75 (.st [(.int .u64), (.int .i64), (.int .i64)]) r1)), (.ptr 0 0)], [.blk 67 [(.v (.int .u64 x1)), .nsl, (.v (.int .i64 x2)), (.v (.bool b1)), .nsl, .nsl]] => some ⟨[lock Obl fun _ => ∃ r, lock F_snap_RightIn r1 x1 x2 b1 = some r], .many (Bool) (fun r => lock F_snap_RightIn r1 x1 x2 b1 = some r) (fun u0 => (.v (.bool u0))) (fun u0 => [.same]), [true]⟩
 | _, _ => none
noncomputable def con_snap_RightIn : Con := ⟨[(some (.row 75 (.st [(.int .u64), (.int .i64), (.int .i64)])))], fun a c => con_snap_RightIn_1 a c, []⟩
noncomputable def con_slices_IndexFuncQ_1 (a : List SV) (c : List Ck) : Option CEff := match a, c with
 | [(.rsl (.row 72 (.row 75 (.st [(.int .u64), (.int .i64), (.int .i64)])) r1)), (.fn 87 [(.ptr 0 0)])], [.blk 67 [(.v (.int .u64 x1)), .nsl, (.v (.int .i64 x2)), (.v (.bool b1)), .nsl, .nsl]] => some ⟨[lock Obl fun _ => ∃ r, lock F_slices_IndexFuncQ r1 x1 x2 b1 = some r], .many (Int) (fun r => lock F_slices_IndexFuncQ r1 x1 x2 b1 = some r) (fun u0 => (.v (.int .i64 u0))) (fun u0 => [.same]), [true]⟩
 | _, _ => none
noncomputable def con_slices_IndexFuncQ : Con := ⟨[(some (.row 72 (.row 75 (.st [(.int .u64), (.int .i64), (.int .i64)])))), none], fun a c => con_slices_IndexFuncQ_1 a c, []⟩
noncomputable def con_slices_ContainsFunc_1 (a : List SV) (c : List Ck) : Option CEff := match a, c with
 | [(.rsl (.row 72 (.row 75 (.st [(.int .u64), (.int .i64), (.int .i64)])) r1)), (.fn 87 [(.ptr 0 0)])], [.blk 67 [(.v (.int .u64 x1)), .nsl, (.v (.int .i64 x2)), (.v (.bool b1)), .nsl, .nsl]] => some ⟨[lock Obl fun _ => ∃ r, lock F_slices_ContainsFunc r1 x1 x2 b1 = some r], .many (Bool) (fun r => lock F_slices_ContainsFunc r1 x1 x2 b1 = some r) (fun u0 => (.v (.bool u0))) (fun u0 => [.same]), [true]⟩
 | _, _ => none
noncomputable def con_slices_ContainsFunc : Con := ⟨[(some (.row 72 (.row 75 (.st [(.int .u64), (.int .i64), (.int .i64)])))), none], fun a c => con_slices_ContainsFunc_1 a c, []⟩
noncomputable def con_snap_Right_1 (a : List SV) (c : List Ck) : Option CEff := match a, c with
 | [(.agg [(.v (.int .u64 x1)), .nsl, (.v (.int .i64 x2)), (.v (.bool b1)), .nsl, .nsl])], [] => some ⟨[lock Obl fun _ => ∃ r, lock F_snap_Right x1 x2 b1 = some r], .many (Bool) (fun r => lock F_snap_Right x1 x2 b1 = some r) (fun u0 => (.v (.bool u0))) (fun u0 => []), []⟩
 | _, _ => none
noncomputable def con_snap_Right : Con := ⟨[none], fun a c => con_snap_Right_1 a c, []⟩
noncomputable def con_drr_Ring_Restore_1 (a : List SV) (c : List Ck) : Option CEff := match a, c with
 | [(.ptr 0 0), (.agg [(.v (.int .i64 x1)), (.v (.bool b1)), .nsl])], [.blk 169 [(.wsl 1), (.v (.int .i64 x2)), (.v (.bool b2)), (.wsl 2)], .row (.ints 46 .u64 l1), .row (.ints 46 .u64 l2)] => some ⟨[lock Obl fun _ => ∃ r, lock F_drr_Ring_Restore x1 b1 x2 b2 l1 l2 = some r], .many (Bool × Int × Bool × (List Int)) (fun r => lock F_drr_Ring_Restore x1 b1 x2 b2 l1 l2 = some r) (fun | (u0, u1, u2, u3) => (.v (.bool u0))) (fun | (u0, u1, u2, u3) => [.to (.blk 169 [(.wsl 1), (.v (.int .i64 u1)), (.v (.bool u2)), (.wsl 3)]), .same, .gone, .to (.row (.ints 46 .u64 u3))]), [false, true, false]⟩
 | _, _ => none
noncomputable def con_drr_Ring_Restore : Con := ⟨[none, none], fun a c => con_drr_Ring_Restore_1 a c, []⟩
noncomputable def con_shaper_Shaper_Restore_1 (a : List SV) (c : List Ck) : Option CEff := match a with
 | [(.ptr 0 0), (.agg [(.v (.int .u64 x1)), .nsl, (.v (.int .i64 x2)), (.v (.bool b1)), .nsl, .nsl])] => (match c with | [g0, g1, g2, g3, g4, g5, g6, g7] => (match g0 with | .blk 92 [(.str s1), (.v (.bool b2)), (.wsl 1), (.wsl 2), (.v (.int .i64 x3)), (.v (.int .u64 x4)), (.wsl 3), (.ptr 4 0)] => (match g1 with | .row (.row 83 (.st [.str, (.int .u64), (.int .u64), (.int .u64), (.int .i64), .bool]) r1) => (match g2 with | .row (.row 96 (.st [(.int .i64), (.int .i64), (.int .i64)]) r2) => (match g3 with | .prow 98 w1 n1 5 => (match g4 with | .blk 169 [(.wsl 6), (.v (.int .i64 x5)), (.v (.bool b3)), (.wsl 7)] => (match g5 with | .gho w2 r3 none => (match g6 with | .row (.ints 46 .u64 l1) => (match g7 with | .row (.ints 46 .u64 l2) => (match Tm.eq tm98 w1 && Tm.eq tm98 w2 with | false => none | true => some ⟨[lock Obl fun _ => ∃ r, lock F_shaper_Shaper_Restore x1 x2 b1 s1 b2 x3 x4 r1 r2 n1 x5 b3 r3 l1 l2 = some r], .many (Int × Int × Int × Bool × (List Int)) (fun r => lock F_shaper_Shaper_Restore x1 x2 b1 s1 b2 x3 x4 r1 r2 n1 x5 b3 r3 l1 l2 = some r) (fun | (u0, u1, u2, u3, u4) => (.v (.int .i64 u0))) (fun | (u0, u1, u2, u3, u4) => [.to (.blk 92 [(.str s1), (.v (.bool b2)), (.wsl 1), (.wsl 2), (.v (.int .i64 x3)), (.v (.int .u64 u1)), (.wsl 3), (.ptr 4 0)]), .same, .same, .same, .to (.blk 169 [(.wsl 6), (.v (.int .i64 u2)), (.v (.bool u3)), (.wsl 8)]), .same, .same, .gone, .to (.row (.ints 46 .u64 u4))]), [false, true, true, true, false, true, true, false]⟩) | _ => none) | _ => none) | _ => none) | _ => none) | _ => none) | _ => none) | _ => none) | _ => none) | _ => none)
 | _ => none
noncomputable def con_shaper_Shaper_Restore : Con := ⟨[none, none], fun a c => con_shaper_Shaper_Restore_1 a c, []⟩
noncomputable def con_tollbarlaw27_awake_1 (a : List SV) (c : List Ck) : Option CEff := match a, c with
 | [], [] => some ⟨[lock Obl fun _ => ∃ r, lock F_tollbarlaw27_awake = some r], .many (Bool) (fun r => lock F_tollbarlaw27_awake = some r) (fun u0 => (.v (.bool u0))) (fun u0 => []), []⟩
 | _, _ => none
noncomputable def con_tollbarlaw27_awake : Con := ⟨[], fun a c => con_tollbarlaw27_awake_1 a c, []⟩
noncomputable def con_tollbarlaw27_few_1 (a : List SV) (c : List Ck) : Option CEff := match a, c with
 | [(.rsl (.row 33 (.st [.str, .bool, (.row 83 (.st [.str, (.int .u64), (.int .u64), (.int .u64), (.int .i64), .bool])), (.st [(.row 96 (.st [(.int .i64), (.int .i64), (.int .i64)])), (.int .i64)])]) r1)), (.rsl (.row 58 (.st [(.int .i64), (.int .i64), (.int .i64), (.int .u64), (.int .u8)]) r2))], [] => some ⟨[lock Obl fun _ => ∃ r, lock F_tollbarlaw27_few r1 r2 = some r], .many (Bool) (fun r => lock F_tollbarlaw27_few r1 r2 = some r) (fun u0 => (.v (.bool u0))) (fun u0 => []), []⟩
 | _, _ => none
noncomputable def con_tollbarlaw27_few : Con := ⟨[(some (.row 33 (.st [.str, .bool, (.row 83 (.st [.str, (.int .u64), (.int .u64), (.int .u64), (.int .i64), .bool])), (.st [(.row 96 (.st [(.int .i64), (.int .i64), (.int .i64)])), (.int .i64)])]))), (some (.row 58 (.st [(.int .i64), (.int .i64), (.int .i64), (.int .u64), (.int .u8)])))], fun a c => con_tollbarlaw27_few_1 a c, []⟩
noncomputable def con_tollbarlaw27_ShaperRates_1 (a : List SV) (c : List Ck) : Option CEff := match a, c with
 | [(.rsl (.row 33 (.st [.str, .bool, (.row 83 (.st [.str, (.int .u64), (.int .u64), (.int .u64), (.int .i64), .bool])), (.st [(.row 96 (.st [(.int .i64), (.int .i64), (.int .i64)])), (.int .i64)])]) r1)), (.rsl (.row 58 (.st [(.int .i64), (.int .i64), (.int .i64), (.int .u64), (.int .u8)]) r2)), (.v (.int .u8 x1))], [] => some ⟨[lock Obl fun _ => ∃ r, lock F_tollbarlaw27_ShaperRates r1 r2 x1 = some r], .many (Bool) (fun r => lock F_tollbarlaw27_ShaperRates r1 r2 x1 = some r) (fun u0 => (.v (.bool u0))) (fun u0 => []), []⟩
 | _, _ => none
noncomputable def con_tollbarlaw27_ShaperRates : Con := ⟨[], fun a c => con_tollbarlaw27_ShaperRates_1 a c, []⟩
end Go.Proofs.Ytojbpjcfdjakkaa
end
section
/-
  The functions of this seat, made short (printed by a program of ours).
-/
set_option linter.unusedVariables false
set_option maxRecDepth 20000
namespace Go.Proofs.Ytojbpjcfdjakkaa
open Go.RowKit

def r (d : Nat) (o : IOp) : Io := ⟨some d, none, [], o⟩
def r0 (o : IOp) : Io := ⟨none, none, [], o⟩
def ic_6 : IC := (.seq (.reg false [r 6 (.mv (.k (.v (.bool false))))])
 (.seq (.reg false [r 24 (.call 8 []), r 7 (.mv (.t 24))])
 (.seq (.seq (.reg false [r 25 (.mv (.t 7)), r 26 (.bnot (.t 25))])
 (.cond (.t 26)
 (.seq (.reg false [r 6 (.mv (.k (.v (.bool false))))])
 .ret)
 .skip))
 (.seq (.reg false [r 27 (.mv (.t 0)), r 28 (.mv (.t 1)), r 29 (.call 9 [(.t 27), (.t 28)]), r 8 (.mv (.t 29))])
 (.seq (.seq (.reg false [r 30 (.mv (.t 8)), r 31 (.bnot (.t 30)), r 32 (.mv (.t 31)), ⟨some 33, some (32, false), [], .mv (.t 1)⟩, ⟨some 34, some (32, false), [], .len false (.t 33)⟩, ⟨some 35, some (32, false), [], .ib .gt .i64 (.t 34) (.k (.v (.int .i64 120)))⟩, r 36 (.pick (.t 32) (.k (.v (.bool true))) (.t 35))])
 (.cond (.t 36)
 (.seq (.reg false [r 6 (.mv (.k (.v (.bool true))))])
 .ret)
 .skip))
 (.seq (.reg false [r 37 (.mv (.t 0)), r 38 (.idx (.t 37) (.k (.v (.int .i64 0))) 5), r 39 (.lda (.t 38) 5), r 40 (.call 10 [(.t 39)]), r 9 (.mv (.t 40))])
 (.seq (.seq (.reg false [r 41 (.mv (.t 9)), r 42 (.isn 0 false (.t 41))])
 (.cond (.t 42)
 (.seq (.reg false [r 6 (.mv (.k (.v (.bool true))))])
 .ret)
 .skip))
 (.seq (.reg true [r 43 (.mv (.t 0)), ⟨some 44, none, [0], .idx (.t 43) (.k (.v (.int .i64 0))) 5⟩, ⟨some 45, none, [1, 0], .fld (.t 44) 2⟩, ⟨some 46, none, [2, 1, 0], .ld (.t 45)⟩, r 47 (.mv (.t 2)), ⟨some 48, none, [4], .conv .i64 (.t 47)⟩, r 49 (.mv (.t 0)), ⟨some 50, none, [6], .idx (.t 49) (.k (.v (.int .i64 0))) 5⟩, ⟨some 51, none, [7, 6], .fld (.t 50) 2⟩, ⟨some 52, none, [8, 7, 6], .ld (.t 51)⟩, ⟨some 53, none, [9, 8, 7, 6], .len false (.t 52)⟩, ⟨some 54, none, [5, 4, 10, 9, 8, 7, 6], .ib .rem .i64 (.t 48) (.t 53)⟩, ⟨some 55, none, [3, 2, 1, 0, 11, 5, 4, 10, 9, 8, 7, 6], .idx (.t 46) (.t 54) 6⟩, ⟨some 56, none, [12, 3, 2, 1, 0, 11, 5, 4, 10, 9, 8, 7, 6], .lda (.t 55) 6⟩, r 10 (.new 83 [(.str []), (.v (.int .u64 0)), (.v (.int .u64 0)), (.v (.int .u64 0)), (.v (.int .i64 0)), (.v (.bool false))]), ⟨none, none, [14, 13, 12, 3, 2, 1, 0, 11, 5, 4, 10, 9, 8, 7, 6], .st (.t 10) (.t 56) 6⟩])
 (.seq (.seq (.reg false [r 57 (.fld (.t 10) 5), r 58 (.ld (.t 57)), r 59 (.bnot (.t 58)), r 60 (.mv (.t 59)), ⟨some 61, some (60, false), [], .fld (.t 10) 3⟩, ⟨some 62, some (60, false), [], .ld (.t 61)⟩, ⟨some 63, some (60, false), [], .ib .gt .u64 (.t 62) (.k (.v (.int .u64 1000000000)))⟩, r 64 (.pick (.t 60) (.k (.v (.bool true))) (.t 63)), r 65 (.mv (.t 64)), ⟨some 66, some (65, false), [], .fld (.t 10) 2⟩, ⟨some 67, some (65, false), [], .ld (.t 66)⟩, ⟨some 68, some (65, false), [], .ib .gt .u64 (.t 67) (.k (.v (.int .u64 1000000000)))⟩, r 69 (.pick (.t 65) (.k (.v (.bool true))) (.t 68))])
 (.cond (.t 69)
 (.seq (.reg false [r 6 (.mv (.k (.v (.bool true))))])
 .ret)
 .skip))
 (.seq (.reg false [r 11 (.mv (.k .nsl))])
 (.seq (.reg false [r 12 (.mv (.k .nsl))])
 (.seq (.seq (.reg false [r 13 (.mv (.k (.v (.int .i64 0))))])
 (.block 0
 (.loop
 (.seq (.seq (.reg false [r 70 (.mv (.t 13)), r 71 (.mv (.t 1)), r 72 (.len false (.t 71)), r 73 (.ib .lt .i64 (.t 70) (.t 72))])
 (.cond (.t 73)
 .skip
 (.exit 0)))
 (.seq (.block 1
 (.seq (.reg false [r 76 (.mv (.t 1)), r 77 (.mv (.t 13)), r 78 (.idx (.t 76) (.t 77) 5), r 79 (.lda (.t 78) 5), r 14 (.new 58 [(.v (.int .i64 0)), (.v (.int .i64 0)), (.v (.int .i64 0)), (.v (.int .u64 0)), (.v (.int .u8 0))]), r0 (.st (.t 14) (.t 79) 5)])
 (.seq (.reg false [r 15 (.mv (.k (.v (.int .u64 0))))])
 (.seq (.reg false [r 16 (.mv (.k (.v (.int .u64 0))))])
 (.seq (.seq (.reg false [r 80 (.fld (.t 14) 0), r 81 (.ld (.t 80))])
 (.block 2
 (.seq (.reg false [r 83 (.ib .eq .i64 (.t 81) (.k (.v (.int .i64 0)))), r 82 (.mv (.t 83))])
 (.cond (.t 82)
 (.reg false [r 84 (.mv (.t 9)), r 85 (.fld (.t 14) 1), r 86 (.ld (.t 85)), r 87 (.fld (.t 14) 2), r 88 (.ld (.t 87)), r 89 (.call 26 [(.t 84), (.t 86), (.t 88)])])
 (.seq (.reg false [r 91 (.ib .eq .i64 (.t 81) (.k (.v (.int .i64 1)))), r 90 (.mv (.t 91))])
 (.cond (.t 90)
 (.seq (.reg false [r 92 (.fld (.t 14) 3), r 93 (.ld (.t 92)), r 94 (.ib .rem .u64 (.t 93) (.k (.v (.int .u64 10000)))), r 16 (.mv (.t 94))])
 (.reg false [r 95 (.mv (.t 9)), r 96 (.mv (.t 16)), r 97 (.call 28 [(.t 95), (.t 96)])]))
 (.seq (.reg false [r 99 (.ib .eq .i64 (.t 81) (.k (.v (.int .i64 2)))), r 98 (.mv (.t 99))])
 (.cond (.t 98)
 (.seq (.reg false [r 101 (.mv (.t 9)), r 102 (.call 29 [(.t 101)]), r 100 (.mv (.t 102)), r 103 (.ext (.t 100) 0), r 104 (.ext (.t 100) 1), r 105 (.ext (.t 100) 2), r 17 (.new 75 [(.v (.int .u64 0)), (.v (.int .i64 0)), (.v (.int .i64 0))]), r0 (.st (.t 17) (.t 103) 3), r 18 (.mv (.t 104)), r 19 (.mv (.t 105))])
 (.seq (.reg false [r 106 (.mv (.t 19)), r 107 (.mv (.t 106)), ⟨some 108, some (107, true), [], .mv (.t 18)⟩, ⟨some 109, some (107, true), [], .fld (.t 10) 0⟩, ⟨some 110, some (107, true), [], .ld (.t 109)⟩, ⟨some 111, some (107, true), [], .sb .eq (.t 108) (.t 110)⟩, r 112 (.pick (.t 107) (.t 111) (.k (.v (.bool false))))])
 (.cond (.t 112)
 (.reg false [r 113 (.fld (.t 17) 2), r 114 (.ld (.t 113)), r 115 (.conv .u64 (.t 114)), r 15 (.mv (.t 115))])
 .skip)))
 .skip))))))))
 (.seq (.reg false [r 116 (.mv (.t 11)), r 117 (.mv (.t 15)), r 118 (.bsl (.ints 46 .u64) 1 [(.v (.int .u64 0))] [(0, 1, (.t 117))]), r 119 (.app (.ints 46 .u64) 8 (.t 116) (.t 118)), r 11 (.mv (.t 119))])
 (.reg false [r 120 (.mv (.t 12)), r 121 (.mv (.t 16)), r 122 (.bsl (.ints 46 .u64) 1 [(.v (.int .u64 0))] [(0, 1, (.t 121))]), r 123 (.app (.ints 46 .u64) 8 (.t 120) (.t 122)), r 12 (.mv (.t 123))])))))))
 (.reg false [r 74 (.mv (.t 13)), r 75 (.ib .add .i64 (.t 74) (.k (.v (.int .i64 1)))), r 13 (.mv (.t 75))]))))))
 (.seq (.seq (.reg false [r 20 (.mv (.k (.v (.int .i64 0))))])
 (.block 3
 (.loop
 (.seq (.seq (.reg false [r 124 (.mv (.t 20)), r 125 (.mv (.t 1)), r 126 (.len false (.t 125)), r 127 (.ib .lt .i64 (.t 124) (.t 126))])
 (.cond (.t 127)
 .skip
 (.exit 3)))
 (.seq (.block 4
 (.seq (.reg false [r 21 (.mv (.k (.v (.int .u64 0))))])
 (.seq (.reg false [r 22 (.mv (.k (.v (.int .u64 0))))])
 (.seq (.reg false [r 130 (.mv (.t 20)), r 23 (.mv (.t 130))])
 (.block 5
 (.loop
 (.seq (.seq (.reg false [r 131 (.mv (.t 23)), r 132 (.mv (.t 1)), r 133 (.len false (.t 132)), r 134 (.ib .lt .i64 (.t 131) (.t 133))])
 (.cond (.t 134)
 .skip
 (.exit 5)))
 (.seq (.block 6
 (.seq (.reg false [r 137 (.mv (.t 21)), r 138 (.mv (.t 11)), r 139 (.mv (.t 23)), r 140 (.idx (.t 138) (.t 139) 1), r 141 (.ld (.t 140)), r 142 (.ib .add .u64 (.t 137) (.t 141)), r 21 (.mv (.t 142))])
 (.seq (.reg false [r 143 (.mv (.t 22)), r 144 (.mv (.t 12)), r 145 (.mv (.t 23)), r 146 (.idx (.t 144) (.t 145) 1), r 147 (.ld (.t 146)), r 148 (.ib .add .u64 (.t 143) (.t 147)), r 22 (.mv (.t 148))])
 (.seq (.reg false [r 149 (.mv (.t 21)), r 150 (.fld (.t 10) 3), r 151 (.ld (.t 150)), r 152 (.fld (.t 10) 2), r 153 (.ld (.t 152)), r 154 (.mv (.t 22)), r 155 (.ib .mul .u64 (.t 153) (.t 154)), r 156 (.ib .add .u64 (.t 151) (.t 155)), r 157 (.ib .gt .u64 (.t 149) (.t 156))])
 (.cond (.t 157)
 (.seq (.reg false [r 6 (.mv (.k (.v (.bool false))))])
 .ret)
 .skip)))))
 (.reg false [r 135 (.mv (.t 23)), r 136 (.ib .add .i64 (.t 135) (.k (.v (.int .i64 1)))), r 23 (.mv (.t 136))])))))))))
 (.reg false [r 128 (.mv (.t 20)), r 129 (.ib .add .i64 (.t 128) (.k (.v (.int .i64 1)))), r 20 (.mv (.t 129))]))))))
 (.seq (.reg false [r 6 (.mv (.k (.v (.bool true))))])
 .ret))))))))))))))
theorem comp_6 : compF Try.prog Try.f6 = some (ic_6, [.t 6], 158) := by kernel_rfl
-- ros 6 [(some (.row 33 (.st [.str, .bool, (.row 83 (.st [.str, (.int .u64), (.int .u64), (.int .u64), (.int .i64), .bool])), (.st [(.row 96 (.st [(.int .i64), (.int .i64), (.int .i64)])), (.int .i64)])]))), (some (.row 58 (.st [(.int .i64), (.int .i64), (.int .i64), (.int .u64), (.int .u8)]))), none] TYS [(.row 33 (.st [.str, .bool, (.row 83 (.st [.str, (.int .u64), (.int .u64), (.int .u64), (.int .i64), .bool])), (.st [(.row 96 (.st [(.int .i64), (.int .i64), (.int .i64)])), (.int .i64)])])), (.row 58 (.st [(.int .i64), (.int .i64), (.int .i64), (.int .u64), (.int .u8)])), (.int .u8)]

def ic_8 : IC := (.seq (.reg false [r 0 (.mv (.k (.v (.bool false))))])
 (.seq (.reg false [r 18 (.build [(.str []), (.v (.int .u64 0)), (.v (.int .u64 0)), (.v (.int .u64 0)), (.v (.int .i64 0)), (.v (.bool false))] [(0, 1, (.k (.str [120]))), (1, 1, (.k (.v (.int .u64 1500)))), (2, 1, (.k (.v (.int .u64 10)))), (3, 1, (.k (.v (.int .u64 100)))), (4, 1, (.k (.v (.int .i64 2)))), (5, 1, (.k (.v (.bool true))))]), r 19 (.bsl (.row 83 (.st [.str, (.int .u64), (.int .u64), (.int .u64), (.int .i64), .bool])) 1 [(.str []), (.v (.int .u64 0)), (.v (.int .u64 0)), (.v (.int .u64 0)), (.v (.int .i64 0)), (.v (.bool false))] [(0, 6, (.t 18))]), r 20 (.build [(.str []), (.v (.bool false)), .nsl, .nsl, (.v (.int .i64 0))] [(0, 1, (.k (.str [112]))), (1, 1, (.k (.v (.bool true)))), (2, 1, (.t 19))]), r 1 (.new 33 [(.str []), (.v (.bool false)), .nsl, .nsl, (.v (.int .i64 0))]), r0 (.st (.t 1) (.t 20) 5)])
 (.seq (.reg false [r 21 (.lda (.t 1) 5), r 22 (.call 10 [(.t 21)]), r 2 (.mv (.t 22))])
 (.seq (.seq (.reg false [r 23 (.mv (.t 2)), r 24 (.isn 0 false (.t 23))])
 (.cond (.t 24)
 (.seq (.reg false [r 0 (.mv (.k (.v (.bool false))))])
 .ret)
 .skip))
 (.seq (.reg false [r 26 (.mv (.t 2)), r 27 (.call 26 [(.t 26), (.k (.v (.int .i64 1))), (.k (.v (.int .i64 60)))]), r 25 (.mv (.t 27)), r 28 (.ext (.t 25) 0), r 29 (.ext (.t 25) 1), r 3 (.new 75 [(.v (.int .u64 0)), (.v (.int .i64 0)), (.v (.int .i64 0))]), r0 (.st (.t 3) (.t 28) 3), r 4 (.mv (.t 29))])
 (.seq (.reg false [r 31 (.mv (.t 2)), r 32 (.call 26 [(.t 31), (.k (.v (.int .i64 2))), (.k (.v (.int .i64 70)))]), r 30 (.mv (.t 32)), r 33 (.ext (.t 30) 0), r 34 (.ext (.t 30) 1), r 5 (.new 75 [(.v (.int .u64 0)), (.v (.int .i64 0)), (.v (.int .i64 0))]), r0 (.st (.t 5) (.t 33) 3), r 6 (.mv (.t 34))])
 (.seq (.reg false [r 36 (.mv (.t 2)), r 37 (.call 26 [(.t 36), (.k (.v (.int .i64 1))), (.k (.v (.int .i64 5)))]), r 35 (.mv (.t 37)), r 38 (.ext (.t 35) 0), r 39 (.ext (.t 35) 1), r 7 (.new 75 [(.v (.int .u64 0)), (.v (.int .i64 0)), (.v (.int .i64 0))]), r0 (.st (.t 7) (.t 38) 3), r 8 (.mv (.t 39))])
 (.seq (.reg false [r 41 (.mv (.t 2)), r 42 (.call 29 [(.t 41)]), r 40 (.mv (.t 42)), r 43 (.ext (.t 40) 0), r 44 (.ext (.t 40) 1), r 45 (.ext (.t 40) 2), r 9 (.new 75 [(.v (.int .u64 0)), (.v (.int .i64 0)), (.v (.int .i64 0))]), r0 (.st (.t 9) (.t 43) 3), r 10 (.mv (.t 44)), r 11 (.mv (.t 45))])
 (.seq (.reg false [r 47 (.mv (.t 2)), r 48 (.call 29 [(.t 47)]), r 46 (.mv (.t 48)), r 49 (.ext (.t 46) 0), r 50 (.ext (.t 46) 1), r 51 (.ext (.t 46) 2), r 12 (.new 75 [(.v (.int .u64 0)), (.v (.int .i64 0)), (.v (.int .i64 0))]), r0 (.st (.t 12) (.t 49) 3), r 13 (.mv (.t 50)), r 14 (.mv (.t 51))])
 (.seq (.reg false [r 52 (.mv (.t 2)), r 53 (.call 28 [(.t 52), (.k (.v (.int .u64 3)))])])
 (.seq (.reg false [r 55 (.mv (.t 2)), r 56 (.call 29 [(.t 55)]), r 54 (.mv (.t 56)), r 57 (.ext (.t 54) 0), r 58 (.ext (.t 54) 1), r 59 (.ext (.t 54) 2), r 15 (.new 75 [(.v (.int .u64 0)), (.v (.int .i64 0)), (.v (.int .i64 0))]), r0 (.st (.t 15) (.t 57) 3), r 16 (.mv (.t 58)), r 17 (.mv (.t 59))])
 (.seq (.reg false [r 60 (.fld (.t 3) 0), r 61 (.ld (.t 60)), r 62 (.ib .eq .u64 (.t 61) (.k (.v (.int .u64 1)))), r 63 (.mv (.t 62)), ⟨some 64, some (63, true), [], .mv (.t 4)⟩, ⟨some 65, some (63, true), [], .ib .eq .i64 (.t 64) (.k (.v (.int .i64 0)))⟩, r 66 (.pick (.t 63) (.t 65) (.k (.v (.bool false)))), r 67 (.mv (.t 66)), ⟨some 68, some (67, true), [], .mv (.t 6)⟩, ⟨some 69, some (67, true), [], .ib .eq .i64 (.t 68) (.k (.v (.int .i64 0)))⟩, r 70 (.pick (.t 67) (.t 69) (.k (.v (.bool false)))), r 71 (.mv (.t 70)), ⟨some 72, some (71, true), [], .mv (.t 8)⟩, ⟨some 73, some (71, true), [], .ib .eq .i64 (.t 72) (.k (.v (.int .i64 35)))⟩, r 74 (.pick (.t 71) (.t 73) (.k (.v (.bool false)))), r 75 (.mv (.t 74)), ⟨some 76, some (75, true), [], .lda (.t 9) 3⟩, ⟨some 77, some (75, true), [], .lda (.t 3) 3⟩, ⟨some 78, some (75, true), [], .steq [0, 0, 0] false (.t 76) (.t 77)⟩, r 79 (.pick (.t 75) (.t 78) (.k (.v (.bool false)))), r 80 (.mv (.t 79)), ⟨some 81, some (80, true), [], .mv (.t 10)⟩, ⟨some 82, some (80, true), [], .sb .eq (.t 81) (.k (.str [120]))⟩, r 83 (.pick (.t 80) (.t 82) (.k (.v (.bool false)))), r 84 (.mv (.t 83)), ⟨some 85, some (84, true), [], .mv (.t 11)⟩, r 86 (.pick (.t 84) (.t 85) (.k (.v (.bool false)))), r 87 (.mv (.t 86)), ⟨some 88, some (87, true), [], .mv (.t 14)⟩, ⟨some 89, some (87, true), [], .bnot (.t 88)⟩, r 90 (.pick (.t 87) (.t 89) (.k (.v (.bool false)))), r 91 (.mv (.t 90)), ⟨some 92, some (91, true), [], .mv (.t 17)⟩, r 93 (.pick (.t 91) (.t 92) (.k (.v (.bool false)))), r 94 (.mv (.t 93)), ⟨some 95, some (94, true), [], .fld (.t 15) 1⟩, ⟨some 96, some (94, true), [], .ld (.t 95)⟩, ⟨some 97, some (94, true), [], .ib .eq .i64 (.t 96) (.k (.v (.int .i64 2)))⟩, r 98 (.pick (.t 94) (.t 97) (.k (.v (.bool false)))), r 99 (.mv (.t 98)), ⟨some 100, some (99, true), [], .mv (.t 2)⟩, ⟨some 101, some (99, true), [], .call 14 [(.t 100)]⟩, ⟨some 102, some (99, true), [], .ib .eq .i64 (.t 101) (.k (.v (.int .i64 0)))⟩, r 103 (.pick (.t 99) (.t 102) (.k (.v (.bool false)))), r 104 (.mv (.t 103)), ⟨some 105, some (104, true), [], .mv (.t 2)⟩, ⟨some 106, some (104, true), [], .call 21 [(.t 105)]⟩, ⟨some 107, some (104, true), [], .part (.t 106) 1 1 false⟩, ⟨some 108, some (104, true), [], .len false (.t 107)⟩, ⟨some 109, some (104, true), [], .ib .eq .i64 (.t 108) (.k (.v (.int .i64 1)))⟩, r 110 (.pick (.t 104) (.t 109) (.k (.v (.bool false)))), r 111 (.mv (.t 110)), ⟨some 112, some (111, true), [], .mv (.t 2)⟩, ⟨some 113, some (111, true), [], .lda (.t 1) 5⟩, ⟨some 114, some (111, true), [], .call 15 [(.t 112), (.t 113), (.k (.v (.bool false)))]⟩, ⟨some 115, some (111, true), [], .ib .eq .i64 (.t 114) (.k (.v (.int .i64 0)))⟩, r 116 (.pick (.t 111) (.t 115) (.k (.v (.bool false)))), r 117 (.mv (.t 116)), ⟨some 118, some (117, true), [], .mv (.t 2)⟩, ⟨some 119, some (117, true), [], .call 24 [(.t 118)]⟩, ⟨some 120, some (117, true), [], .part (.t 119) 0 1 false⟩, ⟨some 121, some (117, true), [], .sb .eq (.t 120) (.k (.str [112]))⟩, r 122 (.pick (.t 117) (.t 121) (.k (.v (.bool false)))), r 123 (.mv (.t 122)), ⟨some 124, some (123, true), [], .lda (.t 1) 5⟩, ⟨some 125, some (123, true), [], .call 13 [(.t 124)]⟩, r 126 (.pick (.t 123) (.t 125) (.k (.v (.bool false)))), r 127 (.mv (.t 126)), ⟨some 128, some (127, true), [], .build [(.str []), (.v (.bool false)), .nsl, .nsl, (.v (.int .i64 0))] []⟩, ⟨some 129, some (127, true), [], .call 13 [(.t 128)]⟩, ⟨some 130, some (127, true), [], .bnot (.t 129)⟩, r 131 (.pick (.t 127) (.t 130) (.k (.v (.bool false)))), r 132 (.mv (.t 131)), ⟨some 133, some (132, true), [], .mv (.t 2)⟩, ⟨some 134, some (132, true), [], .build [(.v (.int .u64 0)), .nsl, (.v (.int .i64 0)), (.v (.bool false)), .nsl, .nsl] []⟩, ⟨some 135, some (132, true), [], .call 30 [(.t 133), (.t 134)]⟩, ⟨some 136, some (132, true), [], .ib .eq .i64 (.t 135) (.k (.v (.int .i64 1)))⟩, r 137 (.pick (.t 132) (.t 136) (.k (.v (.bool false)))), r 0 (.mv (.t 137))])
 .ret))))))))))))
theorem comp_8 : compF Try.prog Try.f8 = some (ic_8, [.t 0], 138) := by kernel_rfl
-- ros 8 [] TYS []

def ic_9 : IC := (.seq (.reg false [r 4 (.mv (.k (.v (.bool false))))])
 (.seq (.seq (.reg false [r 5 (.mv (.k (.v (.int .i64 0))))])
 (.block 0
 (.loop
 (.seq (.seq (.reg false [r 6 (.mv (.t 5)), r 7 (.mv (.t 0)), r 8 (.len false (.t 7)), r 9 (.ib .lt .i64 (.t 6) (.t 8))])
 (.cond (.t 9)
 .skip
 (.exit 0)))
 (.seq (.block 1
 (.seq (.reg false [r 12 (.mv (.t 0)), r 13 (.mv (.t 5)), r 14 (.idx (.t 12) (.t 13) 5), r 15 (.fld (.t 14) 2), r 16 (.ld (.t 15)), r 17 (.len false (.t 16)), r 18 (.ib .gt .i64 (.t 17) (.k (.v (.int .i64 20)))), r 19 (.mv (.t 18)), ⟨some 20, some (19, false), [], .mv (.t 0)⟩, ⟨some 21, some (19, false), [], .mv (.t 5)⟩, ⟨some 22, some (19, false), [], .idx (.t 20) (.t 21) 5⟩, ⟨some 23, some (19, false), [], .fld (.t 22) 3⟩, ⟨some 24, some (19, false), [], .fld (.t 23) 0⟩, ⟨some 25, some (19, false), [], .ld (.t 24)⟩, ⟨some 26, some (19, false), [], .len false (.t 25)⟩, ⟨some 27, some (19, false), [], .ib .gt .i64 (.t 26) (.k (.v (.int .i64 40)))⟩, r 28 (.pick (.t 19) (.k (.v (.bool true))) (.t 27))])
 (.cond (.t 28)
 (.seq (.reg false [r 4 (.mv (.k (.v (.bool false))))])
 .ret)
 .skip)))
 (.reg false [r 10 (.mv (.t 5)), r 11 (.ib .add .i64 (.t 10) (.k (.v (.int .i64 1)))), r 5 (.mv (.t 11))]))))))
 (.seq (.reg false [r 29 (.mv (.t 0)), r 30 (.len false (.t 29)), r 31 (.ib .gt .i64 (.t 30) (.k (.v (.int .i64 0)))), r 32 (.mv (.t 31)), ⟨some 33, some (32, true), [], .mv (.t 0)⟩, ⟨some 34, some (32, true), [], .len false (.t 33)⟩, ⟨some 35, some (32, true), [], .ib .le .i64 (.t 34) (.k (.v (.int .i64 10)))⟩, r 36 (.pick (.t 32) (.t 35) (.k (.v (.bool false)))), r 37 (.mv (.t 36)), ⟨some 38, some (37, true), [], .mv (.t 1)⟩, ⟨some 39, some (37, true), [], .len false (.t 38)⟩, ⟨some 40, some (37, true), [], .ib .le .i64 (.t 39) (.k (.v (.int .i64 300)))⟩, r 41 (.pick (.t 37) (.t 40) (.k (.v (.bool false)))), r 4 (.mv (.t 41))])
 .ret)))
theorem comp_9 : compF Try.prog Try.f9 = some (ic_9, [.t 4], 42) := by kernel_rfl
-- ros 9 [(some (.row 33 (.st [.str, .bool, (.row 83 (.st [.str, (.int .u64), (.int .u64), (.int .u64), (.int .i64), .bool])), (.st [(.row 96 (.st [(.int .i64), (.int .i64), (.int .i64)])), (.int .i64)])]))), (some (.row 58 (.st [(.int .i64), (.int .i64), (.int .i64), (.int .u64), (.int .u8)])))] TYS [(.row 33 (.st [.str, .bool, (.row 83 (.st [.str, (.int .u64), (.int .u64), (.int .u64), (.int .i64), .bool])), (.st [(.row 96 (.st [(.int .i64), (.int .i64), (.int .i64)])), (.int .i64)])])), (.row 58 (.st [(.int .i64), (.int .i64), (.int .i64), (.int .u64), (.int .u8)]))]

def ic_10 : IC := (.seq (.reg false [r 1 (.box 33 5 (.t 0)), r 2 (.mv (.k (.v (.pointer none))))])
 (.seq (.seq (.reg false [r 4 (.lda (.t 1) 5), r 5 (.call 13 [(.t 4)]), r 6 (.bnot (.t 5))])
 (.cond (.t 6)
 (.seq (.reg false [r 2 (.mv (.k (.v (.pointer none))))])
 .ret)
 .skip))
 (.seq (.reg false [r 7 (.build [(.str []), (.v (.bool false)), .nsl, .nsl, (.v (.int .i64 0)), (.v (.int .u64 0)), .nsl, (.v (.pointer none))] []), r 8 (.box 92 8 (.t 7)), r 3 (.mv (.t 8))])
 (.seq (.reg false [r 9 (.mv (.t 3)), r 10 (.lda (.t 1) 5), r 11 (.call 31 [(.t 9), (.t 10)])])
 (.seq (.reg false [r 12 (.mv (.t 3)), r 2 (.mv (.t 12))])
 .ret)))))
theorem comp_10 : compF Try.prog Try.f10 = some (ic_10, [.t 2], 13) := by kernel_rfl
-- ros 10 [none] TYS [(.st [.str, .bool, (.row 83 (.st [.str, (.int .u64), (.int .u64), (.int .u64), (.int .i64), .bool])), (.st [(.row 96 (.st [(.int .i64), (.int .i64), (.int .i64)])), (.int .i64)])])]

def ic_13 : IC := (.seq (.reg false [r 1 (.box 33 5 (.t 0)), r 2 (.mv (.k (.v (.bool false))))])
 (.seq (.reg false [r 9 (.fld (.t 1) 2), r 10 (.ld (.t 9)), r 11 (.len false (.t 10)), r 3 (.new 3 [(.v (.int .i64 0))]), r0 (.st (.t 3) (.t 11) 1)])
 (.seq (.reg false [r 12 (.mkfn 32 [(.t 3)]), r 4 (.mv (.t 12))])
 (.seq (.seq (.reg false [r 13 (.ld (.t 3)), r 14 (.ib .lt .i64 (.t 13) (.k (.v (.int .i64 1)))), r 15 (.mv (.t 14)), ⟨some 16, some (15, false), [], .ld (.t 3)⟩, ⟨some 17, some (15, false), [], .ib .gt .i64 (.t 16) (.k (.v (.int .i64 8)))⟩, r 18 (.pick (.t 15) (.k (.v (.bool true))) (.t 17)), r 19 (.mv (.t 18)), ⟨some 20, some (19, false), [], .mv (.t 4)⟩, ⟨some 21, some (19, false), [], .fld (.t 1) 3⟩, ⟨some 22, some (19, false), [], .fld (.t 21) 1⟩, ⟨some 23, some (19, false), [], .ld (.t 22)⟩, ⟨some 24, some (19, false), [], .callv (.t 20) [(.t 23)]⟩, ⟨some 25, some (19, false), [], .bnot (.t 24)⟩, r 26 (.pick (.t 19) (.k (.v (.bool true))) (.t 25))])
 (.cond (.t 26)
 (.seq (.reg false [r 2 (.mv (.k (.v (.bool false))))])
 .ret)
 .skip))
 (.seq (.seq (.reg false [r 27 (.fld (.t 1) 2), r 28 (.ld (.t 27)), r 29 (.len false (.t 28)), r 30 (.mv (.k (.v (.int .i64 0))))])
 (.block 0
 (.loop
 (.seq (.reg false [r 31 (.ib .lt .i64 (.t 30) (.t 29))])
 (.seq (.cond (.t 31)
 .skip
 (.exit 0))
 (.seq (.block 1
 (.seq (.reg false [r 32 (.mv (.t 30)), r 33 (.idx (.t 28) (.t 30) 6), r 34 (.lda (.t 33) 6), r 6 (.new 83 [(.str []), (.v (.int .u64 0)), (.v (.int .u64 0)), (.v (.int .u64 0)), (.v (.int .i64 0)), (.v (.bool false))]), r 5 (.mv (.t 32)), r0 (.st (.t 6) (.t 34) 6)])
 (.seq (.reg true [r 35 (.fld (.t 6) 1), ⟨some 36, none, [0], .ld (.t 35)⟩, ⟨some 37, none, [1, 0], .ib .lt .u64 (.t 36) (.k (.v (.int .u64 1500)))⟩, ⟨some 38, none, [2, 1, 0], .mv (.t 37)⟩, ⟨some 39, some (38, false), [3, 2, 1, 0], .fld (.t 6) 4⟩, ⟨some 40, some (38, false), [4, 3, 2, 1, 0], .ld (.t 39)⟩, ⟨some 41, some (38, false), [5, 4, 3, 2, 1, 0], .ib .lt .i64 (.t 40) (.k (.v (.int .i64 1)))⟩, ⟨some 42, none, [3, 2, 1, 0, 6, 5, 4], .pick (.t 38) (.k (.v (.bool true))) (.t 41)⟩, ⟨some 43, none, [7, 3, 2, 1, 0, 6, 5, 4], .mv (.t 42)⟩, ⟨some 44, some (43, false), [8, 7, 3, 2, 1, 0, 6, 5, 4], .fld (.t 6) 4⟩, ⟨some 45, some (43, false), [9, 8, 7, 3, 2, 1, 0, 6, 5, 4], .ld (.t 44)⟩, ⟨some 46, some (43, false), [10, 9, 8, 7, 3, 2, 1, 0, 6, 5, 4], .ib .gt .i64 (.t 45) (.k (.v (.int .i64 64)))⟩, ⟨some 47, none, [8, 7, 3, 2, 1, 0, 6, 5, 4, 11, 10, 9], .pick (.t 43) (.k (.v (.bool true))) (.t 46)⟩, ⟨some 48, none, [12, 8, 7, 3, 2, 1, 0, 6, 5, 4, 11, 10, 9], .mv (.t 47)⟩, ⟨some 49, some (48, false), [13, 12, 8, 7, 3, 2, 1, 0, 6, 5, 4, 11, 10, 9], .mv (.t 5)⟩, ⟨some 50, some (48, false), [14, 13, 12, 8, 7, 3, 2, 1, 0, 6, 5, 4, 11, 10, 9], .ib .gt .i64 (.t 49) (.k (.v (.int .i64 0)))⟩, ⟨some 51, some (48, false), [15, 14, 13, 12, 8, 7, 3, 2, 1, 0, 6, 5, 4, 11, 10, 9], .mv (.t 50)⟩, ⟨some 52, some (51, true), [16, 15, 14, 13, 12, 8, 7, 3, 2, 1, 0, 6, 5, 4, 11, 10, 9], .fld (.t 6) 0⟩, ⟨some 53, some (51, true), [17, 16, 15, 14, 13, 12, 8, 7, 3, 2, 1, 0, 6, 5, 4, 11, 10, 9], .ld (.t 52)⟩, ⟨some 54, some (51, true), [16, 15, 14, 13, 12, 8, 7, 3, 2, 1, 0, 6, 5, 4, 11, 10, 9], .fld (.t 1) 2⟩, ⟨some 55, some (51, true), [19, 16, 15, 14, 13, 12, 8, 7, 3, 2, 1, 0, 6, 5, 4, 11, 10, 9], .ld (.t 54)⟩, ⟨some 56, some (51, true), [16, 15, 14, 13, 12, 8, 7, 3, 2, 1, 0, 6, 5, 4, 11, 10, 9], .mv (.t 5)⟩, ⟨some 57, some (51, true), [21, 16, 15, 14, 13, 12, 8, 7, 3, 2, 1, 0, 6, 5, 4, 11, 10, 9], .ib .sub .i64 (.t 56) (.k (.v (.int .i64 1)))⟩, ⟨some 58, some (51, true), [20, 19, 16, 15, 14, 13, 12, 8, 7, 3, 2, 1, 0, 6, 5, 4, 11, 10, 9, 22, 21], .idx (.t 55) (.t 57) 6⟩, ⟨some 59, some (51, true), [23, 20, 19, 16, 15, 14, 13, 12, 8, 7, 3, 2, 1, 0, 6, 5, 4, 11, 10, 9, 22, 21], .fld (.t 58) 0⟩, ⟨some 60, some (51, true), [24, 23, 20, 19, 16, 15, 14, 13, 12, 8, 7, 3, 2, 1, 0, 6, 5, 4, 11, 10, 9, 22, 21], .ld (.t 59)⟩, ⟨some 61, some (51, true), [18, 17, 16, 15, 14, 13, 12, 8, 7, 3, 2, 1, 0, 6, 5, 4, 11, 10, 9, 25, 24, 23, 20, 19, 22, 21], .sb .le (.t 53) (.t 60)⟩, ⟨some 62, some (48, false), [16, 15, 14, 13, 12, 8, 7, 3, 2, 1, 0, 6, 5, 4, 11, 10, 9, 26, 18, 17, 25, 24, 23, 20, 19, 22, 21], .pick (.t 51) (.t 61) (.k (.v (.bool false)))⟩, ⟨some 63, none, [13, 12, 8, 7, 3, 2, 1, 0, 6, 5, 4, 11, 10, 9, 27, 16, 15, 14, 26, 18, 17, 25, 24, 23, 20, 19, 22, 21], .pick (.t 48) (.k (.v (.bool true))) (.t 62)⟩])
 (.cond (.t 63)
 (.seq (.reg false [r 2 (.mv (.k (.v (.bool false))))])
 .ret)
 .skip))))
 (.reg false [r 64 (.ib .add .i64 (.t 30) (.k (.v (.int .i64 1)))), r 30 (.mv (.t 64))])))))))
 (.seq (.seq (.reg false [r 65 (.fld (.t 1) 3), r 66 (.fld (.t 65) 0), r 67 (.ld (.t 66)), r 68 (.len false (.t 67)), r 69 (.mv (.k (.v (.int .i64 0))))])
 (.block 2
 (.loop
 (.seq (.reg false [r 70 (.ib .lt .i64 (.t 69) (.t 68))])
 (.seq (.cond (.t 70)
 .skip
 (.exit 2))
 (.seq (.block 3
 (.seq (.reg false [r 71 (.idx (.t 67) (.t 69) 3), r 72 (.lda (.t 71) 3), r 8 (.new 96 [(.v (.int .i64 0)), (.v (.int .i64 0)), (.v (.int .i64 0))]), r0 (.st (.t 8) (.t 72) 3)])
 (.seq (.reg false [r 73 (.mv (.t 4)), r 74 (.fld (.t 8) 2), r 75 (.ld (.t 74)), r 76 (.callv (.t 73) [(.t 75)]), r 77 (.bnot (.t 76))])
 (.cond (.t 77)
 (.seq (.reg false [r 2 (.mv (.k (.v (.bool false))))])
 .ret)
 .skip))))
 (.reg false [r 78 (.ib .add .i64 (.t 69) (.k (.v (.int .i64 1)))), r 69 (.mv (.t 78))])))))))
 (.seq (.reg false [r 2 (.mv (.k (.v (.bool true))))])
 .ret)))))))
theorem comp_13 : compF Try.prog Try.f13 = some (ic_13, [.t 2], 79) := by kernel_rfl
-- ros 13 [none] TYS [(.st [.str, .bool, (.row 83 (.st [.str, (.int .u64), (.int .u64), (.int .u64), (.int .i64), .bool])), (.st [(.row 96 (.st [(.int .i64), (.int .i64), (.int .i64)])), (.int .i64)])])]

def ic_14 : IC := (.seq (.reg false [r 2 (.mv (.k (.v (.int .i64 0))))])
 (.seq (.seq (.reg false [r 6 (.mv (.t 0)), r 7 (.isn 0 false (.t 6))])
 (.cond (.t 7)
 (.seq (.reg false [r 2 (.mv (.k (.v (.int .i64 0))))])
 .ret)
 .skip))
 (.seq (.reg false [r 3 (.mv (.k (.v (.int .i64 0))))])
 (.seq (.seq (.reg false [r 8 (.mv (.t 0)), r 9 (.chk (.t 8)), r 10 (.fld (.t 9) 6), r 11 (.ld (.t 10)), r 12 (.len false (.t 11)), r 13 (.mv (.k (.v (.int .i64 0))))])
 (.block 0
 (.loop
 (.seq (.reg false [r 14 (.ib .lt .i64 (.t 13) (.t 12))])
 (.seq (.cond (.t 14)
 .skip
 (.exit 0))
 (.seq (.block 1
 (.seq (.reg false [r 15 (.idx (.t 11) (.t 13) 1), r 16 (.ld (.t 15)), r 5 (.mv (.t 16))])
 (.reg false [r 17 (.mv (.t 3)), r 18 (.mv (.t 5)), r 19 (.chk (.t 18)), r 20 (.fld (.t 19) 9), r 21 (.ld (.t 20)), r 22 (.call 33 [(.t 21)]), r 23 (.ib .add .i64 (.t 17) (.t 22)), r 3 (.mv (.t 23))])))
 (.reg false [r 24 (.ib .add .i64 (.t 13) (.k (.v (.int .i64 1)))), r 13 (.mv (.t 24))])))))))
 (.seq (.reg false [r 25 (.mv (.t 3)), r 2 (.mv (.t 25))])
 .ret)))))
theorem comp_14 : compF Try.prog Try.f14 = some (ic_14, [.t 2], 26) := by kernel_rfl
-- ros 14 [none] TYS [none]

def ic_15 : IC := (.seq (.reg false [r 4 (.box 33 5 (.t 1)), r 6 (.mv (.k (.v (.int .i64 0))))])
 (.seq (.block 0
 (.seq (.reg false [r 17 (.mv (.t 0)), r 18 (.isn 0 false (.t 17)), r 19 (.mv (.t 18)), ⟨some 20, some (19, false), [], .lda (.t 4) 5⟩, ⟨some 21, some (19, false), [], .call 13 [(.t 20)]⟩, ⟨some 22, some (19, false), [], .bnot (.t 21)⟩, r 23 (.pick (.t 19) (.k (.v (.bool true))) (.t 22)), r 16 (.mv (.t 23))])
 (.cond (.t 16)
 (.seq (.reg false [r 6 (.mv (.k (.v (.int .i64 1))))])
 .ret)
 (.seq (.reg true [r 25 (.lda (.t 4) 5), r 26 (.mv (.t 0)), ⟨some 27, none, [1], .chk (.t 26)⟩, ⟨some 28, none, [2, 1], .fld (.t 27) 0⟩, ⟨some 29, none, [3, 2, 1], .lda (.t 28) 5⟩, ⟨some 30, none, [0, 4, 3, 2, 1], .call 34 [(.t 25), (.t 29)]⟩, ⟨some 24, none, [5, 0, 4, 3, 2, 1], .mv (.t 30)⟩])
 (.cond (.t 24)
 (.seq (.reg false [r 6 (.mv (.k (.v (.int .i64 0))))])
 .ret)
 .skip)))))
 (.seq (.reg true [r 32 (.mv (.t 0)), ⟨some 33, none, [0], .chk (.t 32)⟩, ⟨some 34, none, [1, 0], .fld (.t 33) 0⟩, ⟨some 35, none, [2, 1, 0], .lda (.t 34) 5⟩, r 36 (.lda (.t 4) 5), r 37 (.mv (.t 0)), ⟨some 38, none, [5], .call 36 [(.t 37)]⟩, ⟨some 39, none, [3, 2, 1, 0, 4, 6, 5], .call 35 [(.t 35), (.t 36), (.t 38)]⟩, ⟨some 31, none, [7, 3, 2, 1, 0, 4, 6, 5], .mv (.t 39)⟩, ⟨some 40, none, [8, 7, 3, 2, 1, 0, 4, 6, 5], .ext (.t 31) 0⟩, ⟨some 41, none, [8, 7, 3, 2, 1, 0, 4, 6, 5], .ext (.t 31) 1⟩, ⟨some 7, none, [9, 8, 7, 3, 2, 1, 0, 4, 6, 5], .mv (.t 40)⟩, ⟨some 8, none, [10, 8, 7, 3, 2, 1, 0, 4, 6, 5, 11, 9], .mv (.t 41)⟩])
 (.seq (.seq (.reg false [r 42 (.mv (.t 8)), r 43 (.bnot (.t 42)), r 44 (.mv (.t 43)), ⟨some 45, some (44, true), [], .mv (.t 2)⟩, ⟨some 46, some (44, true), [], .bnot (.t 45)⟩, r 47 (.pick (.t 44) (.t 46) (.k (.v (.bool false))))])
 (.cond (.t 47)
 (.seq (.reg false [r 6 (.mv (.k (.v (.int .i64 35))))])
 .ret)
 .skip))
 (.seq (.reg false [r 48 (.mkm (.st [(.int .u64), (.int .u64), (.int .u64)])), r 9 (.mv (.t 48))])
 (.seq (.seq (.reg false [r 49 (.mv (.t 0)), r 50 (.chk (.t 49)), r 51 (.fld (.t 50) 6), r 52 (.ld (.t 51)), r 53 (.len false (.t 52)), r 54 (.mv (.k (.v (.int .i64 0))))])
 (.block 1
 (.loop
 (.seq (.reg false [r 55 (.ib .lt .i64 (.t 54) (.t 53))])
 (.seq (.cond (.t 55)
 .skip
 (.exit 1))
 (.seq (.block 2
 (.seq (.reg false [r 56 (.idx (.t 52) (.t 54) 1), r 57 (.ld (.t 56)), r 11 (.mv (.t 57))])
 (.reg true [r 58 (.mv (.t 9)), r 59 (.mv (.t 11)), ⟨some 60, none, [1], .chk (.t 59)⟩, ⟨some 61, none, [2, 1], .fld (.t 60) 0⟩, ⟨some 62, none, [3, 2, 1], .fld (.t 61) 0⟩, ⟨some 63, none, [4, 3, 2, 1], .ld (.t 62)⟩, r 64 (.mv (.t 11)), ⟨some 65, none, [6], .chk (.t 64)⟩, ⟨some 66, none, [7, 6], .fld (.t 65) 6⟩, ⟨some 67, none, [8, 7, 6], .lda (.t 66) 3⟩, ⟨none, none, [0, 5, 4, 3, 2, 1, 9, 8, 7, 6], .mpu (.st [(.int .u64), (.int .u64), (.int .u64)]) (.t 58) (.t 63) (.t 67)⟩])))
 (.reg false [r 68 (.ib .add .i64 (.t 54) (.k (.v (.int .i64 1)))), r 54 (.mv (.t 68))])))))))
 (.seq (.reg false [r 69 (.mv (.t 0)), r 70 (.lda (.t 4) 5), r 71 (.call 31 [(.t 69), (.t 70)])])
 (.seq (.seq (.reg false [r 72 (.mv (.t 0)), r 73 (.chk (.t 72)), r 74 (.fld (.t 73) 6), r 75 (.ld (.t 74)), r 76 (.len false (.t 75)), r 77 (.mv (.k (.v (.int .i64 0))))])
 (.block 3
 (.loop
 (.seq (.reg false [r 78 (.ib .lt .i64 (.t 77) (.t 76))])
 (.seq (.cond (.t 78)
 .skip
 (.exit 3))
 (.seq (.block 4
 (.seq (.reg false [r 79 (.mv (.t 77)), r 80 (.idx (.t 75) (.t 77) 1), r 81 (.ld (.t 80)), r 12 (.mv (.t 79)), r 13 (.mv (.t 81))])
 (.seq (.seq (.reg false [r 83 (.mv (.t 9)), r 84 (.mv (.t 13)), r 85 (.chk (.t 84)), r 86 (.fld (.t 85) 0), r 87 (.fld (.t 86) 0), r 88 (.ld (.t 87)), r 89 (.mpg (.st [(.int .u64), (.int .u64), (.int .u64)]) true (.t 83) (.t 88)), r 82 (.mv (.t 89)), r 90 (.ext (.t 82) 0), r 91 (.ext (.t 82) 1), r 14 (.new 100 [(.v (.int .u64 0)), (.v (.int .u64 0)), (.v (.int .u64 0))]), r0 (.st (.t 14) (.t 90) 3), r 15 (.mv (.t 91))])
 (.seq (.reg false [r 92 (.mv (.t 15))])
 (.cond (.t 92)
 (.reg true [r 93 (.mv (.t 13)), r 94 (.lda (.t 14) 3), r 95 (.mv (.t 13)), ⟨some 96, none, [2], .chk (.t 95)⟩, ⟨some 97, none, [3, 2], .fld (.t 96) 0⟩, ⟨some 98, none, [4, 3, 2], .fld (.t 97) 2⟩, ⟨some 99, none, [5, 4, 3, 2], .ld (.t 98)⟩, r 100 (.mv (.t 13)), ⟨some 101, none, [7], .chk (.t 100)⟩, ⟨some 102, none, [8, 7], .fld (.t 101) 0⟩, ⟨some 103, none, [9, 8, 7], .fld (.t 102) 3⟩, ⟨some 104, none, [10, 9, 8, 7], .ld (.t 103)⟩, ⟨some 105, none, [1, 6, 5, 4, 3, 2, 11, 10, 9, 8, 7], .call 37 [(.t 94), (.t 99), (.t 104)]⟩, ⟨some 106, none, [0, 1, 2, 3, 4, 5, 6, 7, 8, 9, 10, 11, 12], .chk (.t 93)⟩, ⟨some 107, none, [13, 0, 1, 2, 3, 4, 5, 6, 7, 8, 9, 10, 11, 12], .fld (.t 106) 6⟩, ⟨none, none, [14, 13, 0, 1, 2, 3, 4, 5, 6, 7, 8, 9, 10, 11, 12], .st (.t 107) (.t 105) 3⟩])
 .skip)))
 (.reg true [r 108 (.mv (.t 13)), ⟨some 109, none, [0], .chk (.t 108)⟩, ⟨some 110, none, [1, 0], .fld (.t 109) 9⟩, ⟨some 111, none, [2, 1, 0], .ld (.t 110)⟩, r 112 (.mv (.t 7)), r 113 (.mv (.t 12)), ⟨some 114, none, [4, 5], .idx (.t 112) (.t 113) 1⟩, ⟨some 115, none, [6, 4, 5], .ld (.t 114)⟩, ⟨some 116, none, [3, 2, 1, 0, 7, 6, 4, 5], .call 38 [(.t 111), (.t 115)]⟩]))))
 (.reg false [r 117 (.ib .add .i64 (.t 77) (.k (.v (.int .i64 1)))), r 77 (.mv (.t 117))])))))))
 (.seq (.reg false [r 6 (.mv (.k (.v (.int .i64 0))))])
 .ret)))))))))
theorem comp_15 : compF Try.prog Try.f15 = some (ic_15, [.t 6], 118) := by kernel_rfl
-- ros 15 [none, none, none] TYS [none, (.st [.str, .bool, (.row 83 (.st [.str, (.int .u64), (.int .u64), (.int .u64), (.int .i64), .bool])), (.st [(.row 96 (.st [(.int .i64), (.int .i64), (.int .i64)])), (.int .i64)])]), .bool]

def ic_21 : IC := (.seq (.reg false [r 2 (.new 67 [(.v (.int .u64 0)), .nsl, (.v (.int .i64 0)), (.v (.bool false)), .nsl, .nsl])])
 (.seq (.seq (.reg false [r 6 (.mv (.t 0)), r 7 (.isn 0 false (.t 6))])
 (.cond (.t 7)
 (.seq (.reg false [r 8 (.build [(.v (.int .u64 0)), .nsl, (.v (.int .i64 0)), (.v (.bool false)), .nsl, .nsl] []), r0 (.st (.t 2) (.t 8) 6)])
 .ret)
 .skip))
 (.seq (.reg true [r 9 (.mv (.t 0)), ⟨some 10, none, [0], .chk (.t 9)⟩, ⟨some 11, none, [1, 0], .fld (.t 10) 5⟩, ⟨some 12, none, [2, 1, 0], .ld (.t 11)⟩, r 13 (.mv (.t 0)), ⟨some 14, none, [4], .chk (.t 13)⟩, ⟨some 15, none, [5, 4], .fld (.t 14) 7⟩, ⟨some 16, none, [6, 5, 4], .ld (.t 15)⟩, ⟨some 17, none, [7, 6, 5, 4], .call 48 [(.t 16)]⟩, r 18 (.mv (.t 0)), ⟨some 19, none, [9, 8, 7, 6, 5, 4], .call 36 [(.t 18)]⟩, ⟨some 20, none, [3, 2, 1, 0, 8, 7, 6, 5, 4, 10, 9], .build [(.v (.int .u64 0)), .nsl, (.v (.int .i64 0)), (.v (.bool false)), .nsl, .nsl] [(0, 1, (.t 12)), (2, 3, (.t 17)), (5, 1, (.t 19))]⟩, r 3 (.new 67 [(.v (.int .u64 0)), .nsl, (.v (.int .i64 0)), (.v (.bool false)), .nsl, .nsl]), ⟨none, none, [12, 11, 3, 2, 1, 0, 8, 7, 6, 5, 4, 10, 9], .st (.t 3) (.t 20) 6⟩])
 (.seq (.seq (.reg false [r 21 (.mv (.t 0)), r 22 (.chk (.t 21)), r 23 (.fld (.t 22) 6), r 24 (.ld (.t 23)), r 25 (.len false (.t 24)), r 26 (.mv (.k (.v (.int .i64 0))))])
 (.block 0
 (.loop
 (.seq (.reg false [r 27 (.ib .lt .i64 (.t 26) (.t 25))])
 (.seq (.cond (.t 27)
 .skip
 (.exit 0))
 (.seq (.block 1
 (.seq (.reg false [r 28 (.idx (.t 24) (.t 26) 1), r 29 (.ld (.t 28)), r 5 (.mv (.t 29))])
 (.reg true [r 30 (.fld (.t 3) 1), ⟨some 31, none, [0], .ld (.t 30)⟩, r 32 (.mv (.t 5)), ⟨some 33, none, [2], .chk (.t 32)⟩, ⟨some 34, none, [3, 2], .fld (.t 33) 6⟩, ⟨some 35, none, [4, 3, 2], .fld (.t 34) 2⟩, ⟨some 36, none, [5, 4, 3, 2], .ld (.t 35)⟩, ⟨some 37, none, [6, 5, 4, 3, 2], .bsl (.ints 46 .u64) 1 [(.v (.int .u64 0))] [(0, 1, (.t 36))]⟩, ⟨some 38, none, [1, 0, 7, 6, 5, 4, 3, 2], .app (.ints 46 .u64) 8 (.t 31) (.t 37)⟩, ⟨some 39, none, [0, 1, 2, 3, 4, 5, 6, 7, 8], .fld (.t 3) 1⟩, ⟨none, none, [9, 0, 1, 2, 3, 4, 5, 6, 7, 8], .st (.t 39) (.t 38) 1⟩])))
 (.reg false [r 40 (.ib .add .i64 (.t 26) (.k (.v (.int .i64 1)))), r 26 (.mv (.t 40))])))))))
 (.seq (.reg false [r 41 (.lda (.t 3) 6), r0 (.st (.t 2) (.t 41) 6)])
 .ret)))))
theorem comp_21 : compF Try.prog Try.f21 = some (ic_21, [.c 2 6 true], 42) := by kernel_rfl
-- ros 21 [none] TYS [none]

def ic_24 : IC := (.seq (.reg false [r 2 (.new 33 [(.str []), (.v (.bool false)), .nsl, .nsl, (.v (.int .i64 0))])])
 (.seq (.seq (.reg false [r 3 (.mv (.t 0)), r 4 (.isn 0 false (.t 3))])
 (.cond (.t 4)
 (.seq (.reg false [r 5 (.build [(.str []), (.v (.bool false)), .nsl, .nsl, (.v (.int .i64 0))] []), r0 (.st (.t 2) (.t 5) 5)])
 .ret)
 .skip))
 (.seq (.reg false [r 6 (.mv (.t 0)), r 7 (.chk (.t 6)), r 8 (.fld (.t 7) 0), r 9 (.lda (.t 8) 5), r 10 (.call 50 [(.t 9)]), r0 (.st (.t 2) (.t 10) 5)])
 .ret)))
theorem comp_24 : compF Try.prog Try.f24 = some (ic_24, [.c 2 5 true], 11) := by kernel_rfl
-- ros 24 [none] TYS [none]

def ic_26 : IC := (.seq (.reg false [r 6 (.new 75 [(.v (.int .u64 0)), (.v (.int .i64 0)), (.v (.int .i64 0))]), r 7 (.mv (.k (.v (.int .i64 0))))])
 (.seq (.seq (.reg false [r 9 (.mv (.t 0)), r 10 (.isn 0 false (.t 9)), r 11 (.mv (.t 10)), ⟨some 12, some (11, false), [], .mv (.t 1)⟩, ⟨some 13, some (11, false), [], .ib .lt .i64 (.t 12) (.k (.v (.int .i64 0)))⟩, r 14 (.pick (.t 11) (.k (.v (.bool true))) (.t 13)), r 15 (.mv (.t 14)), ⟨some 16, some (15, false), [], .mv (.t 1)⟩, ⟨some 17, some (15, false), [], .ib .gt .i64 (.t 16) (.k (.v (.int .i64 65535)))⟩, r 18 (.pick (.t 15) (.k (.v (.bool true))) (.t 17)), r 19 (.mv (.t 18)), ⟨some 20, some (19, false), [], .mv (.t 2)⟩, ⟨some 21, some (19, false), [], .ib .lt .i64 (.t 20) (.k (.v (.int .i64 1)))⟩, r 22 (.pick (.t 19) (.k (.v (.bool true))) (.t 21)), r 23 (.mv (.t 22)), ⟨some 24, some (23, false), [], .mv (.t 2)⟩, ⟨some 25, some (23, false), [], .ib .gt .i64 (.t 24) (.k (.v (.int .i64 1500)))⟩, r 26 (.pick (.t 23) (.k (.v (.bool true))) (.t 25))])
 (.cond (.t 26)
 (.seq (.reg false [r 27 (.build [(.v (.int .u64 0)), (.v (.int .i64 0)), (.v (.int .i64 0))] []), r0 (.st (.t 6) (.t 27) 3), r 7 (.mv (.k (.v (.int .i64 1))))])
 .ret)
 .skip))
 (.seq (.reg false [r 28 (.mv (.t 0)), r 29 (.chk (.t 28)), r 30 (.fld (.t 29) 5), r 31 (.ld (.t 30)), r 32 (.ib .add .u64 (.t 31) (.k (.v (.int .u64 1)))), r 33 (.mv (.t 1)), r 34 (.mv (.t 2)), r 35 (.build [(.v (.int .u64 0)), (.v (.int .i64 0)), (.v (.int .i64 0))] [(0, 1, (.t 32)), (1, 1, (.t 33)), (2, 1, (.t 34))]), r 8 (.new 75 [(.v (.int .u64 0)), (.v (.int .i64 0)), (.v (.int .i64 0))]), r0 (.st (.t 8) (.t 35) 3)])
 (.seq (.seq (.reg true [r 36 (.mv (.t 0)), ⟨some 37, none, [0], .chk (.t 36)⟩, ⟨some 38, none, [1, 0], .fld (.t 37) 6⟩, ⟨some 39, none, [2, 1, 0], .ld (.t 38)⟩, r 40 (.mv (.t 0)), ⟨some 41, none, [4], .chk (.t 40)⟩, ⟨some 42, none, [5, 4], .fld (.t 41) 0⟩, ⟨some 43, none, [6, 5, 4], .fld (.t 42) 3⟩, ⟨some 44, none, [7, 6, 5, 4], .lda (.t 43) 2⟩, r 45 (.mv (.t 1)), ⟨some 46, none, [8, 7, 6, 5, 4, 9], .call 51 [(.t 44), (.t 45)]⟩, ⟨some 47, none, [3, 2, 1, 0, 10, 8, 7, 6, 5, 4, 9], .idx (.t 39) (.t 46) 1⟩, ⟨some 48, none, [11, 3, 2, 1, 0, 10, 8, 7, 6, 5, 4, 9], .ld (.t 47)⟩, ⟨some 49, none, [12, 11, 3, 2, 1, 0, 10, 8, 7, 6, 5, 4, 9], .chk (.t 48)⟩, ⟨some 50, none, [13, 12, 11, 3, 2, 1, 0, 10, 8, 7, 6, 5, 4, 9], .fld (.t 49) 9⟩, ⟨some 51, none, [14, 13, 12, 11, 3, 2, 1, 0, 10, 8, 7, 6, 5, 4, 9], .ld (.t 50)⟩, r 52 (.lda (.t 8) 3), ⟨some 53, none, [15, 14, 13, 12, 11, 3, 2, 1, 0, 10, 8, 7, 6, 5, 4, 9, 16], .call 52 [(.t 51), (.t 52)]⟩, ⟨some 54, none, [17, 15, 14, 13, 12, 11, 3, 2, 1, 0, 10, 8, 7, 6, 5, 4, 9, 16], .bnot (.t 53)⟩])
 (.cond (.t 54)
 (.seq (.reg false [r 55 (.build [(.v (.int .u64 0)), (.v (.int .i64 0)), (.v (.int .i64 0))] []), r0 (.st (.t 6) (.t 55) 3), r 7 (.mv (.k (.v (.int .i64 35))))])
 .ret)
 .skip))
 (.seq (.reg false [r 56 (.mv (.t 0)), r 57 (.chk (.t 56)), r 58 (.fld (.t 57) 5), r 59 (.ld (.t 58)), r 60 (.ib .add .u64 (.t 59) (.k (.v (.int .u64 1)))), r 61 (.chk (.t 56)), r 62 (.fld (.t 61) 5), r0 (.st (.t 62) (.t 60) 1)])
 (.seq (.reg false [r 63 (.lda (.t 8) 3), r0 (.st (.t 6) (.t 63) 3), r 7 (.mv (.k (.v (.int .i64 0))))])
 .ret))))))
theorem comp_26 : compF Try.prog Try.f26 = some (ic_26, [.c 6 3 true, .t 7], 64) := by kernel_rfl
-- ros 26 [none, none, none] TYS [none, (.int .i64), (.int .i64)]

def ic_28 : IC := (.seq (.seq (.reg false [r 6 (.mv (.t 0)), r 7 (.isn 0 false (.t 6))])
 (.cond (.t 7)
 .ret
 .skip))
 (.seq (.reg false [r 8 (.mv (.t 0)), r 9 (.chk (.t 8)), r 10 (.fld (.t 9) 6), r 11 (.ld (.t 10)), r 12 (.len false (.t 11)), r 13 (.mv (.k (.v (.int .i64 0))))])
 (.block 0
 (.loop
 (.seq (.reg false [r 14 (.ib .lt .i64 (.t 13) (.t 12))])
 (.seq (.cond (.t 14)
 .skip
 (.exit 0))
 (.seq (.block 1
 (.seq (.reg false [r 15 (.idx (.t 11) (.t 13) 1), r 16 (.ld (.t 15)), r 5 (.mv (.t 16))])
 (.reg false [r 17 (.mv (.t 5)), r 18 (.mv (.t 5)), r 19 (.chk (.t 18)), r 20 (.fld (.t 19) 6), r 21 (.lda (.t 20) 3), r 22 (.mv (.t 1)), r 23 (.call 53 [(.t 21), (.t 22)]), r 24 (.chk (.t 17)), r 25 (.fld (.t 24) 6), r0 (.st (.t 25) (.t 23) 3)])))
 (.reg false [r 26 (.ib .add .i64 (.t 13) (.k (.v (.int .i64 1)))), r 13 (.mv (.t 26))]))))))))
theorem comp_28 : compF Try.prog Try.f28 = some (ic_28, [], 27) := by kernel_rfl
-- ros 28 [none, none] TYS [none, (.int .u64)]

def ic_29 : IC := (.seq (.reg false [r 2 (.new 75 [(.v (.int .u64 0)), (.v (.int .i64 0)), (.v (.int .i64 0))]), r 3 (.mv (.k (.str []))), r 4 (.mv (.k (.v (.bool false))))])
 (.seq (.seq (.reg false [r 12 (.mv (.t 0)), r 13 (.isn 0 false (.t 12))])
 (.cond (.t 13)
 (.seq (.reg false [r 14 (.build [(.v (.int .u64 0)), (.v (.int .i64 0)), (.v (.int .i64 0))] []), r0 (.st (.t 2) (.t 14) 3), r 3 (.mv (.k (.str []))), r 4 (.mv (.k (.v (.bool false))))])
 .ret)
 .skip))
 (.seq (.reg false [r 5 (.mv (.k .nsl))])
 (.seq (.seq (.reg false [r 15 (.mv (.t 0)), r 16 (.chk (.t 15)), r 17 (.fld (.t 16) 6), r 18 (.ld (.t 17)), r 19 (.len false (.t 18)), r 20 (.mv (.k (.v (.int .i64 0))))])
 (.block 0
 (.loop
 (.seq (.reg false [r 21 (.ib .lt .i64 (.t 20) (.t 19))])
 (.seq (.cond (.t 21)
 .skip
 (.exit 0))
 (.seq (.block 1
 (.seq (.reg false [r 22 (.idx (.t 18) (.t 20) 1), r 23 (.ld (.t 22)), r 7 (.mv (.t 23))])
 (.reg false [r 24 (.mv (.t 5)), r 25 (.mv (.t 0)), r 26 (.mv (.t 7)), r 27 (.call 54 [(.t 25), (.t 26)]), r 28 (.bsl (.row 133 (.st [(.int .u64), .bool])) 1 [(.v (.int .u64 0)), (.v (.bool false))] [(0, 2, (.t 27))]), r 29 (.app (.row 133 (.st [(.int .u64), .bool])) 16 (.t 24) (.t 28)), r 5 (.mv (.t 29))])))
 (.reg false [r 30 (.ib .add .i64 (.t 20) (.k (.v (.int .i64 1)))), r 20 (.mv (.t 30))])))))))
 (.seq (.reg false [r 31 (.mv (.t 0)), r 32 (.chk (.t 31)), r 33 (.fld (.t 32) 7), r 34 (.ld (.t 33)), r 35 (.mv (.t 5)), r 36 (.call 55 [(.t 34), (.t 35)]), r 8 (.mv (.t 36))])
 (.seq (.seq (.reg false [r 37 (.mv (.t 8)), r 38 (.ib .lt .i64 (.t 37) (.k (.v (.int .i64 0))))])
 (.cond (.t 38)
 (.seq (.reg false [r 39 (.build [(.v (.int .u64 0)), (.v (.int .i64 0)), (.v (.int .i64 0))] []), r0 (.st (.t 2) (.t 39) 3), r 3 (.mv (.k (.str []))), r 4 (.mv (.k (.v (.bool false))))])
 .ret)
 .skip))
 (.seq (.reg false [r 40 (.mv (.t 0)), r 41 (.chk (.t 40)), r 42 (.fld (.t 41) 6), r 43 (.ld (.t 42)), r 44 (.mv (.t 8)), r 45 (.idx (.t 43) (.t 44) 1), r 46 (.ld (.t 45)), r 9 (.mv (.t 46))])
 (.seq (.reg false [r 48 (.mv (.t 9)), r 49 (.chk (.t 48)), r 50 (.fld (.t 49) 9), r 51 (.ld (.t 50)), r 52 (.call 56 [(.t 51)]), r 47 (.mv (.t 52)), r 53 (.ext (.t 47) 0), r 54 (.ext (.t 47) 1), r 10 (.new 75 [(.v (.int .u64 0)), (.v (.int .i64 0)), (.v (.int .i64 0))]), r0 (.st (.t 10) (.t 53) 3), r 11 (.mv (.t 54))])
 (.seq (.seq (.reg false [r 55 (.mv (.t 9)), r 56 (.chk (.t 55)), r 57 (.fld (.t 56) 0), r 58 (.fld (.t 57) 5), r 59 (.ld (.t 58))])
 (.cond (.t 59)
 (.reg true [r 61 (.mv (.t 9)), r 62 (.mv (.t 9)), ⟨some 63, none, [1], .chk (.t 62)⟩, ⟨some 64, none, [2, 1], .fld (.t 63) 6⟩, ⟨some 65, none, [3, 2, 1], .lda (.t 64) 3⟩, r 66 (.fld (.t 10) 2), ⟨some 67, none, [5], .ld (.t 66)⟩, ⟨some 68, none, [6, 5], .conv .u64 (.t 67)⟩, ⟨some 69, none, [4, 3, 2, 1, 7, 6, 5], .call 57 [(.t 65), (.t 68)]⟩, ⟨some 60, none, [8, 4, 3, 2, 1, 7, 6, 5], .mv (.t 69)⟩, ⟨some 70, none, [9, 8, 4, 3, 2, 1, 7, 6, 5], .ext (.t 60) 0⟩, ⟨some 71, none, [9, 8, 4, 3, 2, 1, 7, 6, 5], .ext (.t 60) 1⟩, ⟨some 72, none, [0, 1, 2, 3, 4, 5, 6, 7, 8, 9, 10], .chk (.t 61)⟩, ⟨some 73, none, [12, 0, 1, 2, 3, 4, 5, 6, 7, 8, 9, 10], .fld (.t 72) 6⟩, ⟨none, none, [13, 12, 0, 1, 2, 3, 4, 5, 6, 7, 8, 9, 10], .st (.t 73) (.t 70) 3⟩])
 .skip))
 (.seq (.reg true [r 74 (.lda (.t 10) 3), r 75 (.mv (.t 9)), ⟨some 76, none, [1], .chk (.t 75)⟩, ⟨some 77, none, [2, 1], .fld (.t 76) 0⟩, ⟨some 78, none, [3, 2, 1], .fld (.t 77) 0⟩, ⟨some 79, none, [4, 3, 2, 1], .ld (.t 78)⟩, ⟨none, none, [0], .st (.t 2) (.t 74) 3⟩, ⟨some 3, none, [5, 4, 3, 2, 1, 6, 0], .mv (.t 79)⟩, ⟨some 4, none, [7, 5, 4, 3, 2, 1, 6, 0], .mv (.k (.v (.bool true)))⟩])
 .ret))))))))))
theorem comp_29 : compF Try.prog Try.f29 = some (ic_29, [.c 2 3 true, .t 3, .t 4], 80) := by kernel_rfl
-- ros 29 [none] TYS [none]

def ic_30 : IC := (.seq (.reg false [r 3 (.box 67 6 (.t 1)), r 4 (.mv (.k (.v (.int .i64 0))))])
 (.seq (.seq (.reg true [r 7 (.mv (.t 0)), ⟨some 8, none, [0], .isn 0 false (.t 7)⟩, ⟨some 9, none, [1, 0], .mv (.t 8)⟩, ⟨some 10, some (9, false), [2, 1, 0], .lda (.t 3) 6⟩, ⟨some 11, some (9, false), [3, 2, 1, 0], .call 58 [(.t 10)]⟩, ⟨some 12, some (9, false), [4, 3, 2, 1, 0], .bnot (.t 11)⟩, ⟨some 13, none, [2, 1, 0, 5, 4, 3], .pick (.t 9) (.k (.v (.bool true))) (.t 12)⟩, ⟨some 14, none, [6, 2, 1, 0, 5, 4, 3], .mv (.t 13)⟩, ⟨some 15, some (14, false), [7, 6, 2, 1, 0, 5, 4, 3], .fld (.t 3) 1⟩, ⟨some 16, some (14, false), [8, 7, 6, 2, 1, 0, 5, 4, 3], .ld (.t 15)⟩, ⟨some 17, some (14, false), [9, 8, 7, 6, 2, 1, 0, 5, 4, 3], .len false (.t 16)⟩, ⟨some 18, some (14, false), [7, 6, 2, 1, 0, 5, 4, 3], .mv (.t 0)⟩, ⟨some 19, some (14, false), [11, 7, 6, 2, 1, 0, 5, 4, 3], .chk (.t 18)⟩, ⟨some 20, some (14, false), [12, 11, 7, 6, 2, 1, 0, 5, 4, 3], .fld (.t 19) 6⟩, ⟨some 21, some (14, false), [13, 12, 11, 7, 6, 2, 1, 0, 5, 4, 3], .ld (.t 20)⟩, ⟨some 22, some (14, false), [14, 13, 12, 11, 7, 6, 2, 1, 0, 5, 4, 3], .len false (.t 21)⟩, ⟨some 23, some (14, false), [10, 9, 8, 7, 6, 2, 1, 0, 5, 4, 3, 15, 14, 13, 12, 11], .ib .ne .i64 (.t 17) (.t 22)⟩, ⟨some 24, none, [7, 6, 2, 1, 0, 5, 4, 3, 16, 10, 9, 8, 15, 14, 13, 12, 11], .pick (.t 14) (.k (.v (.bool true))) (.t 23)⟩])
 (.cond (.t 24)
 (.seq (.reg false [r 4 (.mv (.k (.v (.int .i64 1))))])
 .ret)
 .skip))
 (.seq (.reg false [r 25 (.mv (.t 0)), r 26 (.fld (.t 3) 0), r 27 (.ld (.t 26)), r 28 (.chk (.t 25)), r 29 (.fld (.t 28) 5), r0 (.st (.t 29) (.t 27) 1)])
 (.seq (.reg true [r 30 (.mv (.t 0)), ⟨some 31, none, [0], .chk (.t 30)⟩, ⟨some 32, none, [1, 0], .fld (.t 31) 7⟩, ⟨some 33, none, [2, 1, 0], .ld (.t 32)⟩, r 34 (.fld (.t 3) 2), ⟨some 35, none, [4], .lda (.t 34) 3⟩, ⟨some 36, none, [3, 2, 1, 0, 5, 4], .call 59 [(.t 33), (.t 35)]⟩])
 (.seq (.seq (.reg false [r 37 (.mv (.t 0)), r 38 (.chk (.t 37)), r 39 (.fld (.t 38) 6), r 40 (.ld (.t 39)), r 41 (.len false (.t 40)), r 42 (.mv (.k (.v (.int .i64 0))))])
 (.block 0
 (.loop
 (.seq (.reg false [r 43 (.ib .lt .i64 (.t 42) (.t 41))])
 (.seq (.cond (.t 43)
 .skip
 (.exit 0))
 (.seq (.block 1
 (.seq (.reg false [r 44 (.mv (.t 42)), r 45 (.idx (.t 40) (.t 42) 1), r 46 (.ld (.t 45)), r 5 (.mv (.t 44)), r 6 (.mv (.t 46))])
 (.seq (.reg false [r 47 (.mv (.t 6)), r 48 (.fld (.t 3) 1), r 49 (.ld (.t 48)), r 50 (.mv (.t 5)), r 51 (.idx (.t 49) (.t 50) 1), r 52 (.ld (.t 51)), r 53 (.chk (.t 47)), r 54 (.fld (.t 53) 6), r 55 (.fld (.t 54) 2), r0 (.st (.t 55) (.t 52) 1)])
 (.reg true [r 56 (.mv (.t 6)), ⟨some 57, none, [0], .chk (.t 56)⟩, ⟨some 58, none, [1, 0], .fld (.t 57) 9⟩, ⟨some 59, none, [2, 1, 0], .ld (.t 58)⟩, r 60 (.fld (.t 3) 5), ⟨some 61, none, [4], .ld (.t 60)⟩, r 62 (.mv (.t 5)), ⟨some 63, none, [5, 4, 6], .idx (.t 61) (.t 62) 1⟩, ⟨some 64, none, [7, 5, 4, 6], .ld (.t 63)⟩, ⟨some 65, none, [3, 2, 1, 0, 8, 7, 5, 4, 6], .call 38 [(.t 59), (.t 64)]⟩]))))
 (.reg false [r 66 (.ib .add .i64 (.t 42) (.k (.v (.int .i64 1)))), r 42 (.mv (.t 66))])))))))
 (.seq (.reg false [r 4 (.mv (.k (.v (.int .i64 0))))])
 .ret))))))
theorem comp_30 : compF Try.prog Try.f30 = some (ic_30, [.t 4], 67) := by kernel_rfl
-- ros 30 [none, none] TYS [none, (.st [(.int .u64), (.ints 46 .u64), (.st [(.int .i64), .bool, (.ints 46 .u64)]), (.row 72 (.row 75 (.st [(.int .u64), (.int .i64), (.int .i64)])))])]

def ic_31 : IC := (.seq (.reg false [r 3 (.box 33 5 (.t 1))])
 (.seq (.reg false [r 7 (.mv (.t 0)), r 8 (.lda (.t 3) 5), r 9 (.call 50 [(.t 8)]), r 10 (.chk (.t 7)), r 11 (.fld (.t 10) 0), r0 (.st (.t 11) (.t 9) 5)])
 (.seq (.reg false [r 12 (.mv (.t 0)), r 13 (.chk (.t 12)), r 14 (.fld (.t 13) 6), r0 (.st (.t 14) (.k .nsl) 1)])
 (.seq (.reg false [r 4 (.mv (.k .nsl))])
 (.seq (.seq (.reg false [r 15 (.fld (.t 3) 2), r 16 (.ld (.t 15)), r 17 (.len false (.t 16)), r 18 (.mv (.k (.v (.int .i64 0))))])
 (.block 0
 (.loop
 (.seq (.reg false [r 19 (.ib .lt .i64 (.t 18) (.t 17))])
 (.seq (.cond (.t 19)
 .skip
 (.exit 0))
 (.seq (.block 1
 (.seq (.reg false [r 20 (.idx (.t 16) (.t 18) 6), r 21 (.lda (.t 20) 6), r 6 (.new 83 [(.str []), (.v (.int .u64 0)), (.v (.int .u64 0)), (.v (.int .u64 0)), (.v (.int .i64 0)), (.v (.bool false))]), r0 (.st (.t 6) (.t 21) 6)])
 (.seq (.reg true [r 22 (.mv (.t 0)), r 23 (.mv (.t 0)), ⟨some 24, none, [1], .chk (.t 23)⟩, ⟨some 25, none, [2, 1], .fld (.t 24) 6⟩, ⟨some 26, none, [3, 2, 1], .ld (.t 25)⟩, r 27 (.lda (.t 6) 6), r 28 (.fld (.t 6) 2), ⟨some 29, none, [6], .ld (.t 28)⟩, r 30 (.fld (.t 6) 3), ⟨some 31, none, [8], .ld (.t 30)⟩, ⟨some 32, none, [7, 6, 9, 8], .call 60 [(.t 29), (.t 31)]⟩, r 33 (.fld (.t 6) 4), ⟨some 34, none, [11], .ld (.t 33)⟩, ⟨some 35, none, [12, 11, 10, 7, 6, 9, 8], .call 61 [(.t 34)]⟩, ⟨some 36, none, [5, 10, 7, 6, 9, 8, 13, 12, 11], .build [(.str []), (.v (.int .u64 0)), (.v (.int .u64 0)), (.v (.int .u64 0)), (.v (.int .i64 0)), (.v (.bool false)), (.v (.int .u64 0)), (.v (.int .u64 0)), (.v (.int .u64 0)), (.v (.pointer none))] [(0, 6, (.t 27)), (6, 3, (.t 32)), (9, 1, (.t 35))]⟩, ⟨some 37, none, [14, 5, 10, 7, 6, 9, 8, 13, 12, 11], .box 103 10 (.t 36)⟩, ⟨some 38, none, [15, 14, 5, 10, 7, 6, 9, 8, 13, 12, 11], .bsld 98 tm98 (.t 37)⟩, ⟨some 39, none, [4, 3, 2, 1, 16, 15, 14, 5, 10, 7, 6, 9, 8, 13, 12, 11], .appd 98 tm98 8 (.t 26) (.t 38)⟩, ⟨some 40, none, [0, 1, 2, 3, 4, 5, 6, 7, 8, 9, 10, 11, 12, 13, 14, 15, 16, 17], .chk (.t 22)⟩, ⟨some 41, none, [18, 0, 1, 2, 3, 4, 5, 6, 7, 8, 9, 10, 11, 12, 13, 14, 15, 16, 17], .fld (.t 40) 6⟩, ⟨none, none, [19, 18, 0, 1, 2, 3, 4, 5, 6, 7, 8, 9, 10, 11, 12, 13, 14, 15, 16, 17], .st (.t 41) (.t 39) 1⟩])
 (.reg false [r 42 (.mv (.t 4)), r 43 (.fld (.t 6) 1), r 44 (.ld (.t 43)), r 45 (.bsl (.ints 46 .u64) 1 [(.v (.int .u64 0))] [(0, 1, (.t 44))]), r 46 (.app (.ints 46 .u64) 8 (.t 42) (.t 45)), r 4 (.mv (.t 46))]))))
 (.reg false [r 47 (.ib .add .i64 (.t 18) (.k (.v (.int .i64 1)))), r 18 (.mv (.t 47))])))))))
 (.reg false [r 48 (.mv (.t 0)), r 49 (.mv (.t 4)), r 50 (.call 62 [(.t 49)]), r 51 (.chk (.t 48)), r 52 (.fld (.t 51) 7), r0 (.st (.t 52) (.t 50) 1)]))))))
theorem comp_31 : compF Try.prog Try.f31 = some (ic_31, [], 53) := by kernel_rfl
-- ros 31 [none, none] TYS [none, (.st [.str, .bool, (.row 83 (.st [.str, (.int .u64), (.int .u64), (.int .u64), (.int .i64), .bool])), (.st [(.row 96 (.st [(.int .i64), (.int .i64), (.int .i64)])), (.int .i64)])])]

def ic_32 : IC := (.seq (.reg false [r 3 (.mv (.k (.v (.bool false))))])
 (.seq (.reg false [r 4 (.mv (.t 0)), r 5 (.ib .ge .i64 (.t 4) (.k (.v (.int .i64 0)))), r 6 (.mv (.t 5)), ⟨some 7, some (6, true), [], .mv (.t 0)⟩, ⟨some 8, some (6, true), [], .ld (.t 1)⟩, ⟨some 9, some (6, true), [], .ib .lt .i64 (.t 7) (.t 8)⟩, r 10 (.pick (.t 6) (.t 9) (.k (.v (.bool false)))), r 3 (.mv (.t 10))])
 .ret))
theorem comp_32 : compF Try.prog Try.f32 = some (ic_32, [.t 3], 11) := by kernel_rfl
-- ros 32 [none] TYS [(.int .i64)]

def ic_33 : IC := (.seq (.reg false [r 2 (.mv (.k (.v (.int .i64 0))))])
 (.seq (.seq (.reg false [r 3 (.mv (.t 0)), r 4 (.isn 0 false (.t 3))])
 (.cond (.t 4)
 (.seq (.reg false [r 2 (.mv (.k (.v (.int .i64 0))))])
 .ret)
 .skip))
 (.seq (.reg false [r 5 (.mv (.t 0)), r 6 (.chk (.t 5)), r 7 (.fld (.t 6) 3), r 8 (.ld (.t 7)), r 2 (.mv (.t 8))])
 .ret)))
theorem comp_33 : compF Try.prog Try.f33 = some (ic_33, [.t 2], 9) := by kernel_rfl
-- ros 33 [none] TYS [none]

def ic_34 : IC := (.seq (.reg false [r 2 (.box 33 5 (.t 0)), r 3 (.box 33 5 (.t 1)), r 4 (.mv (.k (.v (.bool false))))])
 (.seq (.reg false [r 5 (.fld (.t 2) 0), r 6 (.ld (.t 5)), r 7 (.fld (.t 3) 0), r 8 (.ld (.t 7)), r 9 (.sb .eq (.t 6) (.t 8)), r 10 (.mv (.t 9)), ⟨some 11, some (10, true), [], .fld (.t 2) 1⟩, ⟨some 12, some (10, true), [], .ld (.t 11)⟩, ⟨some 13, some (10, true), [], .fld (.t 3) 1⟩, ⟨some 14, some (10, true), [], .ld (.t 13)⟩, ⟨some 15, some (10, true), [], .bb false (.t 12) (.t 14)⟩, r 16 (.pick (.t 10) (.t 15) (.k (.v (.bool false)))), r 17 (.mv (.t 16)), ⟨some 18, some (17, true), [], .fld (.t 2) 2⟩, ⟨some 19, some (17, true), [], .ld (.t 18)⟩, ⟨some 20, some (17, true), [], .fld (.t 3) 2⟩, ⟨some 21, some (17, true), [], .ld (.t 20)⟩, ⟨some 22, some (17, true), [], .call 63 [(.t 19), (.t 21)]⟩, r 23 (.pick (.t 17) (.t 22) (.k (.v (.bool false)))), r 24 (.mv (.t 23)), ⟨some 25, some (24, true), [], .fld (.t 2) 3⟩, ⟨some 26, some (24, true), [], .fld (.t 25) 0⟩, ⟨some 27, some (24, true), [], .ld (.t 26)⟩, ⟨some 28, some (24, true), [], .fld (.t 3) 3⟩, ⟨some 29, some (24, true), [], .fld (.t 28) 0⟩, ⟨some 30, some (24, true), [], .ld (.t 29)⟩, ⟨some 31, some (24, true), [], .call 64 [(.t 27), (.t 30)]⟩, r 32 (.pick (.t 24) (.t 31) (.k (.v (.bool false)))), r 33 (.mv (.t 32)), ⟨some 34, some (33, true), [], .fld (.t 2) 3⟩, ⟨some 35, some (33, true), [], .fld (.t 34) 1⟩, ⟨some 36, some (33, true), [], .ld (.t 35)⟩, ⟨some 37, some (33, true), [], .fld (.t 3) 3⟩, ⟨some 38, some (33, true), [], .fld (.t 37) 1⟩, ⟨some 39, some (33, true), [], .ld (.t 38)⟩, ⟨some 40, some (33, true), [], .ib .eq .i64 (.t 36) (.t 39)⟩, r 41 (.pick (.t 33) (.t 40) (.k (.v (.bool false)))), r 4 (.mv (.t 41))])
 .ret))
theorem comp_34 : compF Try.prog Try.f34 = some (ic_34, [.t 4], 42) := by kernel_rfl
-- ros 34 [none, none] TYS [(.st [.str, .bool, (.row 83 (.st [.str, (.int .u64), (.int .u64), (.int .u64), (.int .i64), .bool])), (.st [(.row 96 (.st [(.int .i64), (.int .i64), (.int .i64)])), (.int .i64)])]), (.st [.str, .bool, (.row 83 (.st [.str, (.int .u64), (.int .u64), (.int .u64), (.int .i64), .bool])), (.st [(.row 96 (.st [(.int .i64), (.int .i64), (.int .i64)])), (.int .i64)])])]

def ic_36 : IC := (.seq (.reg false [r 2 (.mv (.k .nsl))])
 (.seq (.reg false [r 3 (.mv (.k .nsl))])
 (.seq (.seq (.reg false [r 6 (.mv (.t 0)), r 7 (.chk (.t 6)), r 8 (.fld (.t 7) 6), r 9 (.ld (.t 8)), r 10 (.len false (.t 9)), r 11 (.mv (.k (.v (.int .i64 0))))])
 (.block 0
 (.loop
 (.seq (.reg false [r 12 (.ib .lt .i64 (.t 11) (.t 10))])
 (.seq (.cond (.t 12)
 .skip
 (.exit 0))
 (.seq (.block 1
 (.seq (.reg false [r 13 (.idx (.t 9) (.t 11) 1), r 14 (.ld (.t 13)), r 5 (.mv (.t 14))])
 (.reg false [r 15 (.mv (.t 3)), r 16 (.mv (.t 5)), r 17 (.chk (.t 16)), r 18 (.fld (.t 17) 9), r 19 (.ld (.t 18)), r 20 (.call 66 [(.t 19)]), r 21 (.bsl (.row 72 (.row 75 (.st [(.int .u64), (.int .i64), (.int .i64)]))) 1 [.nsl] [(0, 1, (.t 20))]), r 22 (.app (.row 72 (.row 75 (.st [(.int .u64), (.int .i64), (.int .i64)]))) 24 (.t 15) (.t 21)), r 3 (.mv (.t 22))])))
 (.reg false [r 23 (.ib .add .i64 (.t 11) (.k (.v (.int .i64 1)))), r 11 (.mv (.t 23))])))))))
 (.seq (.reg false [r 24 (.mv (.t 3)), r 2 (.mv (.t 24))])
 .ret))))
theorem comp_36 : compF Try.prog Try.f36 = some (ic_36, [.t 2], 25) := by kernel_rfl
-- ros 36 [none] TYS [none]

def ic_48 : IC := (.seq (.reg false [r 2 (.new 65 [(.v (.int .i64 0)), (.v (.bool false)), .nsl])])
 (.seq (.seq (.reg false [r 3 (.mv (.t 0)), r 4 (.isn 0 false (.t 3))])
 (.cond (.t 4)
 (.seq (.reg false [r 5 (.build [(.v (.int .i64 0)), (.v (.bool false)), .nsl] []), r0 (.st (.t 2) (.t 5) 3)])
 .ret)
 .skip))
 (.seq (.reg false [r 6 (.mv (.t 0)), r 7 (.chk (.t 6)), r 8 (.fld (.t 7) 1), r 9 (.lda (.t 8) 3), r 10 (.call 77 [(.t 9)]), r0 (.st (.t 2) (.t 10) 3)])
 .ret)))
theorem comp_48 : compF Try.prog Try.f48 = some (ic_48, [.c 2 3 true], 11) := by kernel_rfl
-- ros 48 [none] TYS [none]

def ic_50 : IC := (.seq (.reg false [r 1 (.box 33 5 (.t 0)), r 2 (.new 33 [(.str []), (.v (.bool false)), .nsl, .nsl, (.v (.int .i64 0))])])
 (.seq (.reg false [r 3 (.fld (.t 1) 2), r 4 (.ld (.t 3)), r 5 (.call 78 [(.t 4)]), r 6 (.fld (.t 1) 2), r0 (.st (.t 6) (.t 5) 1)])
 (.seq (.reg false [r 7 (.fld (.t 1) 3), r 8 (.fld (.t 7) 0), r 9 (.ld (.t 8)), r 10 (.call 79 [(.t 9)]), r 11 (.fld (.t 1) 3), r 12 (.fld (.t 11) 0), r0 (.st (.t 12) (.t 10) 1)])
 (.seq (.reg false [r 13 (.lda (.t 1) 5), r0 (.st (.t 2) (.t 13) 5)])
 .ret))))
theorem comp_50 : compF Try.prog Try.f50 = some (ic_50, [.c 2 5 true], 14) := by kernel_rfl
-- ros 50 [none] TYS [(.st [.str, .bool, (.row 83 (.st [.str, (.int .u64), (.int .u64), (.int .u64), (.int .i64), .bool])), (.st [(.row 96 (.st [(.int .i64), (.int .i64), (.int .i64)])), (.int .i64)])])]

def ic_51 : IC := (.seq (.reg false [r 2 (.box 31 2 (.t 0)), r 3 (.box 3 1 (.t 1)), r 4 (.mv (.k (.v (.int .i64 0))))])
 (.seq (.reg false [r 6 (.fld (.t 2) 0), r 7 (.ld (.t 6)), r 8 (.mkfn 81 [(.t 3)]), r 9 (.call 80 [(.t 7), (.t 8)]), r 5 (.mv (.t 9))])
 (.seq (.seq (.reg false [r 10 (.mv (.t 5)), r 11 (.ib .lt .i64 (.t 10) (.k (.v (.int .i64 0))))])
 (.cond (.t 11)
 (.seq (.reg false [r 12 (.fld (.t 2) 1), r 13 (.ld (.t 12)), r 4 (.mv (.t 13))])
 .ret)
 .skip))
 (.seq (.reg false [r 14 (.fld (.t 2) 0), r 15 (.ld (.t 14)), r 16 (.mv (.t 5)), r 17 (.idx (.t 15) (.t 16) 3), r 18 (.fld (.t 17) 2), r 19 (.ld (.t 18)), r 4 (.mv (.t 19))])
 .ret))))
theorem comp_51 : compF Try.prog Try.f51 = some (ic_51, [.t 4], 20) := by kernel_rfl
-- ros 51 [none, none] TYS [(.st [(.row 96 (.st [(.int .i64), (.int .i64), (.int .i64)])), (.int .i64)]), (.int .i64)]

def ic_52 : IC := (.seq (.reg false [r 3 (.box 75 3 (.t 1)), r 4 (.mv (.k (.v (.bool false))))])
 (.seq (.seq (.reg true [r 5 (.mv (.t 0)), ⟨some 6, none, [0], .isn 0 false (.t 5)⟩, ⟨some 7, none, [1, 0], .mv (.t 6)⟩, ⟨some 8, some (7, false), [2, 1, 0], .mv (.t 0)⟩, ⟨some 9, some (7, false), [3, 2, 1, 0], .chk (.t 8)⟩, ⟨some 10, some (7, false), [4, 3, 2, 1, 0], .fld (.t 9) 3⟩, ⟨some 11, some (7, false), [5, 4, 3, 2, 1, 0], .ld (.t 10)⟩, ⟨some 12, some (7, false), [2, 1, 0], .mv (.t 0)⟩, ⟨some 13, some (7, false), [7, 2, 1, 0], .chk (.t 12)⟩, ⟨some 14, some (7, false), [8, 7, 2, 1, 0], .fld (.t 13) 0⟩, ⟨some 15, some (7, false), [9, 8, 7, 2, 1, 0], .ld (.t 14)⟩, ⟨some 16, some (7, false), [6, 5, 4, 3, 2, 1, 0, 10, 9, 8, 7], .ib .ge .i64 (.t 11) (.t 15)⟩, ⟨some 17, none, [2, 1, 0, 11, 6, 5, 4, 3, 10, 9, 8, 7], .pick (.t 7) (.k (.v (.bool true))) (.t 16)⟩])
 (.cond (.t 17)
 (.seq (.reg false [r 4 (.mv (.k (.v (.bool false))))])
 .ret)
 .skip))
 (.seq (.reg false [r 18 (.mv (.t 0)), r 19 (.lda (.t 3) 3), r 20 (.call 67 [(.t 18), (.t 19)])])
 (.seq (.reg false [r 4 (.mv (.k (.v (.bool true))))])
 .ret))))
theorem comp_52 : compF Try.prog Try.f52 = some (ic_52, [.t 4], 21) := by kernel_rfl
-- ros 52 [none, none] TYS [none, (.st [(.int .u64), (.int .i64), (.int .i64)])]

def ic_53 : IC := (.seq (.reg false [r 2 (.box 100 3 (.t 0)), r 4 (.new 100 [(.v (.int .u64 0)), (.v (.int .u64 0)), (.v (.int .u64 0))])])
 (.seq (.reg false [r 5 (.fld (.t 2) 2), r 6 (.ld (.t 5)), r 7 (.fld (.t 2) 0), r 8 (.ld (.t 7)), r 9 (.mv (.t 1)), r 10 (.fld (.t 2) 1), r 11 (.ld (.t 10)), r 12 (.call 82 [(.t 6), (.t 8), (.t 9), (.t 11)]), r 13 (.fld (.t 2) 2), r0 (.st (.t 13) (.t 12) 1)])
 (.seq (.reg false [r 14 (.lda (.t 2) 3), r0 (.st (.t 4) (.t 14) 3)])
 .ret)))
theorem comp_53 : compF Try.prog Try.f53 = some (ic_53, [.c 4 3 true], 15) := by kernel_rfl
-- ros 53 [none, none] TYS [(.st [(.int .u64), (.int .u64), (.int .u64)]), (.int .u64)]

def ic_54 : IC := (.seq (.reg false [r 4 (.new 133 [(.v (.int .u64 0)), (.v (.bool false))])])
 (.seq (.reg false [r 9 (.mv (.t 1)), r 10 (.chk (.t 9)), r 11 (.fld (.t 10) 9), r 12 (.ld (.t 11)), r 13 (.call 83 [(.t 12)]), r 8 (.mv (.t 13)), r 14 (.ext (.t 8) 0), r 15 (.ext (.t 8) 1), r 5 (.new 75 [(.v (.int .u64 0)), (.v (.int .i64 0)), (.v (.int .i64 0))]), r0 (.st (.t 5) (.t 14) 3), r 6 (.mv (.t 15))])
 (.seq (.seq (.reg false [r 16 (.mv (.t 6)), r 17 (.bnot (.t 16))])
 (.cond (.t 17)
 (.seq (.reg false [r 18 (.build [(.v (.int .u64 0)), (.v (.bool false))] []), r0 (.st (.t 4) (.t 18) 2)])
 .ret)
 .skip))
 (.seq (.reg false [r 19 (.fld (.t 5) 2), r 20 (.ld (.t 19)), r 21 (.conv .u64 (.t 20)), r 7 (.mv (.t 21))])
 (.seq (.reg false [r 22 (.mv (.t 7)), r 23 (.mv (.t 0)), r 24 (.chk (.t 23)), r 25 (.fld (.t 24) 0), r 26 (.fld (.t 25) 1), r 27 (.ld (.t 26)), r 28 (.mv (.t 27)), ⟨some 29, some (28, true), [], .mv (.t 1)⟩, ⟨some 30, some (28, true), [], .chk (.t 29)⟩, ⟨some 31, some (28, true), [], .fld (.t 30) 0⟩, ⟨some 32, some (28, true), [], .fld (.t 31) 5⟩, ⟨some 33, some (28, true), [], .ld (.t 32)⟩, ⟨some 34, some (28, true), [], .bnot (.t 33)⟩, ⟨some 35, some (28, true), [], .mv (.t 34)⟩, ⟨some 36, some (35, false), [], .mv (.t 1)⟩, ⟨some 37, some (35, false), [], .chk (.t 36)⟩, ⟨some 38, some (35, false), [], .fld (.t 37) 6⟩, ⟨some 39, some (35, false), [], .fld (.t 38) 2⟩, ⟨some 40, some (35, false), [], .ld (.t 39)⟩, ⟨some 41, some (35, false), [], .mv (.t 7)⟩, ⟨some 42, some (35, false), [], .ib .ge .u64 (.t 40) (.t 41)⟩, ⟨some 43, some (28, true), [], .pick (.t 35) (.k (.v (.bool true))) (.t 42)⟩, r 44 (.pick (.t 28) (.t 43) (.k (.v (.bool false)))), r 45 (.build [(.v (.int .u64 0)), (.v (.bool false))] [(0, 1, (.t 22)), (1, 1, (.t 44))]), r0 (.st (.t 4) (.t 45) 2)])
 .ret)))))
theorem comp_54 : compF Try.prog Try.f54 = some (ic_54, [.c 4 2 true], 46) := by kernel_rfl
-- ros 54 [none, none] TYS [none, none]

def ic_55 : IC := (.seq (.reg false [r 4 (.mv (.k (.v (.int .i64 0))))])
 (.seq (.seq (.reg false [r 5 (.mv (.t 0)), r 6 (.isn 0 false (.t 5)), r 7 (.mv (.t 6)), ⟨some 8, some (7, false), [], .mv (.t 1)⟩, ⟨some 9, some (7, false), [], .len false (.t 8)⟩, ⟨some 10, some (7, false), [], .mv (.t 0)⟩, ⟨some 11, some (7, false), [], .chk (.t 10)⟩, ⟨some 12, some (7, false), [], .fld (.t 11) 0⟩, ⟨some 13, some (7, false), [], .ld (.t 12)⟩, ⟨some 14, some (7, false), [], .len false (.t 13)⟩, ⟨some 15, some (7, false), [], .ib .ne .i64 (.t 9) (.t 14)⟩, r 16 (.pick (.t 7) (.k (.v (.bool true))) (.t 15)), r 17 (.mv (.t 16)), ⟨some 18, some (17, false), [], .mv (.t 1)⟩, ⟨some 19, some (17, false), [], .len false (.t 18)⟩, ⟨some 20, some (17, false), [], .ib .eq .i64 (.t 19) (.k (.v (.int .i64 0)))⟩, r 21 (.pick (.t 17) (.k (.v (.bool true))) (.t 20))])
 (.cond (.t 21)
 (.seq (.reg false [r 4 (.mv (.k (.v (.int .i64 (-1)))))])
 .ret)
 .skip))
 (.seq (.seq (.reg false [r 22 (.mv (.t 1)), r 23 (.len false (.t 22)), r 24 (.ib .add .i64 (.t 23) (.k (.v (.int .i64 1)))), r 25 (.mv (.k (.v (.int .i64 0))))])
 (.block 0
 (.loop
 (.seq (.reg false [r 26 (.ib .lt .i64 (.t 25) (.t 24))])
 (.seq (.cond (.t 26)
 .skip
 (.exit 0))
 (.seq (.block 1
 (.seq (.reg false [r 27 (.mv (.t 0)), r 28 (.mv (.t 1)), r 29 (.mv (.t 0)), r 30 (.chk (.t 29)), r 31 (.fld (.t 30) 1), r 32 (.fld (.t 31) 0), r 33 (.ld (.t 32)), r 34 (.idx (.t 28) (.t 33) 2), r 35 (.lda (.t 34) 2), r 36 (.call 84 [(.t 27), (.t 35)])])
 (.cond (.t 36)
 (.seq (.reg false [r 37 (.mv (.t 0)), r 38 (.chk (.t 37)), r 39 (.fld (.t 38) 1), r 40 (.fld (.t 39) 0), r 41 (.ld (.t 40)), r 4 (.mv (.t 41))])
 .ret)
 .skip)))
 (.reg false [r 42 (.ib .add .i64 (.t 25) (.k (.v (.int .i64 1)))), r 25 (.mv (.t 42))])))))))
 (.seq (.reg false [r 4 (.mv (.k (.v (.int .i64 (-1)))))])
 .ret))))
theorem comp_55 : compF Try.prog Try.f55 = some (ic_55, [.t 4], 43) := by kernel_rfl
-- ros 55 [none, (some (.row 133 (.st [(.int .u64), .bool])))] TYS [none, (.row 133 (.st [(.int .u64), .bool]))]

def ic_56 : IC := (.seq (.reg false [r 2 (.new 75 [(.v (.int .u64 0)), (.v (.int .i64 0)), (.v (.int .i64 0))]), r 3 (.mv (.k (.v (.bool false))))])
 (.seq (.reg false [r 7 (.mv (.t 0)), r 8 (.call 83 [(.t 7)]), r 6 (.mv (.t 8)), r 9 (.ext (.t 6) 0), r 10 (.ext (.t 6) 1), r 4 (.new 75 [(.v (.int .u64 0)), (.v (.int .i64 0)), (.v (.int .i64 0))]), r0 (.st (.t 4) (.t 9) 3), r 5 (.mv (.t 10))])
 (.seq (.seq (.reg false [r 11 (.mv (.t 5))])
 (.cond (.t 11)
 (.seq (.reg false [r 12 (.mv (.t 0)), r 13 (.mv (.t 0)), r 14 (.call 85 [(.t 13), (.k (.v (.int .i64 1)))]), r 15 (.chk (.t 12)), r 16 (.fld (.t 15) 2), r0 (.st (.t 16) (.t 14) 1)])
 (.reg false [r 17 (.mv (.t 0)), r 18 (.chk (.t 17)), r 19 (.fld (.t 18) 3), r 20 (.ld (.t 19)), r 21 (.ib .sub .i64 (.t 20) (.k (.v (.int .i64 1)))), r 22 (.chk (.t 17)), r 23 (.fld (.t 22) 3), r0 (.st (.t 23) (.t 21) 1)]))
 .skip))
 (.seq (.reg false [r 24 (.lda (.t 4) 3), r 25 (.mv (.t 5)), r0 (.st (.t 2) (.t 24) 3), r 3 (.mv (.t 25))])
 .ret))))
theorem comp_56 : compF Try.prog Try.f56 = some (ic_56, [.c 2 3 true, .t 3], 26) := by kernel_rfl
-- ros 56 [none] TYS [none]

def ic_57 : IC := (.seq (.reg false [r 2 (.box 100 3 (.t 0)), r 4 (.new 100 [(.v (.int .u64 0)), (.v (.int .u64 0)), (.v (.int .u64 0))]), r 5 (.mv (.k (.v (.bool false))))])
 (.seq (.seq (.reg false [r 6 (.mv (.t 1)), r 7 (.fld (.t 2) 2), r 8 (.ld (.t 7)), r 9 (.ib .gt .u64 (.t 6) (.t 8))])
 (.cond (.t 9)
 (.seq (.reg false [r 10 (.lda (.t 2) 3), r0 (.st (.t 4) (.t 10) 3), r 5 (.mv (.k (.v (.bool false))))])
 .ret)
 .skip))
 (.seq (.reg false [r 11 (.fld (.t 2) 2), r 12 (.ld (.t 11)), r 13 (.mv (.t 1)), r 14 (.ib .sub .u64 (.t 12) (.t 13)), r 15 (.fld (.t 2) 2), r0 (.st (.t 15) (.t 14) 1)])
 (.seq (.reg false [r 16 (.lda (.t 2) 3), r0 (.st (.t 4) (.t 16) 3), r 5 (.mv (.k (.v (.bool true))))])
 .ret))))
theorem comp_57 : compF Try.prog Try.f57 = some (ic_57, [.c 4 3 true, .t 5], 17) := by kernel_rfl
-- ros 57 [none, none] TYS [(.st [(.int .u64), (.int .u64), (.int .u64)]), (.int .u64)]

def ic_58 : IC := (.seq (.reg false [r 1 (.box 67 6 (.t 0)), r 2 (.mv (.k (.v (.bool false))))])
 (.seq (.reg false [r 4 (.fld (.t 1) 1), r 5 (.ld (.t 4)), r 6 (.len false (.t 5)), r 3 (.mv (.t 6))])
 (.seq (.seq (.reg false [r 7 (.mv (.t 3)), r 8 (.ib .gt .i64 (.t 7) (.k (.v (.int .i64 8)))), r 9 (.mv (.t 8)), ⟨some 10, some (9, false), [], .fld (.t 1) 5⟩, ⟨some 11, some (9, false), [], .ld (.t 10)⟩, ⟨some 12, some (9, false), [], .len false (.t 11)⟩, ⟨some 13, some (9, false), [], .mv (.t 3)⟩, ⟨some 14, some (9, false), [], .ib .ne .i64 (.t 12) (.t 13)⟩, r 15 (.pick (.t 9) (.k (.v (.bool true))) (.t 14)), r 16 (.mv (.t 15)), ⟨some 17, some (16, false), [], .fld (.t 1) 2⟩, ⟨some 18, some (16, false), [], .fld (.t 17) 2⟩, ⟨some 19, some (16, false), [], .ld (.t 18)⟩, ⟨some 20, some (16, false), [], .len false (.t 19)⟩, ⟨some 21, some (16, false), [], .mv (.t 3)⟩, ⟨some 22, some (16, false), [], .ib .ne .i64 (.t 20) (.t 21)⟩, r 23 (.pick (.t 16) (.k (.v (.bool true))) (.t 22)), r 24 (.mv (.t 23)), ⟨some 25, some (24, false), [], .fld (.t 1) 2⟩, ⟨some 26, some (24, false), [], .fld (.t 25) 0⟩, ⟨some 27, some (24, false), [], .ld (.t 26)⟩, ⟨some 28, some (24, false), [], .ib .lt .i64 (.t 27) (.k (.v (.int .i64 0)))⟩, r 29 (.pick (.t 24) (.k (.v (.bool true))) (.t 28)), r 30 (.mv (.t 29)), ⟨some 31, some (30, false), [], .fld (.t 1) 2⟩, ⟨some 32, some (30, false), [], .fld (.t 31) 0⟩, ⟨some 33, some (30, false), [], .ld (.t 32)⟩, ⟨some 34, some (30, false), [], .mv (.t 3)⟩, ⟨some 35, some (30, false), [], .mx (.t 34) (.k (.v (.int .i64 1)))⟩, ⟨some 36, some (30, false), [], .ib .ge .i64 (.t 33) (.t 35)⟩, r 37 (.pick (.t 30) (.k (.v (.bool true))) (.t 36))])
 (.cond (.t 37)
 (.seq (.reg false [r 2 (.mv (.k (.v (.bool false))))])
 .ret)
 .skip))
 (.seq (.reg false [r 38 (.fld (.t 1) 5), r 39 (.ld (.t 38)), r 40 (.mkfn 87 [(.t 1)]), r 41 (.call 86 [(.t 39), (.t 40)]), r 42 (.bnot (.t 41)), r 2 (.mv (.t 42))])
 .ret))))
theorem comp_58 : compF Try.prog Try.f58 = some (ic_58, [.t 2], 43) := by kernel_rfl
-- ros 58 [none] TYS [(.st [(.int .u64), (.ints 46 .u64), (.st [(.int .i64), .bool, (.ints 46 .u64)]), (.row 72 (.row 75 (.st [(.int .u64), (.int .i64), (.int .i64)])))])]

def ic_59 : IC := (.seq (.reg false [r 3 (.box 65 3 (.t 1)), r 4 (.mv (.k (.v (.bool false))))])
 (.seq (.seq (.reg true [r 5 (.mv (.t 0)), ⟨some 6, none, [0], .isn 0 false (.t 5)⟩, ⟨some 7, none, [1, 0], .mv (.t 6)⟩, ⟨some 8, some (7, false), [2, 1, 0], .fld (.t 3) 2⟩, ⟨some 9, some (7, false), [3, 2, 1, 0], .ld (.t 8)⟩, ⟨some 10, some (7, false), [4, 3, 2, 1, 0], .len false (.t 9)⟩, ⟨some 11, some (7, false), [2, 1, 0], .mv (.t 0)⟩, ⟨some 12, some (7, false), [6, 2, 1, 0], .chk (.t 11)⟩, ⟨some 13, some (7, false), [7, 6, 2, 1, 0], .fld (.t 12) 0⟩, ⟨some 14, some (7, false), [8, 7, 6, 2, 1, 0], .ld (.t 13)⟩, ⟨some 15, some (7, false), [9, 8, 7, 6, 2, 1, 0], .len false (.t 14)⟩, ⟨some 16, some (7, false), [5, 4, 3, 2, 1, 0, 10, 9, 8, 7, 6], .ib .ne .i64 (.t 10) (.t 15)⟩, ⟨some 17, none, [2, 1, 0, 11, 5, 4, 3, 10, 9, 8, 7, 6], .pick (.t 7) (.k (.v (.bool true))) (.t 16)⟩, ⟨some 18, none, [12, 2, 1, 0, 11, 5, 4, 3, 10, 9, 8, 7, 6], .mv (.t 17)⟩, ⟨some 19, some (18, false), [13, 12, 2, 1, 0, 11, 5, 4, 3, 10, 9, 8, 7, 6], .fld (.t 3) 0⟩, ⟨some 20, some (18, false), [14, 13, 12, 2, 1, 0, 11, 5, 4, 3, 10, 9, 8, 7, 6], .ld (.t 19)⟩, ⟨some 21, some (18, false), [15, 14, 13, 12, 2, 1, 0, 11, 5, 4, 3, 10, 9, 8, 7, 6], .ib .lt .i64 (.t 20) (.k (.v (.int .i64 0)))⟩, ⟨some 22, none, [13, 12, 2, 1, 0, 11, 5, 4, 3, 10, 9, 8, 7, 6, 16, 15, 14], .pick (.t 18) (.k (.v (.bool true))) (.t 21)⟩, ⟨some 23, none, [17, 13, 12, 2, 1, 0, 11, 5, 4, 3, 10, 9, 8, 7, 6, 16, 15, 14], .mv (.t 22)⟩, ⟨some 24, some (23, false), [18, 17, 13, 12, 2, 1, 0, 11, 5, 4, 3, 10, 9, 8, 7, 6, 16, 15, 14], .fld (.t 3) 0⟩, ⟨some 25, some (23, false), [19, 18, 17, 13, 12, 2, 1, 0, 11, 5, 4, 3, 10, 9, 8, 7, 6, 16, 15, 14], .ld (.t 24)⟩, ⟨some 26, some (23, false), [18, 17, 13, 12, 2, 1, 0, 11, 5, 4, 3, 10, 9, 8, 7, 6, 16, 15, 14], .fld (.t 3) 2⟩, ⟨some 27, some (23, false), [21, 18, 17, 13, 12, 2, 1, 0, 11, 5, 4, 3, 10, 9, 8, 7, 6, 16, 15, 14], .ld (.t 26)⟩, ⟨some 28, some (23, false), [22, 21, 18, 17, 13, 12, 2, 1, 0, 11, 5, 4, 3, 10, 9, 8, 7, 6, 16, 15, 14], .len false (.t 27)⟩, ⟨some 29, some (23, false), [23, 22, 21, 18, 17, 13, 12, 2, 1, 0, 11, 5, 4, 3, 10, 9, 8, 7, 6, 16, 15, 14], .mx (.t 28) (.k (.v (.int .i64 1)))⟩, ⟨some 30, some (23, false), [20, 19, 18, 17, 13, 12, 2, 1, 0, 11, 5, 4, 3, 10, 9, 8, 7, 6, 16, 15, 14, 24, 23, 22, 21], .ib .ge .i64 (.t 25) (.t 29)⟩, ⟨some 31, none, [18, 17, 13, 12, 2, 1, 0, 11, 5, 4, 3, 10, 9, 8, 7, 6, 16, 15, 14, 25, 20, 19, 24, 23, 22, 21], .pick (.t 23) (.k (.v (.bool true))) (.t 30)⟩])
 (.cond (.t 31)
 (.seq (.reg false [r 4 (.mv (.k (.v (.bool false))))])
 .ret)
 .skip))
 (.seq (.reg false [r 32 (.mv (.t 0)), r 33 (.lda (.t 3) 3), r 34 (.call 77 [(.t 33)]), r 35 (.chk (.t 32)), r 36 (.fld (.t 35) 1), r0 (.st (.t 36) (.t 34) 3)])
 (.seq (.reg false [r 4 (.mv (.k (.v (.bool true))))])
 .ret))))
theorem comp_59 : compF Try.prog Try.f59 = some (ic_59, [.t 4], 37) := by kernel_rfl
-- ros 59 [none, none] TYS [none, (.st [(.int .i64), .bool, (.ints 46 .u64)])]

def ic_60 : IC := (.seq (.reg false [r 4 (.new 100 [(.v (.int .u64 0)), (.v (.int .u64 0)), (.v (.int .u64 0))])])
 (.seq (.reg false [r 5 (.mv (.t 0)), r 6 (.mv (.t 1)), r 7 (.mv (.t 1)), r 8 (.build [(.v (.int .u64 0)), (.v (.int .u64 0)), (.v (.int .u64 0))] [(0, 1, (.t 5)), (1, 1, (.t 6)), (2, 1, (.t 7))]), r0 (.st (.t 4) (.t 8) 3)])
 .ret))
theorem comp_60 : compF Try.prog Try.f60 = some (ic_60, [.c 4 3 true], 9) := by kernel_rfl
-- ros 60 [none, none] TYS [(.int .u64), (.int .u64)]

def ic_61 : IC := (.seq (.reg false [r 2 (.mv (.k (.v (.pointer none))))])
 (.seq (.reg false [r 3 (.mv (.t 0)), r 4 (.build [(.v (.int .i64 0)), .nsl, (.v (.int .i64 0)), (.v (.int .i64 0))] [(0, 1, (.t 3))]), r 5 (.box 144 4 (.t 4)), r 2 (.mv (.t 5))])
 .ret))
theorem comp_61 : compF Try.prog Try.f61 = some (ic_61, [.t 2], 6) := by kernel_rfl
-- ros 61 [none] TYS [(.int .i64)]

def ic_62 : IC := (.seq (.reg false [r 2 (.mv (.k (.v (.pointer none))))])
 (.seq (.reg true [r 3 (.mv (.t 0)), ⟨some 4, none, [0], .call 89 [(.t 3)]⟩, r 5 (.mv (.t 0)), ⟨some 6, none, [2], .len false (.t 5)⟩, ⟨some 7, none, [3, 2], .mks (.ints 46 .u64) 8 (.t 6) (.t 6)⟩, ⟨some 8, none, [4, 3, 2], .build [(.v (.int .i64 0)), (.v (.bool false)), .nsl] [(2, 1, (.t 7))]⟩, ⟨some 9, none, [1, 0, 5, 4, 3, 2], .build [.nsl, (.v (.int .i64 0)), (.v (.bool false)), .nsl] [(0, 1, (.t 4)), (1, 3, (.t 8))]⟩, ⟨some 10, none, [6, 1, 0, 5, 4, 3, 2], .box 169 4 (.t 9)⟩, ⟨some 2, none, [7, 6, 1, 0, 5, 4, 3, 2], .mv (.t 10)⟩])
 .ret))
theorem comp_62 : compF Try.prog Try.f62 = some (ic_62, [.t 2], 11) := by kernel_rfl
-- ros 62 [(some (.ints 46 .u64))] TYS [(.ints 46 .u64)]

def ic_63 : IC := (.seq (.reg false [r 4 (.mv (.k (.v (.bool false))))])
 (.seq (.seq (.reg false [r 6 (.mv (.t 0)), r 7 (.len false (.t 6)), r 8 (.mv (.t 1)), r 9 (.len false (.t 8)), r 10 (.ib .ne .i64 (.t 7) (.t 9))])
 (.cond (.t 10)
 (.seq (.reg false [r 4 (.mv (.k (.v (.bool false))))])
 .ret)
 .skip))
 (.seq (.seq (.reg false [r 11 (.mv (.t 0)), r 12 (.len false (.t 11)), r 13 (.mv (.k (.v (.int .i64 0))))])
 (.block 0
 (.loop
 (.seq (.reg false [r 14 (.ib .lt .i64 (.t 13) (.t 12))])
 (.seq (.cond (.t 14)
 .skip
 (.exit 0))
 (.seq (.block 1
 (.seq (.reg false [r 15 (.mv (.t 13)), r 5 (.mv (.t 15))])
 (.seq (.reg true [r 16 (.mv (.t 0)), r 17 (.mv (.t 5)), ⟨some 18, none, [0, 1], .idx (.t 16) (.t 17) 6⟩, ⟨some 19, none, [2, 0, 1], .lda (.t 18) 6⟩, r 20 (.mv (.t 1)), r 21 (.mv (.t 5)), ⟨some 22, none, [4, 5], .idx (.t 20) (.t 21) 6⟩, ⟨some 23, none, [6, 4, 5], .lda (.t 22) 6⟩, ⟨some 24, none, [3, 2, 0, 1, 7, 6, 4, 5], .steq [2, 0, 0, 0, 0, 1] true (.t 19) (.t 23)⟩])
 (.cond (.t 24)
 (.seq (.reg false [r 4 (.mv (.k (.v (.bool false))))])
 .ret)
 .skip))))
 (.reg false [r 25 (.ib .add .i64 (.t 13) (.k (.v (.int .i64 1)))), r 13 (.mv (.t 25))])))))))
 (.seq (.reg false [r 4 (.mv (.k (.v (.bool true))))])
 .ret))))
theorem comp_63 : compF Try.prog Try.f63 = some (ic_63, [.t 4], 26) := by kernel_rfl
-- ros 63 [(some (.row 83 (.st [.str, (.int .u64), (.int .u64), (.int .u64), (.int .i64), .bool]))), (some (.row 83 (.st [.str, (.int .u64), (.int .u64), (.int .u64), (.int .i64), .bool])))] TYS [(.row 83 (.st [.str, (.int .u64), (.int .u64), (.int .u64), (.int .i64), .bool])), (.row 83 (.st [.str, (.int .u64), (.int .u64), (.int .u64), (.int .i64), .bool]))]

def ic_64 : IC := (.seq (.reg false [r 4 (.mv (.k (.v (.bool false))))])
 (.seq (.seq (.reg false [r 6 (.mv (.t 0)), r 7 (.len false (.t 6)), r 8 (.mv (.t 1)), r 9 (.len false (.t 8)), r 10 (.ib .ne .i64 (.t 7) (.t 9))])
 (.cond (.t 10)
 (.seq (.reg false [r 4 (.mv (.k (.v (.bool false))))])
 .ret)
 .skip))
 (.seq (.seq (.reg false [r 11 (.mv (.t 0)), r 12 (.len false (.t 11)), r 13 (.mv (.k (.v (.int .i64 0))))])
 (.block 0
 (.loop
 (.seq (.reg false [r 14 (.ib .lt .i64 (.t 13) (.t 12))])
 (.seq (.cond (.t 14)
 .skip
 (.exit 0))
 (.seq (.block 1
 (.seq (.reg false [r 15 (.mv (.t 13)), r 5 (.mv (.t 15))])
 (.seq (.reg true [r 16 (.mv (.t 0)), r 17 (.mv (.t 5)), ⟨some 18, none, [0, 1], .idx (.t 16) (.t 17) 3⟩, ⟨some 19, none, [2, 0, 1], .lda (.t 18) 3⟩, r 20 (.mv (.t 1)), r 21 (.mv (.t 5)), ⟨some 22, none, [4, 5], .idx (.t 20) (.t 21) 3⟩, ⟨some 23, none, [6, 4, 5], .lda (.t 22) 3⟩, ⟨some 24, none, [3, 2, 0, 1, 7, 6, 4, 5], .steq [0, 0, 0] true (.t 19) (.t 23)⟩])
 (.cond (.t 24)
 (.seq (.reg false [r 4 (.mv (.k (.v (.bool false))))])
 .ret)
 .skip))))
 (.reg false [r 25 (.ib .add .i64 (.t 13) (.k (.v (.int .i64 1)))), r 13 (.mv (.t 25))])))))))
 (.seq (.reg false [r 4 (.mv (.k (.v (.bool true))))])
 .ret))))
theorem comp_64 : compF Try.prog Try.f64 = some (ic_64, [.t 4], 26) := by kernel_rfl
-- ros 64 [(some (.row 96 (.st [(.int .i64), (.int .i64), (.int .i64)]))), (some (.row 96 (.st [(.int .i64), (.int .i64), (.int .i64)])))] TYS [(.row 96 (.st [(.int .i64), (.int .i64), (.int .i64)])), (.row 96 (.st [(.int .i64), (.int .i64), (.int .i64)]))]

def ic_66 : IC := (.seq (.reg false [r 2 (.mv (.k .nsl))])
 (.seq (.reg false [r 3 (.mv (.k .nsl))])
 (.seq (.seq (.reg false [r 5 (.mv (.t 0)), r 6 (.call 33 [(.t 5)]), r 7 (.mv (.k (.v (.int .i64 0))))])
 (.block 0
 (.loop
 (.seq (.reg false [r 8 (.ib .lt .i64 (.t 7) (.t 6))])
 (.seq (.cond (.t 8)
 .skip
 (.exit 0))
 (.seq (.block 1
 (.seq (.reg false [r 9 (.mv (.t 7)), r 4 (.mv (.t 9))])
 (.reg true [r 10 (.mv (.t 3)), r 11 (.mv (.t 0)), ⟨some 12, none, [1], .chk (.t 11)⟩, ⟨some 13, none, [2, 1], .fld (.t 12) 1⟩, ⟨some 14, none, [3, 2, 1], .ld (.t 13)⟩, r 15 (.mv (.t 0)), r 16 (.mv (.t 4)), ⟨some 17, none, [5, 6], .call 85 [(.t 15), (.t 16)]⟩, ⟨some 18, none, [4, 3, 2, 1, 7, 5, 6], .idx (.t 14) (.t 17) 3⟩, ⟨some 19, none, [8, 4, 3, 2, 1, 7, 5, 6], .lda (.t 18) 3⟩, ⟨some 20, none, [9, 8, 4, 3, 2, 1, 7, 5, 6], .bsl (.row 75 (.st [(.int .u64), (.int .i64), (.int .i64)])) 1 [(.v (.int .u64 0)), (.v (.int .i64 0)), (.v (.int .i64 0))] [(0, 3, (.t 19))]⟩, ⟨some 21, none, [0, 10, 9, 8, 4, 3, 2, 1, 7, 5, 6], .app (.row 75 (.st [(.int .u64), (.int .i64), (.int .i64)])) 24 (.t 10) (.t 20)⟩, ⟨some 3, none, [11, 0, 10, 9, 8, 4, 3, 2, 1, 7, 5, 6], .mv (.t 21)⟩])))
 (.reg false [r 22 (.ib .add .i64 (.t 7) (.k (.v (.int .i64 1)))), r 7 (.mv (.t 22))])))))))
 (.seq (.reg false [r 23 (.mv (.t 3)), r 2 (.mv (.t 23))])
 .ret))))
theorem comp_66 : compF Try.prog Try.f66 = some (ic_66, [.t 2], 24) := by kernel_rfl
-- ros 66 [none] TYS [none]

def ic_67 : IC := (.seq (.reg false [r 3 (.box 75 3 (.t 1))])
 (.seq (.seq (.reg true [r 4 (.mv (.t 0)), ⟨some 5, none, [0], .chk (.t 4)⟩, ⟨some 6, none, [1, 0], .fld (.t 5) 3⟩, ⟨some 7, none, [2, 1, 0], .ld (.t 6)⟩, r 8 (.mv (.t 0)), ⟨some 9, none, [4], .chk (.t 8)⟩, ⟨some 10, none, [5, 4], .fld (.t 9) 1⟩, ⟨some 11, none, [6, 5, 4], .ld (.t 10)⟩, ⟨some 12, none, [7, 6, 5, 4], .len false (.t 11)⟩, ⟨some 13, none, [3, 2, 1, 0, 8, 7, 6, 5, 4], .ib .eq .i64 (.t 7) (.t 12)⟩])
 (.cond (.t 13)
 (.reg false [r 14 (.mv (.t 0)), r 15 (.call 91 [(.t 14)])])
 .skip))
 (.seq (.reg true [r 16 (.mv (.t 0)), ⟨some 17, none, [0], .chk (.t 16)⟩, ⟨some 18, none, [1, 0], .fld (.t 17) 1⟩, ⟨some 19, none, [2, 1, 0], .ld (.t 18)⟩, r 20 (.mv (.t 0)), r 21 (.mv (.t 0)), ⟨some 22, none, [5], .chk (.t 21)⟩, ⟨some 23, none, [6, 5], .fld (.t 22) 3⟩, ⟨some 24, none, [7, 6, 5], .ld (.t 23)⟩, ⟨some 25, none, [4, 8, 7, 6, 5], .call 85 [(.t 20), (.t 24)]⟩, r 26 (.lda (.t 3) 3), ⟨some 27, none, [3, 2, 1, 0, 9, 4, 8, 7, 6, 5, 10], .idx (.t 19) (.t 25) 3⟩, ⟨none, none, [11, 3, 2, 1, 0, 9, 4, 8, 7, 6, 5, 10], .st (.t 27) (.t 26) 3⟩])
 (.reg false [r 28 (.mv (.t 0)), r 29 (.chk (.t 28)), r 30 (.fld (.t 29) 3), r 31 (.ld (.t 30)), r 32 (.ib .add .i64 (.t 31) (.k (.v (.int .i64 1)))), r 33 (.chk (.t 28)), r 34 (.fld (.t 33) 3), r0 (.st (.t 34) (.t 32) 1)]))))
theorem comp_67 : compF Try.prog Try.f67 = some (ic_67, [], 35) := by kernel_rfl
-- ros 67 [none, none] TYS [none, (.st [(.int .u64), (.int .i64), (.int .i64)])]

def ic_77 : IC := (.seq (.reg false [r 1 (.box 65 3 (.t 0)), r 2 (.new 65 [(.v (.int .i64 0)), (.v (.bool false)), .nsl])])
 (.seq (.reg false [r 4 (.fld (.t 1) 2), r 5 (.ld (.t 4)), r 6 (.len false (.t 5)), r 7 (.mks (.ints 46 .u64) 8 (.t 6) (.t 6)), r 3 (.mv (.t 7))])
 (.seq (.reg false [r 8 (.mv (.t 3)), r 9 (.fld (.t 1) 2), r 10 (.ld (.t 9)), r 11 (.copy (.t 8) (.t 10) 1)])
 (.seq (.reg false [r 12 (.fld (.t 1) 0), r 13 (.ld (.t 12)), r 14 (.fld (.t 1) 1), r 15 (.ld (.t 14)), r 16 (.mv (.t 3)), r 17 (.build [(.v (.int .i64 0)), (.v (.bool false)), .nsl] [(0, 1, (.t 13)), (1, 1, (.t 15)), (2, 1, (.t 16))]), r0 (.st (.t 2) (.t 17) 3)])
 .ret))))
theorem comp_77 : compF Try.prog Try.f77 = some (ic_77, [.c 2 3 true], 18) := by kernel_rfl
-- ros 77 [none] TYS [(.st [(.int .i64), .bool, (.ints 46 .u64)])]

def ic_78 : IC := (.seq (.reg false [r 2 (.mv (.k .nsl))])
 (.seq (.seq (.reg false [r 3 (.mv (.t 0)), r 4 (.isn 1 false (.t 3))])
 (.cond (.t 4)
 (.seq (.reg false [r 2 (.mv (.k .nsl))])
 .ret)
 .skip))
 (.seq (.reg false [r 5 (.bsl (.row 83 (.st [.str, (.int .u64), (.int .u64), (.int .u64), (.int .i64), .bool])) 0 [] []), r 6 (.mv (.t 0)), r 7 (.app (.row 83 (.st [.str, (.int .u64), (.int .u64), (.int .u64), (.int .i64), .bool])) 56 (.t 5) (.t 6)), r 2 (.mv (.t 7))])
 .ret)))
theorem comp_78 : compF Try.prog Try.f78 = some (ic_78, [.t 2], 8) := by kernel_rfl
-- ros 78 [(some (.row 83 (.st [.str, (.int .u64), (.int .u64), (.int .u64), (.int .i64), .bool])))] TYS [(.row 83 (.st [.str, (.int .u64), (.int .u64), (.int .u64), (.int .i64), .bool]))]

def ic_79 : IC := (.seq (.reg false [r 2 (.mv (.k .nsl))])
 (.seq (.seq (.reg false [r 3 (.mv (.t 0)), r 4 (.isn 1 false (.t 3))])
 (.cond (.t 4)
 (.seq (.reg false [r 2 (.mv (.k .nsl))])
 .ret)
 .skip))
 (.seq (.reg false [r 5 (.bsl (.row 96 (.st [(.int .i64), (.int .i64), (.int .i64)])) 0 [] []), r 6 (.mv (.t 0)), r 7 (.app (.row 96 (.st [(.int .i64), (.int .i64), (.int .i64)])) 24 (.t 5) (.t 6)), r 2 (.mv (.t 7))])
 .ret)))
theorem comp_79 : compF Try.prog Try.f79 = some (ic_79, [.t 2], 8) := by kernel_rfl
-- ros 79 [(some (.row 96 (.st [(.int .i64), (.int .i64), (.int .i64)])))] TYS [(.row 96 (.st [(.int .i64), (.int .i64), (.int .i64)]))]

def ic_80 : IC := (.seq (.reg false [r 4 (.mv (.k (.v (.int .i64 0))))])
 (.seq (.seq (.reg false [r 6 (.mv (.t 0)), r 7 (.len false (.t 6)), r 8 (.mv (.k (.v (.int .i64 0))))])
 (.block 0
 (.loop
 (.seq (.reg false [r 9 (.ib .lt .i64 (.t 8) (.t 7))])
 (.seq (.cond (.t 9)
 .skip
 (.exit 0))
 (.seq (.block 1
 (.seq (.reg false [r 10 (.mv (.t 8)), r 5 (.mv (.t 10))])
 (.seq (.reg false [r 11 (.mv (.t 1)), r 12 (.mv (.t 0)), r 13 (.mv (.t 5)), r 14 (.idx (.t 12) (.t 13) 3), r 15 (.lda (.t 14) 3), r 16 (.callv (.t 11) [(.t 15)])])
 (.cond (.t 16)
 (.seq (.reg false [r 17 (.mv (.t 5)), r 4 (.mv (.t 17))])
 .ret)
 .skip))))
 (.reg false [r 18 (.ib .add .i64 (.t 8) (.k (.v (.int .i64 1)))), r 8 (.mv (.t 18))])))))))
 (.seq (.reg false [r 4 (.mv (.k (.v (.int .i64 (-1)))))])
 .ret)))
theorem comp_80 : compF Try.prog Try.f80 = some (ic_80, [.t 4], 19) := by kernel_rfl
-- ros 80 [(some (.row 96 (.st [(.int .i64), (.int .i64), (.int .i64)]))), none] TYS [(.row 96 (.st [(.int .i64), (.int .i64), (.int .i64)])), none]

def ic_81 : IC := (.seq (.reg false [r 2 (.box 96 3 (.t 0)), r 3 (.mv (.k (.v (.bool false))))])
 (.seq (.reg false [r 4 (.fld (.t 2) 0), r 5 (.ld (.t 4)), r 6 (.ld (.t 1)), r 7 (.ib .le .i64 (.t 5) (.t 6)), r 8 (.mv (.t 7)), ⟨some 9, some (8, true), [], .ld (.t 1)⟩, ⟨some 10, some (8, true), [], .fld (.t 2) 1⟩, ⟨some 11, some (8, true), [], .ld (.t 10)⟩, ⟨some 12, some (8, true), [], .ib .le .i64 (.t 9) (.t 11)⟩, r 13 (.pick (.t 8) (.t 12) (.k (.v (.bool false)))), r 3 (.mv (.t 13))])
 .ret))
theorem comp_81 : compF Try.prog Try.f81 = some (ic_81, [.t 3], 14) := by kernel_rfl
-- ros 81 [none] TYS [(.st [(.int .i64), (.int .i64), (.int .i64)])]

def ic_82 : IC := (.seq (.reg false [r 8 (.mv (.k (.v (.int .u64 0))))])
 (.seq (.reg false [r 9 (.mv (.t 0)), r 10 (.mv (.t 3)), r 11 (.mv (.t 0)), r 12 (.mv (.t 1)), r 13 (.mv (.t 2)), r 14 (.call 98 [(.t 12), (.t 13)]), r 15 (.call 97 [(.t 11), (.t 14)]), r 16 (.mn (.t 10) (.t 15)), r 17 (.mx (.t 9) (.t 16)), r 8 (.mv (.t 17))])
 .ret))
theorem comp_82 : compF Try.prog Try.f82 = some (ic_82, [.t 8], 18) := by kernel_rfl
-- ros 82 [none, none, none, none] TYS [(.int .u64), (.int .u64), (.int .u64), (.int .u64)]

def ic_83 : IC := (.seq (.reg false [r 2 (.new 75 [(.v (.int .u64 0)), (.v (.int .i64 0)), (.v (.int .i64 0))]), r 3 (.mv (.k (.v (.bool false))))])
 (.seq (.seq (.reg false [r 4 (.mv (.t 0)), r 5 (.call 33 [(.t 4)]), r 6 (.ib .eq .i64 (.t 5) (.k (.v (.int .i64 0))))])
 (.cond (.t 6)
 (.seq (.reg false [r 7 (.build [(.v (.int .u64 0)), (.v (.int .i64 0)), (.v (.int .i64 0))] []), r0 (.st (.t 2) (.t 7) 3), r 3 (.mv (.k (.v (.bool false))))])
 .ret)
 .skip))
 (.seq (.reg true [r 8 (.mv (.t 0)), ⟨some 9, none, [0], .chk (.t 8)⟩, ⟨some 10, none, [1, 0], .fld (.t 9) 1⟩, ⟨some 11, none, [2, 1, 0], .ld (.t 10)⟩, r 12 (.mv (.t 0)), ⟨some 13, none, [4], .chk (.t 12)⟩, ⟨some 14, none, [5, 4], .fld (.t 13) 2⟩, ⟨some 15, none, [6, 5, 4], .ld (.t 14)⟩, ⟨some 16, none, [3, 2, 1, 0, 7, 6, 5, 4], .idx (.t 11) (.t 15) 3⟩, ⟨some 17, none, [8, 3, 2, 1, 0, 7, 6, 5, 4], .lda (.t 16) 3⟩, ⟨none, none, [9, 8, 3, 2, 1, 0, 7, 6, 5, 4], .st (.t 2) (.t 17) 3⟩, ⟨some 3, none, [10, 9, 8, 3, 2, 1, 0, 7, 6, 5, 4], .mv (.k (.v (.bool true)))⟩])
 .ret)))
theorem comp_83 : compF Try.prog Try.f83 = some (ic_83, [.c 2 3 true, .t 3], 18) := by kernel_rfl
-- ros 83 [none] TYS [none]

def ic_84 : IC := (.seq (.reg false [r 3 (.box 133 2 (.t 1)), r 4 (.mv (.k (.v (.bool false))))])
 (.seq (.reg true [r 6 (.mv (.t 0)), ⟨some 7, none, [0], .chk (.t 6)⟩, ⟨some 8, none, [1, 0], .fld (.t 7) 1⟩, ⟨some 9, none, [2, 1, 0], .fld (.t 8) 2⟩, ⟨some 10, none, [3, 2, 1, 0], .ld (.t 9)⟩, r 11 (.mv (.t 0)), ⟨some 12, none, [5], .chk (.t 11)⟩, ⟨some 13, none, [6, 5], .fld (.t 12) 1⟩, ⟨some 14, none, [7, 6, 5], .fld (.t 13) 0⟩, ⟨some 15, none, [8, 7, 6, 5], .ld (.t 14)⟩, ⟨some 16, none, [4, 3, 2, 1, 0, 9, 8, 7, 6, 5], .idx (.t 10) (.t 15) 1⟩, ⟨some 5, none, [10, 4, 3, 2, 1, 0, 9, 8, 7, 6, 5], .mv (.t 16)⟩])
 (.seq (.seq (.reg false [r 17 (.fld (.t 3) 0), r 18 (.ld (.t 17)), r 19 (.ib .eq .u64 (.t 18) (.k (.v (.int .u64 0)))), r 20 (.mv (.t 19)), ⟨some 21, some (20, false), [], .fld (.t 3) 1⟩, ⟨some 22, some (20, false), [], .ld (.t 21)⟩, ⟨some 23, some (20, false), [], .bnot (.t 22)⟩, r 24 (.pick (.t 20) (.k (.v (.bool true))) (.t 23))])
 (.cond (.t 24)
 (.seq (.reg false [r 25 (.mv (.t 5)), r 26 (.chk (.t 25)), r0 (.st (.t 26) (.k (.v (.int .u64 0))) 1)])
 (.seq (.reg false [r 27 (.mv (.t 0)), r 28 (.call 99 [(.t 27)])])
 (.seq (.reg false [r 4 (.mv (.k (.v (.bool false))))])
 .ret)))
 .skip))
 (.seq (.seq (.reg false [r 29 (.mv (.t 0)), r 30 (.chk (.t 29)), r 31 (.fld (.t 30) 1), r 32 (.fld (.t 31) 1), r 33 (.ld (.t 32)), r 34 (.bnot (.t 33))])
 (.cond (.t 34)
 (.reg true [r 35 (.mv (.t 5)), r 36 (.mv (.t 0)), r 37 (.mv (.t 5)), ⟨some 38, none, [2], .chk (.t 37)⟩, ⟨some 39, none, [3, 2], .ld (.t 38)⟩, r 40 (.mv (.t 0)), ⟨some 41, none, [5], .chk (.t 40)⟩, ⟨some 42, none, [6, 5], .fld (.t 41) 0⟩, ⟨some 43, none, [7, 6, 5], .ld (.t 42)⟩, r 44 (.mv (.t 0)), ⟨some 45, none, [9], .chk (.t 44)⟩, ⟨some 46, none, [10, 9], .fld (.t 45) 1⟩, ⟨some 47, none, [11, 10, 9], .fld (.t 46) 0⟩, ⟨some 48, none, [12, 11, 10, 9], .ld (.t 47)⟩, ⟨some 49, none, [8, 7, 6, 5, 13, 12, 11, 10, 9], .idx (.t 43) (.t 48) 1⟩, ⟨some 50, none, [14, 8, 7, 6, 5, 13, 12, 11, 10, 9], .ld (.t 49)⟩, ⟨some 51, none, [4, 3, 2, 15, 14, 8, 7, 6, 5, 13, 12, 11, 10, 9], .call 97 [(.t 39), (.t 50)]⟩, ⟨some 52, none, [0, 2, 3, 4, 5, 6, 7, 8, 9, 10, 11, 12, 13, 14, 15, 16], .chk (.t 35)⟩, ⟨none, none, [17, 0, 2, 3, 4, 5, 6, 7, 8, 9, 10, 11, 12, 13, 14, 15, 16], .st (.t 52) (.t 51) 1⟩, ⟨some 53, none, [1, 0, 2, 3, 4, 5, 6, 7, 8, 9, 10, 11, 12, 13, 14, 15, 16, 17, 18], .chk (.t 36)⟩, ⟨some 54, none, [19, 1, 0, 2, 3, 4, 5, 6, 7, 8, 9, 10, 11, 12, 13, 14, 15, 16, 17, 18], .fld (.t 53) 1⟩, ⟨some 55, none, [20, 19, 1, 0, 2, 3, 4, 5, 6, 7, 8, 9, 10, 11, 12, 13, 14, 15, 16, 17, 18], .fld (.t 54) 1⟩, ⟨none, none, [21, 20, 19, 1, 0, 2, 3, 4, 5, 6, 7, 8, 9, 10, 11, 12, 13, 14, 15, 16, 17, 18], .st (.t 55) (.k (.v (.bool true))) 1⟩])
 .skip))
 (.seq (.seq (.reg true [r 56 (.mv (.t 5)), ⟨some 57, none, [0], .chk (.t 56)⟩, ⟨some 58, none, [1, 0], .ld (.t 57)⟩, r 59 (.fld (.t 3) 0), ⟨some 60, none, [3], .ld (.t 59)⟩, ⟨some 61, none, [2, 1, 0, 4, 3], .ib .lt .u64 (.t 58) (.t 60)⟩])
 (.cond (.t 61)
 (.seq (.reg false [r 62 (.mv (.t 0)), r 63 (.call 99 [(.t 62)])])
 (.seq (.reg false [r 4 (.mv (.k (.v (.bool false))))])
 .ret))
 .skip))
 (.seq (.reg true [r 64 (.mv (.t 5)), ⟨some 65, none, [0], .chk (.t 64)⟩, ⟨some 66, none, [1, 0], .ld (.t 65)⟩, r 67 (.fld (.t 3) 0), ⟨some 68, none, [3], .ld (.t 67)⟩, ⟨some 69, none, [2, 1, 0, 4, 3], .ib .sub .u64 (.t 66) (.t 68)⟩, ⟨some 70, none, [0, 1, 2, 3, 4, 5], .chk (.t 64)⟩, ⟨none, none, [6, 0, 1, 2, 3, 4, 5], .st (.t 70) (.t 69) 1⟩])
 (.seq (.reg false [r 4 (.mv (.k (.v (.bool true))))])
 .ret)))))))
theorem comp_84 : compF Try.prog Try.f84 = some (ic_84, [.t 4], 71) := by kernel_rfl
-- ros 84 [none, none] TYS [none, (.st [(.int .u64), .bool])]

def ic_85 : IC := (.seq (.reg false [r 4 (.mv (.k (.v (.int .i64 0))))])
 (.seq (.reg true [r 5 (.mv (.t 0)), ⟨some 6, none, [0], .chk (.t 5)⟩, ⟨some 7, none, [1, 0], .fld (.t 6) 2⟩, ⟨some 8, none, [2, 1, 0], .ld (.t 7)⟩, r 9 (.mv (.t 1)), ⟨some 10, none, [3, 2, 1, 0, 4], .ib .add .i64 (.t 8) (.t 9)⟩, r 11 (.mv (.t 0)), ⟨some 12, none, [6], .chk (.t 11)⟩, ⟨some 13, none, [7, 6], .fld (.t 12) 1⟩, ⟨some 14, none, [8, 7, 6], .ld (.t 13)⟩, ⟨some 15, none, [9, 8, 7, 6], .len false (.t 14)⟩, ⟨some 16, none, [5, 3, 2, 1, 0, 4, 10, 9, 8, 7, 6], .ib .rem .i64 (.t 10) (.t 15)⟩, ⟨some 4, none, [11, 5, 3, 2, 1, 0, 4, 10, 9, 8, 7, 6], .mv (.t 16)⟩])
 .ret))
theorem comp_85 : compF Try.prog Try.f85 = some (ic_85, [.t 4], 17) := by kernel_rfl
-- ros 85 [none, none] TYS [none, (.int .i64)]

def ic_86 : IC := (.seq (.reg false [r 4 (.mv (.k (.v (.bool false))))])
 (.seq (.reg false [r 5 (.mv (.t 0)), r 6 (.mv (.t 1)), r 7 (.call 100 [(.t 5), (.t 6)]), r 8 (.ib .ge .i64 (.t 7) (.k (.v (.int .i64 0)))), r 4 (.mv (.t 8))])
 .ret))
theorem comp_86 : compF Try.prog Try.f86 = some (ic_86, [.t 4], 9) := by kernel_rfl
-- ros 86 [(some (.row 72 (.row 75 (.st [(.int .u64), (.int .i64), (.int .i64)])))), none] TYS [(.row 72 (.row 75 (.st [(.int .u64), (.int .i64), (.int .i64)]))), none]

def ic_87 : IC := (.seq (.reg false [r 3 (.mv (.k (.v (.bool false))))])
 (.seq (.reg false [r 4 (.lda (.t 1) 6), r 5 (.mv (.t 0)), r 6 (.call 88 [(.t 4), (.t 5)]), r 7 (.bnot (.t 6)), r 3 (.mv (.t 7))])
 .ret))
theorem comp_87 : compF Try.prog Try.f87 = some (ic_87, [.t 3], 8) := by kernel_rfl
-- ros 87 [(some (.row 75 (.st [(.int .u64), (.int .i64), (.int .i64)])))] TYS [(.row 75 (.st [(.int .u64), (.int .i64), (.int .i64)]))]

def ic_88 : IC := (.seq (.reg false [r 2 (.box 67 6 (.t 0)), r 4 (.mv (.k (.v (.bool false))))])
 (.seq (.reg false [r 5 (.mv (.k (.v (.int .u64 0))))])
 (.seq (.seq (.reg false [r 8 (.mv (.t 1)), r 9 (.len false (.t 8)), r 10 (.mv (.k (.v (.int .i64 0))))])
 (.block 0
 (.loop
 (.seq (.reg false [r 11 (.ib .lt .i64 (.t 10) (.t 9))])
 (.seq (.cond (.t 11)
 .skip
 (.exit 0))
 (.seq (.block 1
 (.seq (.reg false [r 12 (.idx (.t 8) (.t 10) 3), r 13 (.lda (.t 12) 3), r 7 (.new 75 [(.v (.int .u64 0)), (.v (.int .i64 0)), (.v (.int .i64 0))]), r0 (.st (.t 7) (.t 13) 3)])
 (.seq (.seq (.reg false [r 14 (.fld (.t 7) 1), r 15 (.ld (.t 14)), r 16 (.ib .lt .i64 (.t 15) (.k (.v (.int .i64 0)))), r 17 (.mv (.t 16)), ⟨some 18, some (17, false), [], .fld (.t 7) 1⟩, ⟨some 19, some (17, false), [], .ld (.t 18)⟩, ⟨some 20, some (17, false), [], .ib .gt .i64 (.t 19) (.k (.v (.int .i64 65535)))⟩, r 21 (.pick (.t 17) (.k (.v (.bool true))) (.t 20)), r 22 (.mv (.t 21)), ⟨some 23, some (22, false), [], .fld (.t 7) 2⟩, ⟨some 24, some (22, false), [], .ld (.t 23)⟩, ⟨some 25, some (22, false), [], .ib .lt .i64 (.t 24) (.k (.v (.int .i64 1)))⟩, r 26 (.pick (.t 22) (.k (.v (.bool true))) (.t 25)), r 27 (.mv (.t 26)), ⟨some 28, some (27, false), [], .fld (.t 7) 2⟩, ⟨some 29, some (27, false), [], .ld (.t 28)⟩, ⟨some 30, some (27, false), [], .ib .gt .i64 (.t 29) (.k (.v (.int .i64 1500)))⟩, r 31 (.pick (.t 27) (.k (.v (.bool true))) (.t 30)), r 32 (.mv (.t 31)), ⟨some 33, some (32, false), [], .fld (.t 7) 0⟩, ⟨some 34, some (32, false), [], .ld (.t 33)⟩, ⟨some 35, some (32, false), [], .mv (.t 5)⟩, ⟨some 36, some (32, false), [], .ib .le .u64 (.t 34) (.t 35)⟩, r 37 (.pick (.t 32) (.k (.v (.bool true))) (.t 36)), r 38 (.mv (.t 37)), ⟨some 39, some (38, false), [], .fld (.t 7) 0⟩, ⟨some 40, some (38, false), [], .ld (.t 39)⟩, ⟨some 41, some (38, false), [], .fld (.t 2) 0⟩, ⟨some 42, some (38, false), [], .ld (.t 41)⟩, ⟨some 43, some (38, false), [], .ib .gt .u64 (.t 40) (.t 42)⟩, r 44 (.pick (.t 38) (.k (.v (.bool true))) (.t 43))])
 (.cond (.t 44)
 (.seq (.reg false [r 4 (.mv (.k (.v (.bool false))))])
 .ret)
 .skip))
 (.reg false [r 45 (.fld (.t 7) 0), r 46 (.ld (.t 45)), r 5 (.mv (.t 46))]))))
 (.reg false [r 47 (.ib .add .i64 (.t 10) (.k (.v (.int .i64 1)))), r 10 (.mv (.t 47))])))))))
 (.seq (.reg false [r 4 (.mv (.k (.v (.bool true))))])
 .ret))))
theorem comp_88 : compF Try.prog Try.f88 = some (ic_88, [.t 4], 48) := by kernel_rfl
-- ros 88 [none, (some (.row 75 (.st [(.int .u64), (.int .i64), (.int .i64)])))] TYS [(.st [(.int .u64), (.ints 46 .u64), (.st [(.int .i64), .bool, (.ints 46 .u64)]), (.row 72 (.row 75 (.st [(.int .u64), (.int .i64), (.int .i64)])))]), (.row 75 (.st [(.int .u64), (.int .i64), (.int .i64)]))]

def ic_89 : IC := (.seq (.reg false [r 2 (.mv (.k .nsl))])
 (.seq (.seq (.reg false [r 3 (.mv (.t 0)), r 4 (.isn 1 false (.t 3))])
 (.cond (.t 4)
 (.seq (.reg false [r 2 (.mv (.k .nsl))])
 .ret)
 .skip))
 (.seq (.reg false [r 5 (.bsl (.ints 46 .u64) 0 [] []), r 6 (.mv (.t 0)), r 7 (.app (.ints 46 .u64) 8 (.t 5) (.t 6)), r 2 (.mv (.t 7))])
 .ret)))
theorem comp_89 : compF Try.prog Try.f89 = some (ic_89, [.t 2], 8) := by kernel_rfl
-- ros 89 [(some (.ints 46 .u64))] TYS [(.ints 46 .u64)]

def ic_91 : IC := (.seq (.reg false [r 4 (.mv (.t 0)), r 5 (.chk (.t 4)), r 6 (.fld (.t 5) 1), r 7 (.ld (.t 6)), r 8 (.len false (.t 7)), r 9 (.ib .mul .i64 (.k (.v (.int .i64 2))) (.t 8)), r 10 (.mx (.k (.v (.int .i64 4))) (.t 9)), r 11 (.mks (.row 75 (.st [(.int .u64), (.int .i64), (.int .i64)])) 24 (.t 10) (.t 10)), r 2 (.mv (.t 11))])
 (.seq (.reg true [r 12 (.mv (.t 2)), r 13 (.mv (.t 0)), ⟨some 14, none, [1], .chk (.t 13)⟩, ⟨some 15, none, [2, 1], .fld (.t 14) 1⟩, ⟨some 16, none, [3, 2, 1], .ld (.t 15)⟩, r 17 (.mv (.t 0)), ⟨some 18, none, [5], .chk (.t 17)⟩, ⟨some 19, none, [6, 5], .fld (.t 18) 2⟩, ⟨some 20, none, [7, 6, 5], .ld (.t 19)⟩, ⟨some 21, none, [4, 3, 2, 1, 8, 7, 6, 5], .sls (.t 16) (some (.t 20)) none 3⟩, ⟨some 22, none, [0, 9, 4, 3, 2, 1, 8, 7, 6, 5], .copy (.t 12) (.t 21) 3⟩, ⟨some 3, none, [10, 0, 9, 4, 3, 2, 1, 8, 7, 6, 5], .mv (.t 22)⟩])
 (.seq (.reg true [r 23 (.mv (.t 2)), r 24 (.mv (.t 3)), ⟨some 25, none, [0, 1], .sls (.t 23) (some (.t 24)) none 3⟩, r 26 (.mv (.t 0)), ⟨some 27, none, [3], .chk (.t 26)⟩, ⟨some 28, none, [4, 3], .fld (.t 27) 1⟩, ⟨some 29, none, [5, 4, 3], .ld (.t 28)⟩, r 30 (.mv (.t 0)), ⟨some 31, none, [7], .chk (.t 30)⟩, ⟨some 32, none, [8, 7], .fld (.t 31) 2⟩, ⟨some 33, none, [9, 8, 7], .ld (.t 32)⟩, ⟨some 34, none, [6, 5, 4, 3, 10, 9, 8, 7], .sls (.t 29) none (some (.t 33)) 3⟩, ⟨some 35, none, [2, 0, 1, 11, 6, 5, 4, 3, 10, 9, 8, 7], .copy (.t 25) (.t 34) 3⟩])
 (.reg false [r 36 (.mv (.t 0)), r 37 (.mv (.t 0)), r 38 (.mv (.t 2)), r 39 (.chk (.t 36)), r 40 (.fld (.t 39) 1), r0 (.st (.t 40) (.t 38) 1), r 41 (.chk (.t 37)), r 42 (.fld (.t 41) 2), r0 (.st (.t 42) (.k (.v (.int .i64 0))) 1)]))))
theorem comp_91 : compF Try.prog Try.f91 = some (ic_91, [], 43) := by kernel_rfl
-- ros 91 [none] TYS [none]

def ic_97 : IC := (.seq (.reg false [r 4 (.mv (.k (.v (.int .u64 0))))])
 (.seq (.seq (.reg false [r 6 (.mv (.t 0)), r 7 (.mv (.t 1)), r 8 (.ib .add .u64 (.t 6) (.t 7)), r 5 (.mv (.t 8))])
 (.seq (.reg false [r 9 (.mv (.t 5)), r 10 (.mv (.t 0)), r 11 (.ib .ge .u64 (.t 9) (.t 10))])
 (.cond (.t 11)
 (.seq (.reg false [r 12 (.mv (.t 5)), r 4 (.mv (.t 12))])
 .ret)
 .skip)))
 (.seq (.reg false [r 4 (.mv (.k (.v (.int .u64 18446744073709551615))))])
 .ret)))
theorem comp_97 : compF Try.prog Try.f97 = some (ic_97, [.t 4], 13) := by kernel_rfl
-- ros 97 [none, none] TYS [(.int .u64), (.int .u64)]

def ic_98 : IC := (.seq (.reg false [r 4 (.mv (.k (.v (.int .u64 0))))])
 (.seq (.seq (.reg false [r 5 (.mv (.t 0)), r 6 (.ib .gt .u64 (.t 5) (.k (.v (.int .u64 0)))), r 7 (.mv (.t 6)), ⟨some 8, some (7, true), [], .mv (.t 1)⟩, ⟨some 9, some (7, true), [], .mv (.t 0)⟩, ⟨some 10, some (7, true), [], .ib .quo .u64 (.k (.v (.int .u64 18446744073709551615))) (.t 9)⟩, ⟨some 11, some (7, true), [], .ib .gt .u64 (.t 8) (.t 10)⟩, r 12 (.pick (.t 7) (.t 11) (.k (.v (.bool false))))])
 (.cond (.t 12)
 (.seq (.reg false [r 4 (.mv (.k (.v (.int .u64 18446744073709551615))))])
 .ret)
 .skip))
 (.seq (.reg false [r 13 (.mv (.t 0)), r 14 (.mv (.t 1)), r 15 (.ib .mul .u64 (.t 13) (.t 14)), r 4 (.mv (.t 15))])
 .ret)))
theorem comp_98 : compF Try.prog Try.f98 = some (ic_98, [.t 4], 16) := by kernel_rfl
-- ros 98 [none, none] TYS [(.int .u64), (.int .u64)]

def ic_99 : IC := (.reg true [r 2 (.mv (.t 0)), r 3 (.mv (.t 0)), r 4 (.mv (.t 0)), ⟨some 5, none, [2], .chk (.t 4)⟩, ⟨some 6, none, [3, 2], .fld (.t 5) 1⟩, ⟨some 7, none, [4, 3, 2], .fld (.t 6) 0⟩, ⟨some 8, none, [5, 4, 3, 2], .ld (.t 7)⟩, ⟨some 9, none, [6, 5, 4, 3, 2], .ib .add .i64 (.t 8) (.k (.v (.int .i64 1)))⟩, r 10 (.mv (.t 0)), ⟨some 11, none, [8], .chk (.t 10)⟩, ⟨some 12, none, [9, 8], .fld (.t 11) 0⟩, ⟨some 13, none, [10, 9, 8], .ld (.t 12)⟩, ⟨some 14, none, [11, 10, 9, 8], .len false (.t 13)⟩, ⟨some 15, none, [7, 6, 5, 4, 3, 2, 12, 11, 10, 9, 8], .ib .rem .i64 (.t 9) (.t 14)⟩, ⟨some 16, none, [0, 2, 3, 4, 5, 6, 7, 8, 9, 10, 11, 12, 13], .chk (.t 2)⟩, ⟨some 17, none, [14, 0, 2, 3, 4, 5, 6, 7, 8, 9, 10, 11, 12, 13], .fld (.t 16) 1⟩, ⟨some 18, none, [15, 14, 0, 2, 3, 4, 5, 6, 7, 8, 9, 10, 11, 12, 13], .fld (.t 17) 0⟩, ⟨none, none, [16, 15, 14, 0, 2, 3, 4, 5, 6, 7, 8, 9, 10, 11, 12, 13], .st (.t 18) (.t 15) 1⟩, ⟨some 19, none, [1, 0, 2, 3, 4, 5, 6, 7, 8, 9, 10, 11, 12, 13, 14, 15, 16, 17], .chk (.t 3)⟩, ⟨some 20, none, [18, 1, 0, 2, 3, 4, 5, 6, 7, 8, 9, 10, 11, 12, 13, 14, 15, 16, 17], .fld (.t 19) 1⟩, ⟨some 21, none, [19, 18, 1, 0, 2, 3, 4, 5, 6, 7, 8, 9, 10, 11, 12, 13, 14, 15, 16, 17], .fld (.t 20) 1⟩, ⟨none, none, [20, 19, 18, 1, 0, 2, 3, 4, 5, 6, 7, 8, 9, 10, 11, 12, 13, 14, 15, 16, 17], .st (.t 21) (.k (.v (.bool false))) 1⟩])
theorem comp_99 : compF Try.prog Try.f99 = some (ic_99, [], 22) := by kernel_rfl
-- ros 99 [none] TYS [none]

def ic_100 : IC := (.seq (.reg false [r 4 (.mv (.k (.v (.int .i64 0))))])
 (.seq (.seq (.reg false [r 6 (.mv (.t 0)), r 7 (.len false (.t 6)), r 8 (.mv (.k (.v (.int .i64 0))))])
 (.block 0
 (.loop
 (.seq (.reg false [r 9 (.ib .lt .i64 (.t 8) (.t 7))])
 (.seq (.cond (.t 9)
 .skip
 (.exit 0))
 (.seq (.block 1
 (.seq (.reg false [r 10 (.mv (.t 8)), r 5 (.mv (.t 10))])
 (.seq (.reg false [r 11 (.mv (.t 1)), r 12 (.mv (.t 0)), r 13 (.mv (.t 5)), r 14 (.idx (.t 12) (.t 13) 1), r 15 (.ld (.t 14)), r 16 (.callv (.t 11) [(.t 15)])])
 (.cond (.t 16)
 (.seq (.reg false [r 17 (.mv (.t 5)), r 4 (.mv (.t 17))])
 .ret)
 .skip))))
 (.reg false [r 18 (.ib .add .i64 (.t 8) (.k (.v (.int .i64 1)))), r 8 (.mv (.t 18))])))))))
 (.seq (.reg false [r 4 (.mv (.k (.v (.int .i64 (-1)))))])
 .ret)))
theorem comp_100 : compF Try.prog Try.f100 = some (ic_100, [.t 4], 19) := by kernel_rfl
-- ros 100 [(some (.row 72 (.row 75 (.st [(.int .u64), (.int .i64), (.int .i64)])))), none] TYS [(.row 72 (.row 75 (.st [(.int .u64), (.int .i64), (.int .i64)]))), none]

end Go.Proofs.Ytojbpjcfdjakkaa
end
section
/-
  The walk of tollbar/shaper.Right$1 (printed by a program of ours).
-/
set_option linter.unusedVariables false
set_option linter.unusedSimpArgs false
namespace Go.Proofs.Ytojbpjcfdjakkaa
open Go.RowKit
noncomputable def tab_shaper_RightIn : Nat → Option Con := look []
set_option maxHeartbeats 20000000 in
set_option maxRecDepth 100000 in
theorem vc_shaper_RightIn (P : Program) (T : Tab P tab_shaper_RightIn) (hm : P.follows .mixedOrders = true) : FnVC P tab_shaper_RightIn ic_32 [.t 3] 11 con_shaper_RightIn := by
 intro cargs ccks ce hce hob C hk
 apply Hidden.out
 replace hce : con_shaper_RightIn_1 cargs ccks = some ce := hce
 ·unfold con_shaper_RightIn_1 at hce
  split at hce; rotate_left; cases hce
  obtain rfl := Option.some.inj hce
  rename_i x1 x2
  have hb1 := hob _ (List.mem_singleton.2 rfl)
  have hb2 := obl.1 hb1
  clear hb1 hob hce
  refine hb2.elim fun r hF => ?_
  clear hb2
  simp only [List.length_cons, List.length_nil, Nat.zero_add, Nat.reduceAdd] at hk
  have hr : F_shaper_RightIn x1 x2 = some r := by rw [lock_eq] at hF; exact hF
  unfold F_shaper_RightIn at hr
  constructor
  (try cbv)
  refine sel_if (by first | rfl | (simp only [K0, K1]; done) | (simp only [K0, K1]; rfl)) hr (fun h1 hr => ?_) (fun h1 hr => ?_)
  ·(try cbv)
   apply Hidden.out
   have e := Option.some.inj hr
   constructor
   refine ⟨_, hF, ?_⟩
   (try cbv); (try simp only [K0, K1, and_self, and_true, true_and]); (try first | exact e | exact e.symm | (and_intros <;> first | assumption | rfl | exact Eq.symm (by assumption)))
  ·(try cbv)
   apply Hidden.out
   have e := Option.some.inj hr
   constructor
   refine ⟨_, hF, ?_⟩
   (try cbv); (try simp only [K0, K1, and_self, and_true, true_and]); (try first | exact e | exact e.symm | (and_intros <;> first | assumption | rfl | exact Eq.symm (by assumption)))
end Go.Proofs.Ytojbpjcfdjakkaa
end
section
/-
  The walk of tollbar/shaper.Right (printed by a program of ours).
-/
set_option linter.unusedVariables false
set_option linter.unusedSimpArgs false
namespace Go.Proofs.Ytojbpjcfdjakkaa
open Go.RowKit
noncomputable def tab_shaper_Right : Nat → Option Con := look [(32, con_shaper_RightIn)]
set_option maxHeartbeats 20000000 in
set_option maxRecDepth 100000 in
theorem vc_shaper_Right (P : Program) (T : Tab P tab_shaper_Right) (hm : P.follows .mixedOrders = true) : FnVC P tab_shaper_Right ic_13 [.t 2] 79 con_shaper_Right := by
 intro cargs ccks ce hce hob C hk
 apply Hidden.out
 replace hce : altC (con_shaper_Right_1 cargs ccks) (altC (con_shaper_Right_2 cargs ccks) (con_shaper_Right_3 cargs ccks)) = some ce := hce
 replace hce := altC_inv hce
 rcases hce with hce | hce
 ·unfold con_shaper_Right_1 at hce
  split at hce; rotate_left; cases hce
  obtain rfl := Option.some.inj hce
  rename_i s1 b1 x1 r1
  have hb1 := hob _ (List.mem_singleton.2 rfl)
  have hb2 := obl.1 hb1
  clear hb1 hob hce
  refine hb2.elim fun r hF => ?_
  clear hb2
  simp only [List.length_cons, List.length_nil, Nat.zero_add, Nat.reduceAdd] at hk
  have hr : F_shaper_Right s1 b1 x1 r1 = some r := by rw [lock_eq] at hF; exact hF
  unfold F_shaper_Right at hr
  constructor
  (try cbv)
  refine sel_if (by first | rfl | (simp only [K0, K1]; done) | (simp only [K0, K1]; rfl)) hr (fun h1 hr => ?_) (fun h1 hr => ?_)
  ·(try cbv)
   apply Hidden.out
   have e := Option.some.inj hr
   constructor
   refine ⟨_, hF, ?_⟩
   (try cbv); (try simp only [K0, K1, and_self, and_true, true_and]); (try first | exact e | exact e.symm | (and_intros <;> first | assumption | rfl | exact Eq.symm (by assumption)))
  ·as_aux_lemma =>
   (try cbv)
   refine sel_if (by first | rfl | (simp only [K0, K1]; done) | (simp only [K0, K1]; rfl)) hr (fun h1 hr => ?_) (fun h1 hr => ?_)
   ·(try cbv)
    apply Hidden.out
    have e := Option.some.inj hr
    constructor
    refine ⟨_, hF, ?_⟩
    (try cbv); (try simp only [K0, K1, and_self, and_true, true_and]); (try first | exact e | exact e.symm | (and_intros <;> first | assumption | rfl | exact Eq.symm (by assumption)))
   ·as_aux_lemma =>
    (try cbv)
    refine ⟨obl.2 (by have h := bindO_ex hr; first | exact h | (simp only [K0, K1]; exact h)), (by rintro (_) _ <;> cbv), ?_⟩
    intro c1 hx1
    (try simp only [K0, K1] at hx1)
    replace hr := bindO_of hx1 hr
    all_goals ((try dsimp only at hr); constructor; (try cbv))
    refine sel_ifn (by first | rfl | (simp only [K0, K1]; done) | (simp only [K0, K1]; rfl)) hr (fun h1 hr => ?_) (fun h1 hr => ?_)
    ·(try cbv)
     apply Hidden.out
     have e := Option.some.inj hr
     constructor
     refine ⟨_, hF, ?_⟩
     (try cbv); (try simp only [K0, K1, and_self, and_true, true_and]); (try first | exact e | exact e.symm | (and_intros <;> first | assumption | rfl | exact Eq.symm (by assumption)))
    ·as_aux_lemma =>
     (try cbv)
     refine LoopOK.iter T (drawOK T hm) hr (fun | i1 => ⟨mkFr [(1, (.ptr 1 0)), (4, (.fn 32 [(.ptr 2 0)])), (28, (.wsl 0)), (29, (.v (.int .i64 (lock ofN (lock (@xlen D) r1))))), (30, (.v (.int .i64 i1)))] 79 0, [(0, .row (.row 83 (.st [.str, (.int .u64), (.int .u64), (.int .u64), (.int .i64), .bool]) r1)), (1, .blk 33 [(.str s1), (.v (.bool b1)), (.wsl 0), .nsl, (.v (.int .i64 x1))]), (2, .blk 3 [(.v (.int .i64 (lock ofN (lock (@xlen D) r1))))])], 3⟩) ?_ ?_
     ·rintro u0 e
      refine le_auto hk ?_
      (try cbv); (try simp only [K0, K1, and_self, and_true, true_and]); (try first | exact e | exact e.symm | (and_intros <;> first | assumption | rfl | exact Eq.symm (by assumption)))
     ·clear hr
      intro x bb1 hr ht1
      obtain ⟨i1, hz⟩ : ∃ z, z = x := ⟨x, rfl⟩
      subst hz
      as_aux_lemma =>
      constructor
      unfold F_shaper_Right_L1 at hr
      (try dsimp only at hr)
      (try cbv)
      refine sel_if (by first | rfl | (simp only [K0, K1]; done) | (simp only [K0, K1]; rfl)) hr (fun h1 hr => ?_) (fun h1 hr => ?_)
      ·as_aux_lemma =>
       (try cbv)
       refine guard_go hr (fun g => by first | (simp only [K0, K1, R.len, R.sub]; exact g) | exact g) (fun hr => ?_)
       rcases Bool.eq_false_or_eq_true (ilt (D.toI (D.fld (getD r1 (toN i1)) 1)) (1500 : Int)) with h1 | h1
       ·rw [if_pos h1] at hr
        have h2 : (lock ilt (lock D.toI (lock D.fld (lock getD r1 (lock toN i1)) 1)) (1500 : Int)) = true := by simp only [lock_eq]; exact h1
        simp only [relock, h2]
        (try cbv)
        apply Hidden.out
        obtain rfl := Option.some.inj hr
        have e := ht1 _ rfl
        constructor
        refine ⟨_, hF, ?_⟩
        (try cbv); (try simp only [K0, K1, and_self, and_true, true_and]); (try first | exact e | exact e.symm | (and_intros <;> first | assumption | rfl | exact Eq.symm (by assumption)))
       ·rw [if_neg (by rw [h1]; exact Bool.false_ne_true)] at hr
        have h2 : (lock ilt (lock D.toI (lock D.fld (lock getD r1 (lock toN i1)) 1)) (1500 : Int)) = false := by simp only [lock_eq]; exact h1
        simp only [relock, h2]
        (try cbv)
        rcases Bool.eq_false_or_eq_true (ilt (D.toI (D.fld (getD r1 (toN i1)) 4)) (1 : Int)) with h1 | h1
        ·rw [if_pos h1] at hr
         have h2 : (lock ilt (lock D.toI (lock D.fld (lock getD r1 (lock toN i1)) 4)) (1 : Int)) = true := by simp only [lock_eq]; exact h1
         simp only [relock, h2]
         (try cbv)
         apply Hidden.out
         obtain rfl := Option.some.inj hr
         have e := ht1 _ rfl
         constructor
         refine ⟨_, hF, ?_⟩
         (try cbv); (try simp only [K0, K1, and_self, and_true, true_and]); (try first | exact e | exact e.symm | (and_intros <;> first | assumption | rfl | exact Eq.symm (by assumption)))
        ·rw [if_neg (by rw [h1]; exact Bool.false_ne_true)] at hr
         have h2 : (lock ilt (lock D.toI (lock D.fld (lock getD r1 (lock toN i1)) 4)) (1 : Int)) = false := by simp only [lock_eq]; exact h1
         simp only [relock, h2]
         (try cbv)
         rcases Bool.eq_false_or_eq_true (ilt (64 : Int) (D.toI (D.fld (getD r1 (toN i1)) 4))) with h1 | h1
         ·rw [if_pos h1] at hr
          have h2 : (lock ilt (64 : Int) (lock D.toI (lock D.fld (lock getD r1 (lock toN i1)) 4))) = true := by simp only [lock_eq]; exact h1
          simp only [relock, h2]
          (try cbv)
          apply Hidden.out
          obtain rfl := Option.some.inj hr
          have e := ht1 _ rfl
          constructor
          refine ⟨_, hF, ?_⟩
          (try cbv); (try simp only [K0, K1, and_self, and_true, true_and]); (try first | exact e | exact e.symm | (and_intros <;> first | assumption | rfl | exact Eq.symm (by assumption)))
         ·rw [if_neg (by rw [h1]; exact Bool.false_ne_true)] at hr
          have h2 : (lock ilt (64 : Int) (lock D.toI (lock D.fld (lock getD r1 (lock toN i1)) 4))) = false := by simp only [lock_eq]; exact h1
          simp only [relock, h2]
          (try cbv)
          rcases Bool.eq_false_or_eq_true (ilt (0 : Int) i1) with h1 | h1
          ·rw [if_pos h1] at hr
           have h2 : (lock ilt (0 : Int) i1) = true := by simp only [lock_eq]; exact h1
           simp only [relock, h2]
           (try cbv)
           refine guard_go hr (fun g => by first | (simp only [K0, K1, R.len, R.sub]; exact g) | exact g) (fun hr => ?_)
           refine sel_ifn (by first | rfl | (simp only [K0, K1]; done) | (simp only [K0, K1]; rfl)) hr (fun h1 hr => ?_) (fun h1 hr => ?_)
           ·(try cbv)
            apply Hidden.out
            obtain rfl := Option.some.inj hr
            have e := ht1 _ rfl
            constructor
            refine ⟨_, hF, ?_⟩
            (try cbv); (try simp only [K0, K1, and_self, and_true, true_and]); (try first | exact e | exact e.symm | (and_intros <;> first | assumption | rfl | exact Eq.symm (by assumption)))
           ·(try cbv)
            apply Hidden.out
            obtain rfl := Option.some.inj hr
            constructor
            refine ⟨⟨_, rfl⟩, ?_⟩
            rintro u0 e
            replace e := Sum.inl.inj e
            refine le_auto hk ?_
            (try cbv); (try simp only [K0, K1, and_self, and_true, true_and]); (try first | exact e | exact e.symm | (and_intros <;> first | assumption | rfl | exact Eq.symm (by assumption)))
          ·rw [if_neg (by rw [h1]; exact Bool.false_ne_true)] at hr
           have h2 : (lock ilt (0 : Int) i1) = false := by simp only [lock_eq]; exact h1
           simp only [relock, h2]
           (try cbv)
           apply Hidden.out
           obtain rfl := Option.some.inj hr
           constructor
           refine ⟨⟨_, rfl⟩, ?_⟩
           rintro u0 e
           replace e := Sum.inl.inj e
           refine le_auto hk ?_
           (try cbv); (try simp only [K0, K1, and_self, and_true, true_and]); (try first | exact e | exact e.symm | (and_intros <;> first | assumption | rfl | exact Eq.symm (by assumption)))
      ·(try cbv)
       apply Hidden.out
       obtain ⟨t, hr2, hw⟩ := map_inv hr
       clear hr
       subst hw
       have e := (ht1 _ rfl).symm
       subst e
       have hr := hr2
       clear hr2
       constructor
       refine LoopOK.iter T (drawOK T hm) hr (fun | _ => ⟨mkFr [(4, (.fn 32 [(.ptr 1 0)])), (67, .nsl), (68, (.v (.int .i64 (lock ofN 0)))), (69, (.v (.int .i64 (0 : Int))))] 79 0, [(0, .row (.row 83 (.st [.str, (.int .u64), (.int .u64), (.int .u64), (.int .i64), .bool]) r1)), (1, .blk 3 [(.v (.int .i64 (lock ofN (lock (@xlen D) r1))))])], 2⟩) ?_ ?_
       ·rintro _ e
        refine le_auto hk ?_
        (try cbv); (try simp only [K0, K1, and_self, and_true, true_and]); (try first | exact e | exact e.symm | (and_intros <;> first | assumption | rfl | exact Eq.symm (by assumption)))
       ·clear hr
        intro x bb1 hr ht1
        as_aux_lemma =>
        constructor
        unfold F_shaper_Right_L2 at hr
        (try dsimp only at hr)
        (try cbv)
        refine sel_if (by first | rfl | (simp only [K0, K1]; done) | (simp only [K0, K1]; rfl)) hr (fun h1 hr => ?_) (fun h1 hr => ?_)
        ·(try cbv)
         cases hr
        ·(try cbv)
         apply Hidden.out
         obtain rfl := Option.some.inj hr
         have e := ht1 _ rfl
         constructor
         refine ⟨_, hF, ?_⟩
         (try cbv); (try simp only [K0, K1, and_self, and_true, true_and]); (try first | exact e | exact e.symm | (and_intros <;> first | assumption | rfl | exact Eq.symm (by assumption)))
 replace hce := altC_inv hce
 rcases hce with hce | hce
 ·unfold con_shaper_Right_2 at hce
  split at hce; rotate_left; cases hce
  obtain rfl := Option.some.inj hce
  rename_i s1 b1 x1
  have hb1 := hob _ (List.mem_singleton.2 rfl)
  have hb2 := obl.1 hb1
  clear hb1 hob hce
  refine hb2.elim fun r hF => ?_
  clear hb2
  simp only [List.length_cons, List.length_nil, Nat.zero_add, Nat.reduceAdd] at hk
  have hr : F_shaper_Right_2 s1 b1 x1 = some r := by rw [lock_eq] at hF; exact hF
  unfold F_shaper_Right_2 at hr
  constructor
  (try cbv)
  refine sel_if (by first | rfl | (simp only [K0, K1]; done) | (simp only [K0, K1]; rfl)) hr (fun h1 hr => ?_) (fun h1 hr => ?_)
  ·(try cbv)
   apply Hidden.out
   have e := Option.some.inj hr
   constructor
   refine ⟨_, hF, ?_⟩
   (try cbv); (try simp only [K0, K1, and_self, and_true, true_and]); (try first | exact e | exact e.symm | (and_intros <;> first | assumption | rfl | exact Eq.symm (by assumption)))
  ·as_aux_lemma =>
   (try cbv)
   refine sel_if (by first | rfl | (simp only [K0, K1]; done) | (simp only [K0, K1]; rfl)) hr (fun h1 hr => ?_) (fun h1 hr => ?_)
   ·(try cbv)
    apply Hidden.out
    have e := Option.some.inj hr
    constructor
    refine ⟨_, hF, ?_⟩
    (try cbv); (try simp only [K0, K1, and_self, and_true, true_and]); (try first | exact e | exact e.symm | (and_intros <;> first | assumption | rfl | exact Eq.symm (by assumption)))
   ·(try cbv)
    refine ⟨obl.2 (by have h := bindO_ex hr; first | exact h | (simp only [K0, K1]; exact h)), (by rintro (_) _ <;> cbv), ?_⟩
    intro c1 hx1
    (try simp only [K0, K1] at hx1)
    replace hr := bindO_of hx1 hr
    all_goals ((try dsimp only at hr); constructor; (try cbv))
    refine sel_ifn (by first | rfl | (simp only [K0, K1]; done) | (simp only [K0, K1]; rfl)) hr (fun h1 hr => ?_) (fun h1 hr => ?_)
    ·(try cbv)
     apply Hidden.out
     have e := Option.some.inj hr
     constructor
     refine ⟨_, hF, ?_⟩
     (try cbv); (try simp only [K0, K1, and_self, and_true, true_and]); (try first | exact e | exact e.symm | (and_intros <;> first | assumption | rfl | exact Eq.symm (by assumption)))
    ·(try cbv)
     refine LoopOK.iter T (drawOK T hm) hr (fun | _ => ⟨mkFr [(1, (.ptr 0 0)), (4, (.fn 32 [(.ptr 1 0)])), (28, .nsl), (29, (.v (.int .i64 (lock ofN 0)))), (30, (.v (.int .i64 (0 : Int))))] 79 0, [(0, .blk 33 [(.str s1), (.v (.bool b1)), .nsl, .nsl, (.v (.int .i64 x1))]), (1, .blk 3 [(.v (.int .i64 (lock ofN 0)))])], 2⟩) ?_ ?_
     ·rintro _ e
      refine le_auto hk ?_
      (try cbv); (try simp only [K0, K1, and_self, and_true, true_and]); (try first | exact e | exact e.symm | (and_intros <;> first | assumption | rfl | exact Eq.symm (by assumption)))
     ·clear hr
      intro x bb1 hr ht1
      as_aux_lemma =>
      constructor
      unfold F_shaper_Right_2_L1 at hr
      (try dsimp only at hr)
      (try cbv)
      refine sel_if (by first | rfl | (simp only [K0, K1]; done) | (simp only [K0, K1]; rfl)) hr (fun h1 hr => ?_) (fun h1 hr => ?_)
      ·(try cbv)
       cases hr
      ·(try cbv)
       apply Hidden.out
       obtain ⟨t, hr2, hw⟩ := map_inv hr
       clear hr
       subst hw
       have e := (ht1 _ rfl).symm
       subst e
       have hr := hr2
       clear hr2
       constructor
       refine LoopOK.iter T (drawOK T hm) hr (fun | _ => ⟨mkFr [(4, (.fn 32 [(.ptr 0 0)])), (67, .nsl), (68, (.v (.int .i64 (lock ofN 0)))), (69, (.v (.int .i64 (0 : Int))))] 79 0, [(0, .blk 3 [(.v (.int .i64 (lock ofN 0)))])], 1⟩) ?_ ?_
       ·rintro _ e
        refine le_auto hk ?_
        (try cbv); (try simp only [K0, K1, and_self, and_true, true_and]); (try first | exact e | exact e.symm | (and_intros <;> first | assumption | rfl | exact Eq.symm (by assumption)))
       ·clear hr
        intro x bb1 hr ht1
        as_aux_lemma =>
        constructor
        unfold F_shaper_Right_2_L2 at hr
        (try dsimp only at hr)
        (try cbv)
        refine sel_if (by first | rfl | (simp only [K0, K1]; done) | (simp only [K0, K1]; rfl)) hr (fun h1 hr => ?_) (fun h1 hr => ?_)
        ·(try cbv)
         cases hr
        ·(try cbv)
         apply Hidden.out
         obtain rfl := Option.some.inj hr
         have e := ht1 _ rfl
         constructor
         refine ⟨_, hF, ?_⟩
         (try cbv); (try simp only [K0, K1, and_self, and_true, true_and]); (try first | exact e | exact e.symm | (and_intros <;> first | assumption | rfl | exact Eq.symm (by assumption)))
 ·unfold con_shaper_Right_3 at hce
  split at hce; rotate_left; cases hce
  obtain rfl := Option.some.inj hce
  rename_i s1 b1 r1 r2 x1
  have hb1 := hob _ (List.mem_singleton.2 rfl)
  have hb2 := obl.1 hb1
  clear hb1 hob hce
  refine hb2.elim fun r hF => ?_
  clear hb2
  simp only [List.length_cons, List.length_nil, Nat.zero_add, Nat.reduceAdd] at hk
  have hr : F_shaper_Right_3 s1 b1 r1 r2 x1 = some r := by rw [lock_eq] at hF; exact hF
  unfold F_shaper_Right_3 at hr
  constructor
  (try cbv)
  refine sel_if (by first | rfl | (simp only [K0, K1]; done) | (simp only [K0, K1]; rfl)) hr (fun h1 hr => ?_) (fun h1 hr => ?_)
  ·(try cbv)
   apply Hidden.out
   have e := Option.some.inj hr
   constructor
   refine ⟨_, hF, ?_⟩
   (try cbv); (try simp only [K0, K1, and_self, and_true, true_and]); (try first | exact e | exact e.symm | (and_intros <;> first | assumption | rfl | exact Eq.symm (by assumption)))
  ·as_aux_lemma =>
   (try cbv)
   refine sel_if (by first | rfl | (simp only [K0, K1]; done) | (simp only [K0, K1]; rfl)) hr (fun h1 hr => ?_) (fun h1 hr => ?_)
   ·(try cbv)
    apply Hidden.out
    have e := Option.some.inj hr
    constructor
    refine ⟨_, hF, ?_⟩
    (try cbv); (try simp only [K0, K1, and_self, and_true, true_and]); (try first | exact e | exact e.symm | (and_intros <;> first | assumption | rfl | exact Eq.symm (by assumption)))
   ·as_aux_lemma =>
    (try cbv)
    refine ⟨obl.2 (by have h := bindO_ex hr; first | exact h | (simp only [K0, K1]; exact h)), (by rintro (_) _ <;> cbv), ?_⟩
    intro c1 hx1
    (try simp only [K0, K1] at hx1)
    replace hr := bindO_of hx1 hr
    all_goals ((try dsimp only at hr); constructor; (try cbv))
    refine sel_ifn (by first | rfl | (simp only [K0, K1]; done) | (simp only [K0, K1]; rfl)) hr (fun h1 hr => ?_) (fun h1 hr => ?_)
    ·(try cbv)
     apply Hidden.out
     have e := Option.some.inj hr
     constructor
     refine ⟨_, hF, ?_⟩
     (try cbv); (try simp only [K0, K1, and_self, and_true, true_and]); (try first | exact e | exact e.symm | (and_intros <;> first | assumption | rfl | exact Eq.symm (by assumption)))
    ·as_aux_lemma =>
     (try cbv)
     refine LoopOK.iter T (drawOK T hm) hr (fun | i1 => ⟨mkFr [(1, (.ptr 0 0)), (4, (.fn 32 [(.ptr 1 0)])), (28, (.rsl (.row 83 (.st [.str, (.int .u64), (.int .u64), (.int .u64), (.int .i64), .bool]) r1))), (29, (.v (.int .i64 (lock ofN (lock (@xlen D) r1))))), (30, (.v (.int .i64 i1)))] 79 0, [(0, .blk 33 [(.str s1), (.v (.bool b1)), (.rsl (.row 83 (.st [.str, (.int .u64), (.int .u64), (.int .u64), (.int .i64), .bool]) r1)), (.rsl (.row 96 (.st [(.int .i64), (.int .i64), (.int .i64)]) r2)), (.v (.int .i64 x1))]), (1, .blk 3 [(.v (.int .i64 (lock ofN (lock (@xlen D) r1))))])], 2⟩) ?_ ?_
     ·rintro u0 e
      refine le_auto hk ?_
      (try cbv); (try simp only [K0, K1, and_self, and_true, true_and]); (try first | exact e | exact e.symm | (and_intros <;> first | assumption | rfl | exact Eq.symm (by assumption)))
     ·clear hr
      intro x bb1 hr ht1
      obtain ⟨i1, hz⟩ : ∃ z, z = x := ⟨x, rfl⟩
      subst hz
      as_aux_lemma =>
      constructor
      unfold F_shaper_Right_3_L1 at hr
      (try dsimp only at hr)
      (try cbv)
      refine sel_if (by first | rfl | (simp only [K0, K1]; done) | (simp only [K0, K1]; rfl)) hr (fun h1 hr => ?_) (fun h1 hr => ?_)
      ·as_aux_lemma =>
       (try cbv)
       refine guard_go hr (fun g => by first | (simp only [K0, K1, R.len, R.sub]; exact g) | exact g) (fun hr => ?_)
       rcases Bool.eq_false_or_eq_true (ilt (D.toI (D.fld (getD r1 (toN i1)) 1)) (1500 : Int)) with h1 | h1
       ·rw [if_pos h1] at hr
        have h2 : (lock ilt (lock D.toI (lock D.fld (lock getD r1 (lock toN i1)) 1)) (1500 : Int)) = true := by simp only [lock_eq]; exact h1
        simp only [relock, h2]
        (try cbv)
        apply Hidden.out
        obtain rfl := Option.some.inj hr
        have e := ht1 _ rfl
        constructor
        refine ⟨_, hF, ?_⟩
        (try cbv); (try simp only [K0, K1, and_self, and_true, true_and]); (try first | exact e | exact e.symm | (and_intros <;> first | assumption | rfl | exact Eq.symm (by assumption)))
       ·rw [if_neg (by rw [h1]; exact Bool.false_ne_true)] at hr
        have h2 : (lock ilt (lock D.toI (lock D.fld (lock getD r1 (lock toN i1)) 1)) (1500 : Int)) = false := by simp only [lock_eq]; exact h1
        simp only [relock, h2]
        (try cbv)
        rcases Bool.eq_false_or_eq_true (ilt (D.toI (D.fld (getD r1 (toN i1)) 4)) (1 : Int)) with h1 | h1
        ·rw [if_pos h1] at hr
         have h2 : (lock ilt (lock D.toI (lock D.fld (lock getD r1 (lock toN i1)) 4)) (1 : Int)) = true := by simp only [lock_eq]; exact h1
         simp only [relock, h2]
         (try cbv)
         apply Hidden.out
         obtain rfl := Option.some.inj hr
         have e := ht1 _ rfl
         constructor
         refine ⟨_, hF, ?_⟩
         (try cbv); (try simp only [K0, K1, and_self, and_true, true_and]); (try first | exact e | exact e.symm | (and_intros <;> first | assumption | rfl | exact Eq.symm (by assumption)))
        ·rw [if_neg (by rw [h1]; exact Bool.false_ne_true)] at hr
         have h2 : (lock ilt (lock D.toI (lock D.fld (lock getD r1 (lock toN i1)) 4)) (1 : Int)) = false := by simp only [lock_eq]; exact h1
         simp only [relock, h2]
         (try cbv)
         rcases Bool.eq_false_or_eq_true (ilt (64 : Int) (D.toI (D.fld (getD r1 (toN i1)) 4))) with h1 | h1
         ·rw [if_pos h1] at hr
          have h2 : (lock ilt (64 : Int) (lock D.toI (lock D.fld (lock getD r1 (lock toN i1)) 4))) = true := by simp only [lock_eq]; exact h1
          simp only [relock, h2]
          (try cbv)
          apply Hidden.out
          obtain rfl := Option.some.inj hr
          have e := ht1 _ rfl
          constructor
          refine ⟨_, hF, ?_⟩
          (try cbv); (try simp only [K0, K1, and_self, and_true, true_and]); (try first | exact e | exact e.symm | (and_intros <;> first | assumption | rfl | exact Eq.symm (by assumption)))
         ·rw [if_neg (by rw [h1]; exact Bool.false_ne_true)] at hr
          have h2 : (lock ilt (64 : Int) (lock D.toI (lock D.fld (lock getD r1 (lock toN i1)) 4))) = false := by simp only [lock_eq]; exact h1
          simp only [relock, h2]
          (try cbv)
          rcases Bool.eq_false_or_eq_true (ilt (0 : Int) i1) with h1 | h1
          ·rw [if_pos h1] at hr
           have h2 : (lock ilt (0 : Int) i1) = true := by simp only [lock_eq]; exact h1
           simp only [relock, h2]
           (try cbv)
           refine guard_go hr (fun g => by first | (simp only [K0, K1, R.len, R.sub]; exact g) | exact g) (fun hr => ?_)
           refine sel_ifn (by first | rfl | (simp only [K0, K1]; done) | (simp only [K0, K1]; rfl)) hr (fun h1 hr => ?_) (fun h1 hr => ?_)
           ·(try cbv)
            apply Hidden.out
            obtain rfl := Option.some.inj hr
            have e := ht1 _ rfl
            constructor
            refine ⟨_, hF, ?_⟩
            (try cbv); (try simp only [K0, K1, and_self, and_true, true_and]); (try first | exact e | exact e.symm | (and_intros <;> first | assumption | rfl | exact Eq.symm (by assumption)))
           ·(try cbv)
            apply Hidden.out
            obtain rfl := Option.some.inj hr
            constructor
            refine ⟨⟨_, rfl⟩, ?_⟩
            rintro u0 e
            replace e := Sum.inl.inj e
            refine le_auto hk ?_
            (try cbv); (try simp only [K0, K1, and_self, and_true, true_and]); (try first | exact e | exact e.symm | (and_intros <;> first | assumption | rfl | exact Eq.symm (by assumption)))
          ·rw [if_neg (by rw [h1]; exact Bool.false_ne_true)] at hr
           have h2 : (lock ilt (0 : Int) i1) = false := by simp only [lock_eq]; exact h1
           simp only [relock, h2]
           (try cbv)
           apply Hidden.out
           obtain rfl := Option.some.inj hr
           constructor
           refine ⟨⟨_, rfl⟩, ?_⟩
           rintro u0 e
           replace e := Sum.inl.inj e
           refine le_auto hk ?_
           (try cbv); (try simp only [K0, K1, and_self, and_true, true_and]); (try first | exact e | exact e.symm | (and_intros <;> first | assumption | rfl | exact Eq.symm (by assumption)))
      ·(try cbv)
       apply Hidden.out
       obtain ⟨t, hr2, hw⟩ := map_inv hr
       clear hr
       subst hw
       have e := (ht1 _ rfl).symm
       subst e
       have hr := hr2
       clear hr2
       constructor
       refine LoopOK.iter T (drawOK T hm) hr (fun | i2 => ⟨mkFr [(4, (.fn 32 [(.ptr 0 0)])), (67, (.rsl (.row 96 (.st [(.int .i64), (.int .i64), (.int .i64)]) r2))), (68, (.v (.int .i64 (lock ofN (lock (@xlen D) r2))))), (69, (.v (.int .i64 i2)))] 79 0, [(0, .blk 3 [(.v (.int .i64 (lock ofN (lock (@xlen D) r1))))])], 1⟩) ?_ ?_
       ·rintro u0 e
        refine le_auto hk ?_
        (try cbv); (try simp only [K0, K1, and_self, and_true, true_and]); (try first | exact e | exact e.symm | (and_intros <;> first | assumption | rfl | exact Eq.symm (by assumption)))
       ·clear hr
        intro x bb1 hr ht1
        obtain ⟨i2, hz⟩ : ∃ z, z = x := ⟨x, rfl⟩
        subst hz
        as_aux_lemma =>
        constructor
        unfold F_shaper_Right_3_L2 at hr
        (try dsimp only at hr)
        (try cbv)
        refine sel_if (by first | rfl | (simp only [K0, K1]; done) | (simp only [K0, K1]; rfl)) hr (fun h1 hr => ?_) (fun h1 hr => ?_)
        ·(try cbv)
         refine guard_go hr (fun g => by first | (simp only [K0, K1, R.len, R.sub]; exact g) | exact g) (fun hr => ?_)
         refine ⟨obl.2 (by have h := bindO_ex hr; first | exact h | (simp only [K0, K1]; exact h)), (by rintro (_) _ <;> cbv), ?_⟩
         intro c4 hx4
         (try simp only [K0, K1] at hx4)
         replace hr := bindO_of hx4 hr
         all_goals ((try dsimp only at hr); constructor; (try cbv))
         refine sel_ifn (by first | rfl | (simp only [K0, K1]; done) | (simp only [K0, K1]; rfl)) hr (fun h1 hr => ?_) (fun h1 hr => ?_)
         ·(try cbv)
          apply Hidden.out
          obtain rfl := Option.some.inj hr
          have e := ht1 _ rfl
          constructor
          refine ⟨_, hF, ?_⟩
          (try cbv); (try simp only [K0, K1, and_self, and_true, true_and]); (try first | exact e | exact e.symm | (and_intros <;> first | assumption | rfl | exact Eq.symm (by assumption)))
         ·(try cbv)
          apply Hidden.out
          obtain rfl := Option.some.inj hr
          constructor
          refine ⟨⟨_, rfl⟩, ?_⟩
          rintro u0 e
          replace e := Sum.inl.inj e
          refine le_auto hk ?_
          (try cbv); (try simp only [K0, K1, and_self, and_true, true_and]); (try first | exact e | exact e.symm | (and_intros <;> first | assumption | rfl | exact Eq.symm (by assumption)))
        ·(try cbv)
         apply Hidden.out
         obtain rfl := Option.some.inj hr
         have e := ht1 _ rfl
         constructor
         refine ⟨_, hF, ?_⟩
         (try cbv); (try simp only [K0, K1, and_self, and_true, true_and]); (try first | exact e | exact e.symm | (and_intros <;> first | assumption | rfl | exact Eq.symm (by assumption)))
end Go.Proofs.Ytojbpjcfdjakkaa
end
section
/-
  The walk of slices.Clone[[]tollbar/plan.Class,tollbar/plan.Class] (printed by a program of ours).
-/
set_option linter.unusedVariables false
set_option linter.unusedSimpArgs false
namespace Go.Proofs.Ytojbpjcfdjakkaa
open Go.RowKit
noncomputable def tab_slices_CloneC : Nat → Option Con := look []
set_option maxRecDepth 100000 in
theorem vc_slices_CloneC (P : Program) (T : Tab P tab_slices_CloneC) (hm : P.follows .mixedOrders = true) : FnVC P tab_slices_CloneC ic_78 [.t 2] 8 con_slices_CloneC := by
 intro cargs ccks ce hce hob C hk
 apply Hidden.out
 replace hce : con_slices_CloneC_1 cargs ccks = some ce := hce
 ·unfold con_slices_CloneC_1 at hce
  split at hce; rotate_left; cases hce
  obtain rfl := Option.some.inj hce
  rename_i r1
  have hb1 := hob _ (List.mem_singleton.2 rfl)
  have hb2 := obl.1 hb1
  clear hb1 hob hce
  refine hb2.elim fun r hF => ?_
  clear hb2
  simp only [List.length_cons, List.length_nil, Nat.zero_add, Nat.reduceAdd] at hk
  have hr : cloneC r1 = some r := by rw [lock_eq] at hF; exact hF
  unfold cloneC at hr
  obtain ⟨g, hr⟩ := guard_inv hr
  obtain rfl := Option.some.inj hr
  constructor
  cbv
  intro b hb
  cases b with
  | true =>
   constructor
   have hb : lock (@xlen D) r1 = 0 := hb rfl
   simp only [lock_eq, xlen] at hb
   have e : r1 = [] := List.length_eq_zero_iff.1 hb
   refine ⟨_, hF, ?_⟩
   cbv
   exact e
  | false =>
   constructor
   cbv
   refine ⟨obl.2 (by simp only [R.len, lock_eq, choice_lk, xlen, List.length_nil]; simp only [xlen] at g; simp at g ⊢; omega), ?_⟩
   refine ⟨_, hF, ?_⟩
   cbv
   (try simp only [choice_lk])
   rfl
end Go.Proofs.Ytojbpjcfdjakkaa
end
section
/-
  The walk of slices.Clone[[]tollbar/flow.Rule,tollbar/flow.Rule] (printed by a program of ours).
-/
set_option linter.unusedVariables false
set_option linter.unusedSimpArgs false
namespace Go.Proofs.Ytojbpjcfdjakkaa
open Go.RowKit
noncomputable def tab_slices_CloneR : Nat → Option Con := look []
set_option maxRecDepth 100000 in
theorem vc_slices_CloneR (P : Program) (T : Tab P tab_slices_CloneR) (hm : P.follows .mixedOrders = true) : FnVC P tab_slices_CloneR ic_79 [.t 2] 8 con_slices_CloneR := by
 intro cargs ccks ce hce hob C hk
 apply Hidden.out
 replace hce : con_slices_CloneR_1 cargs ccks = some ce := hce
 ·unfold con_slices_CloneR_1 at hce
  split at hce; rotate_left; cases hce
  obtain rfl := Option.some.inj hce
  rename_i r1
  have hb1 := hob _ (List.mem_singleton.2 rfl)
  have hb2 := obl.1 hb1
  clear hb1 hob hce
  refine hb2.elim fun r hF => ?_
  clear hb2
  simp only [List.length_cons, List.length_nil, Nat.zero_add, Nat.reduceAdd] at hk
  have hr : cloneR r1 = some r := by rw [lock_eq] at hF; exact hF
  unfold cloneR at hr
  obtain ⟨g, hr⟩ := guard_inv hr
  obtain rfl := Option.some.inj hr
  constructor
  cbv
  intro b hb
  cases b with
  | true =>
   constructor
   have hb : lock (@xlen D) r1 = 0 := hb rfl
   simp only [lock_eq, xlen] at hb
   have e : r1 = [] := List.length_eq_zero_iff.1 hb
   refine ⟨_, hF, ?_⟩
   cbv
   exact e
  | false =>
   constructor
   cbv
   refine ⟨obl.2 (by simp only [R.len, lock_eq, choice_lk, xlen, List.length_nil]; simp only [xlen] at g; simp at g ⊢; omega), ?_⟩
   refine ⟨_, hF, ?_⟩
   cbv
   (try simp only [choice_lk])
   rfl
end Go.Proofs.Ytojbpjcfdjakkaa
end
section
/-
  The walk of tollbar/shaper.own (printed by a program of ours).
-/
set_option linter.unusedVariables false
set_option linter.unusedSimpArgs false
namespace Go.Proofs.Ytojbpjcfdjakkaa
open Go.RowKit
noncomputable def tab_shaper_own : Nat → Option Con := look [(78, con_slices_CloneC), (79, con_slices_CloneR)]
set_option maxHeartbeats 20000000 in
set_option maxRecDepth 100000 in
theorem vc_shaper_own (P : Program) (T : Tab P tab_shaper_own) (hm : P.follows .mixedOrders = true) : FnVC P tab_shaper_own ic_50 [.c 2 5 true] 14 con_shaper_own := by
 intro cargs ccks ce hce hob C hk
 apply Hidden.out
 replace hce : altC (con_shaper_own_1 cargs ccks) (altC (con_shaper_own_2 cargs ccks) (con_shaper_own_3 cargs ccks)) = some ce := hce
 replace hce := altC_inv hce
 rcases hce with hce | hce
 ·unfold con_shaper_own_1 at hce
  split at hce; rotate_left; cases hce
  obtain rfl := Option.some.inj hce
  rename_i s1 b1 x1 r1
  have hb1 := hob _ (List.mem_singleton.2 rfl)
  have hb2 := obl.1 hb1
  clear hb1 hob hce
  refine hb2.elim fun r hF => ?_
  clear hb2
  simp only [List.length_cons, List.length_nil, Nat.zero_add, Nat.reduceAdd] at hk
  have hr : F_shaper_own s1 b1 x1 r1 = some r := by rw [lock_eq] at hF; exact hF
  unfold F_shaper_own at hr
  constructor
  (try cbv)
  refine ⟨obl.2 (by have h := bindO_ex hr; first | exact h | (simp only [K0, K1]; exact h)), (by rintro (_) _ <;> cbv), ?_⟩
  intro q1 hx1
  (try simp only [K0, K1] at hx1)
  replace hr := bindO_of hx1 hr
  all_goals ((try dsimp only at hr); constructor; (try cbv))
  refine ⟨obl.2 (by have h := bindO_ex hr; first | exact h | (simp only [K0, K1]; exact h)), (by rintro (_) _ <;> cbv), ?_⟩
  intro q2 hx2
  (try simp only [K0, K1] at hx2)
  replace hr := bindO_of hx2 hr
  all_goals ((try dsimp only at hr); constructor; (try cbv))
  apply Hidden.out
  have e := Option.some.inj hr
  obtain ⟨u0, u1⟩ := r
  simp only [Prod.mk.injEq] at e
  obtain ⟨e0, e1⟩ := e
  constructor
  refine ⟨_, hF, ?_⟩
  (try cbv); (try simp only [K0, K1, and_self, and_true, true_and]); (try first | exact e | exact e.symm | (and_intros <;> first | assumption | rfl | exact Eq.symm (by assumption)))
 replace hce := altC_inv hce
 rcases hce with hce | hce
 ·unfold con_shaper_own_2 at hce
  split at hce; rotate_left; cases hce
  obtain rfl := Option.some.inj hce
  rename_i s1 b1 x1 r1 r2
  have hb1 := hob _ (List.mem_singleton.2 rfl)
  have hb2 := obl.1 hb1
  clear hb1 hob hce
  refine hb2.elim fun r hF => ?_
  clear hb2
  simp only [List.length_cons, List.length_nil, Nat.zero_add, Nat.reduceAdd] at hk
  have hr : F_shaper_own_2 s1 b1 x1 r1 r2 = some r := by rw [lock_eq] at hF; exact hF
  unfold F_shaper_own_2 at hr
  constructor
  (try cbv)
  refine ⟨obl.2 (by have h := bindO_ex hr; first | exact h | (simp only [K0, K1]; exact h)), (by rintro (_) _ <;> cbv), ?_⟩
  intro q1 hx1
  (try simp only [K0, K1] at hx1)
  replace hr := bindO_of hx1 hr
  all_goals ((try dsimp only at hr); constructor; (try cbv))
  refine ⟨obl.2 (by have h := bindO_ex hr; first | exact h | (simp only [K0, K1]; exact h)), (by rintro (_) _ <;> cbv), ?_⟩
  intro q2 hx2
  (try simp only [K0, K1] at hx2)
  replace hr := bindO_of hx2 hr
  all_goals ((try dsimp only at hr); constructor; (try cbv))
  apply Hidden.out
  have e := Option.some.inj hr
  obtain ⟨u0, u1⟩ := r
  simp only [Prod.mk.injEq] at e
  obtain ⟨e0, e1⟩ := e
  constructor
  refine ⟨_, hF, ?_⟩
  (try cbv); (try simp only [K0, K1, and_self, and_true, true_and]); (try first | exact e | exact e.symm | (and_intros <;> first | assumption | rfl | exact Eq.symm (by assumption)))
 ·unfold con_shaper_own_3 at hce
  split at hce; rotate_left; cases hce
  obtain rfl := Option.some.inj hce
  rename_i s1 b1 r1 r2 x1
  have hb1 := hob _ (List.mem_singleton.2 rfl)
  have hb2 := obl.1 hb1
  clear hb1 hob hce
  refine hb2.elim fun r hF => ?_
  clear hb2
  simp only [List.length_cons, List.length_nil, Nat.zero_add, Nat.reduceAdd] at hk
  have hr : F_shaper_own_3 s1 b1 r1 r2 x1 = some r := by rw [lock_eq] at hF; exact hF
  unfold F_shaper_own_3 at hr
  constructor
  (try cbv)
  refine ⟨obl.2 (by have h := bindO_ex hr; first | exact h | (simp only [K0, K1]; exact h)), (by rintro (_) _ <;> cbv), ?_⟩
  intro q1 hx1
  (try simp only [K0, K1] at hx1)
  replace hr := bindO_of hx1 hr
  all_goals ((try dsimp only at hr); constructor; (try cbv))
  refine ⟨obl.2 (by have h := bindO_ex hr; first | exact h | (simp only [K0, K1]; exact h)), (by rintro (_) _ <;> cbv), ?_⟩
  intro q2 hx2
  (try simp only [K0, K1] at hx2)
  replace hr := bindO_of hx2 hr
  all_goals ((try dsimp only at hr); constructor; (try cbv))
  apply Hidden.out
  have e := Option.some.inj hr
  obtain ⟨u0, u1⟩ := r
  simp only [Prod.mk.injEq] at e
  obtain ⟨e0, e1⟩ := e
  constructor
  refine ⟨_, hF, ?_⟩
  (try cbv); (try simp only [K0, K1, and_self, and_true, true_and]); (try first | exact e | exact e.symm | (and_intros <;> first | assumption | rfl | exact Eq.symm (by assumption)))
end Go.Proofs.Ytojbpjcfdjakkaa
end
section
/-
  The walk of tollbar/bucket.New (printed by a program of ours).
-/
set_option linter.unusedVariables false
set_option linter.unusedSimpArgs false
namespace Go.Proofs.Ytojbpjcfdjakkaa
open Go.RowKit
noncomputable def tab_bucket_New : Nat → Option Con := look []
set_option maxHeartbeats 20000000 in
set_option maxRecDepth 100000 in
theorem vc_bucket_New (P : Program) (T : Tab P tab_bucket_New) (hm : P.follows .mixedOrders = true) : FnVC P tab_bucket_New ic_60 [.c 4 3 true] 9 con_bucket_New := by
 intro cargs ccks ce hce hob C hk
 apply Hidden.out
 replace hce : con_bucket_New_1 cargs ccks = some ce := hce
 ·unfold con_bucket_New_1 at hce
  split at hce; rotate_left; cases hce
  obtain rfl := Option.some.inj hce
  rename_i x1 x2
  have hb1 := hob _ (List.mem_singleton.2 rfl)
  have hb2 := obl.1 hb1
  clear hb1 hob hce
  refine hb2.elim fun r hF => ?_
  clear hb2
  simp only [List.length_cons, List.length_nil, Nat.zero_add, Nat.reduceAdd] at hk
  have hr : F_bucket_New x1 x2 = some r := by rw [lock_eq] at hF; exact hF
  unfold F_bucket_New at hr
  constructor
  (try cbv)
  apply Hidden.out
  have e := Option.some.inj hr
  constructor
  refine ⟨_, hF, ?_⟩
  (try cbv); (try simp only [K0, K1, and_self, and_true, true_and]); (try first | exact e | exact e.symm | (and_intros <;> first | assumption | rfl | exact Eq.symm (by assumption)))
end Go.Proofs.Ytojbpjcfdjakkaa
end
section
/-
  The walk of tollbar/fifo.New (printed by a program of ours).
-/
set_option linter.unusedVariables false
set_option linter.unusedSimpArgs false
namespace Go.Proofs.Ytojbpjcfdjakkaa
open Go.RowKit
noncomputable def tab_fifo_New : Nat → Option Con := look []
set_option maxHeartbeats 20000000 in
set_option maxRecDepth 100000 in
theorem vc_fifo_New (P : Program) (T : Tab P tab_fifo_New) (hm : P.follows .mixedOrders = true) : FnVC P tab_fifo_New ic_61 [.t 2] 6 con_fifo_New := by
 intro cargs ccks ce hce hob C hk
 apply Hidden.out
 replace hce : con_fifo_New_1 cargs ccks = some ce := hce
 ·unfold con_fifo_New_1 at hce
  split at hce; rotate_left; cases hce
  obtain rfl := Option.some.inj hce
  rename_i x1
  have hb1 := hob _ (List.mem_singleton.2 rfl)
  have hb2 := obl.1 hb1
  clear hb1 hob hce
  refine hb2.elim fun r hF => ?_
  clear hb2
  simp only [List.length_cons, List.length_nil, Nat.zero_add, Nat.reduceAdd] at hk
  have hr : F_fifo_New x1 = some r := by rw [lock_eq] at hF; exact hF
  unfold F_fifo_New at hr
  constructor
  (try cbv)
  apply Hidden.out
  have e := Option.some.inj hr
  constructor
  refine ⟨_, hF, ?_⟩
  (try cbv); (try simp only [K0, K1, and_self, and_true, true_and]); (try first | exact e | exact e.symm | (and_intros <;> first | assumption | rfl | exact Eq.symm (by assumption)))
end Go.Proofs.Ytojbpjcfdjakkaa
end
section
/-
  The walk of slices.Clone[[]uint64,uint64] (printed by a program of ours).
-/
set_option linter.unusedVariables false
set_option linter.unusedSimpArgs false
namespace Go.Proofs.Ytojbpjcfdjakkaa
open Go.RowKit
noncomputable def tab_slices_Clone : Nat → Option Con := look []
set_option maxRecDepth 100000 in
theorem vc_slices_Clone (P : Program) (T : Tab P tab_slices_Clone) (hm : P.follows .mixedOrders = true) : FnVC P tab_slices_Clone ic_89 [.t 2] 8 con_slices_Clone := by
 intro cargs ccks ce hce hob C hk
 apply Hidden.out
 replace hce : con_slices_Clone_1 cargs ccks = some ce := hce
 ·unfold con_slices_Clone_1 at hce
  split at hce; rotate_left; cases hce
  obtain rfl := Option.some.inj hce
  rename_i l1
  have hb1 := hob _ (List.mem_singleton.2 rfl)
  have hb2 := obl.1 hb1
  clear hb1 hob hce
  refine hb2.elim fun r hF => ?_
  clear hb2
  simp only [List.length_cons, List.length_nil, Nat.zero_add, Nat.reduceAdd] at hk
  have hr : cloneU64 l1 = some r := by rw [lock_eq] at hF; exact hF
  unfold cloneU64 at hr
  obtain ⟨g, hr⟩ := guard_inv hr
  obtain rfl := Option.some.inj hr
  constructor
  cbv
  intro b hb
  cases b with
  | true =>
   constructor
   have hb : lock (@xlen Int) l1 = 0 := hb rfl
   simp only [lock_eq, xlen] at hb
   have e : l1 = [] := List.length_eq_zero_iff.1 hb
   refine ⟨_, hF, ?_⟩
   cbv
   exact e
  | false =>
   constructor
   cbv
   refine ⟨obl.2 (by simp only [R.len, lock_eq, choice_lk, xlen, List.length_nil]; simp only [xlen] at g; simp at g ⊢; omega), ?_⟩
   refine ⟨_, hF, ?_⟩
   cbv
   (try simp only [choice_lk])
   rfl
end Go.Proofs.Ytojbpjcfdjakkaa
end
section
/-
  The walk of tollbar/drr.New (printed by a program of ours).
-/
set_option linter.unusedVariables false
set_option linter.unusedSimpArgs false
namespace Go.Proofs.Ytojbpjcfdjakkaa
open Go.RowKit
noncomputable def tab_drr_New : Nat → Option Con := look [(89, con_slices_Clone)]
set_option maxHeartbeats 20000000 in
set_option maxRecDepth 100000 in
theorem vc_drr_New (P : Program) (T : Tab P tab_drr_New) (hm : P.follows .mixedOrders = true) : FnVC P tab_drr_New ic_62 [.t 2] 11 con_drr_New := by
 intro cargs ccks ce hce hob C hk
 apply Hidden.out
 replace hce : con_drr_New_1 cargs ccks = some ce := hce
 ·unfold con_drr_New_1 at hce
  split at hce; rotate_left; cases hce
  obtain rfl := Option.some.inj hce
  rename_i l1
  have hb1 := hob _ (List.mem_singleton.2 rfl)
  have hb2 := obl.1 hb1
  clear hb1 hob hce
  refine hb2.elim fun r hF => ?_
  clear hb2
  simp only [List.length_cons, List.length_nil, Nat.zero_add, Nat.reduceAdd] at hk
  have hr : F_drr_New l1 = some r := by rw [lock_eq] at hF; exact hF
  unfold F_drr_New at hr
  constructor
  (try cbv)
  refine ⟨(by have h := bindO_ex hr; first | exact h | (simp only [K0, K1]; exact h)), obl.2 (by have h := bindO_ex hr; first | exact h | (simp only [K0, K1]; exact h)), (by rintro (_) _ <;> cbv), ?_⟩
  intro m1 hx1
  (try simp only [K0, K1] at hx1)
  replace hr := bindO_of hx1 hr
  all_goals ((try dsimp only at hr); constructor; (try cbv))
  refine guard_go hr (fun g => by first | (simp only [K0, K1, R.len, R.sub]; exact g) | exact g) (fun hr => ?_)
  apply Hidden.out
  have e := Option.some.inj hr
  obtain ⟨u0, u1⟩ := r
  simp only [Prod.mk.injEq] at e
  obtain ⟨e0, e1⟩ := e
  constructor
  refine ⟨_, hF, ?_⟩
  (try cbv); (try simp only [K0, K1, and_self, and_true, true_and]); (try first | exact e | exact e.symm | (and_intros <;> first | assumption | rfl | exact Eq.symm (by assumption)))
end Go.Proofs.Ytojbpjcfdjakkaa
end
section
/-
  The walk of (*tollbar/shaper.Shaper).by (printed by a program of ours).
-/
set_option linter.unusedVariables false
set_option linter.unusedSimpArgs false
namespace Go.Proofs.Ytojbpjcfdjakkaa
open Go.RowKit
noncomputable def tab_shaper_Shaper_by : Nat → Option Con := look [(50, con_shaper_own), (60, con_bucket_New), (61, con_fifo_New), (62, con_drr_New)]
set_option maxHeartbeats 20000000 in
set_option maxRecDepth 100000 in
theorem vc_shaper_Shaper_by (P : Program) (T : Tab P tab_shaper_Shaper_by) (hm : P.follows .mixedOrders = true) : FnVC P tab_shaper_Shaper_by ic_31 [] 53 con_shaper_Shaper_by := by
 intro cargs ccks ce hce hob C hk
 apply Hidden.out
 replace hce : altC (con_shaper_Shaper_by_1 cargs ccks) (con_shaper_Shaper_by_2 cargs ccks) = some ce := hce
 replace hce := altC_inv hce
 rcases hce with hce | hce
 ·unfold con_shaper_Shaper_by_1 at hce
  split at hce; rotate_left; cases hce
  obtain rfl := Option.some.inj hce
  rename_i s1 b1 x1 s2 b2 x2 x3 r1
  have hb1 := hob _ (List.mem_singleton.2 rfl)
  have hb2 := obl.1 hb1
  clear hb1 hob hce
  refine hb2.elim fun r hF => ?_
  clear hb2
  simp only [List.length_cons, List.length_nil, Nat.zero_add, Nat.reduceAdd] at hk
  have hr : F_shaper_Shaper_by s1 b1 x1 s2 b2 x2 x3 r1 = some r := by rw [lock_eq] at hF; exact hF
  unfold F_shaper_Shaper_by at hr
  constructor
  (try cbv)
  refine ⟨obl.2 (by have h := bindO_ex hr; first | exact h | (simp only [K0, K1]; exact h)), (by rintro (⟨_, _⟩) _ <;> cbv), ?_⟩
  intro qq hx1
  (try simp only [K0, K1] at hx1)
  replace hr := bindO_of hx1 hr
  rcases qq with ⟨q1, q2⟩
  all_goals ((try dsimp only at hr); constructor; (try cbv))
  refine LoopOK.iter T (drawOK T hm) hr (fun | (i1, l1, n1, r2) => ⟨mkFr [(0, (.ptr 0 0)), (4, (.wsl 2)), (16, (.wsl 1)), (17, (.v (.int .i64 (lock ofN (lock (@xlen D) r1))))), (18, (.v (.int .i64 i1)))] 53 0, [(0, .blk 92 [(.str s1), (.v (.bool b1)), (.wsl 3), (.wsl 4), (.v (.int .i64 x1)), (.v (.int .u64 x3)), (.wsl 5), (.v (.pointer none))]), (1, .row (.row 83 (.st [.str, (.int .u64), (.int .u64), (.int .u64), (.int .i64), .bool]) r1)), (2, .row (.ints 46 .u64 l1)), (3, .row (.row 83 (.st [.str, (.int .u64), (.int .u64), (.int .u64), (.int .i64), .bool]) q1)), (4, .row (.row 96 (.st [(.int .i64), (.int .i64), (.int .i64)]) q2)), (5, .prow 98 tm98 n1 6), (6, .gho tm98 r2 none)], 7⟩) ?_ ?_
  ·rintro ⟨u0, u1, u2, u3⟩ e
   simp only [Prod.mk.injEq] at e
   obtain ⟨e0, e1, e2, e3⟩ := e
   refine le_auto hk ?_
   (try cbv); (try simp only [K0, K1, and_self, and_true, true_and]); (try first | exact e | exact e.symm | (and_intros <;> first | assumption | rfl | exact Eq.symm (by assumption)))
  ·clear hr
   intro x bb1 hr ht1
   obtain ⟨i1, l1, n1, r2⟩ := x
   as_aux_lemma =>
   constructor
   unfold F_shaper_Shaper_by_L1 at hr
   (try dsimp only at hr)
   (try cbv)
   refine sel_if (by first | rfl | (simp only [K0, K1]; done) | (simp only [K0, K1]; rfl)) hr (fun h1 hr => ?_) (fun h1 hr => ?_)
   ·(try cbv)
    refine guard_go hr (fun g => by first | (simp only [K0, K1, R.len, R.sub]; exact g) | exact g) (fun hr => ?_)
    refine ⟨(by have h := bindO_ex hr; first | exact h | (simp only [K0, K1]; exact h)), obl.2 (by have h := bindO_ex hr; first | exact h | (simp only [K0, K1]; exact h)), (by rintro (_) _ <;> cbv), ?_⟩
    intro qq hx8
    (try simp only [K0, K1] at hx8)
    replace hr := bindO_of hx8 hr
    rcases qq with _
    all_goals ((try dsimp only at hr); constructor; (try cbv))
    refine ⟨(by have h := bindO_ex hr; first | exact h | (simp only [K0, K1]; exact h)), obl.2 (by have h := bindO_ex hr; first | exact h | (simp only [K0, K1]; exact h)), (by rintro (_) _ <;> cbv), ?_⟩
    intro qq hx9
    (try simp only [K0, K1] at hx9)
    replace hr := bindO_of hx9 hr
    rcases qq with _
    all_goals ((try dsimp only at hr); constructor; (try cbv))
    refine guard_go hr (fun g => by first | (simp only [K0, K1, R.len, R.sub]; exact g) | exact g) (fun hr => ?_)
    refine guard_go hr (fun g => by first | (simp only [K0, K1, R.len, R.sub]; exact g) | exact g) (fun hr => ?_)
    apply Hidden.out
    obtain rfl := Option.some.inj hr
    constructor
    refine ⟨⟨_, rfl⟩, ?_⟩
    rintro ⟨u0, u1, u2, u3⟩ e
    replace e := Sum.inl.inj e
    simp only [Prod.mk.injEq] at e
    obtain ⟨e0, e1, e2, e3⟩ := e
    refine le_auto hk ?_
    (try cbv); (try simp only [K0, K1, and_self, and_true, true_and]); (try first | exact e | exact e.symm | (and_intros <;> first | assumption | rfl | exact Eq.symm (by assumption)))
   ·(try cbv)
    refine ⟨obl.2 (by have h := bindO_ex hr; first | exact h | (simp only [K0, K1]; exact h)), (by rintro (⟨_, _⟩) _ <;> cbv), ?_⟩
    intro qq hx10
    (try simp only [K0, K1] at hx10)
    replace hr := bindO_of hx10 hr
    rcases qq with ⟨m1, m2⟩
    all_goals ((try dsimp only at hr); constructor; (try cbv))
    apply Hidden.out
    obtain rfl := Option.some.inj hr
    have e := ht1 _ rfl
    obtain ⟨u0, u1, u2, u3, u4, u5⟩ := r
    simp only [Prod.mk.injEq] at e
    obtain ⟨e0, e1, e2, e3, e4, e5⟩ := e
    constructor
    refine ⟨_, hF, ?_⟩
    (try cbv); (try simp only [K0, K1, and_self, and_true, true_and]); (try first | exact e | exact e.symm | (and_intros <;> first | assumption | rfl | exact Eq.symm (by assumption)))
 ·unfold con_shaper_Shaper_by_2 at hce
  split at hce; rotate_left; cases hce
  obtain rfl := Option.some.inj hce
  rename_i s1 b1 r1 r2 x1 s2 b2 x2 x3
  have hb1 := hob _ (List.mem_singleton.2 rfl)
  have hb2 := obl.1 hb1
  clear hb1 hob hce
  refine hb2.elim fun r hF => ?_
  clear hb2
  simp only [List.length_cons, List.length_nil, Nat.zero_add, Nat.reduceAdd] at hk
  have hr : F_shaper_Shaper_by_2 s1 b1 r1 r2 x1 s2 b2 x2 x3 = some r := by rw [lock_eq] at hF; exact hF
  unfold F_shaper_Shaper_by_2 at hr
  constructor
  (try cbv)
  refine ⟨obl.2 (by have h := bindO_ex hr; first | exact h | (simp only [K0, K1]; exact h)), (by rintro (⟨_, _⟩) _ <;> cbv), ?_⟩
  intro qq hx1
  (try simp only [K0, K1] at hx1)
  replace hr := bindO_of hx1 hr
  rcases qq with ⟨q1, q2⟩
  all_goals ((try dsimp only at hr); constructor; (try cbv))
  refine LoopOK.iter T (drawOK T hm) hr (fun | (i1, l1, n1, r3) => ⟨mkFr [(0, (.ptr 0 0)), (4, (.wsl 1)), (16, (.rsl (.row 83 (.st [.str, (.int .u64), (.int .u64), (.int .u64), (.int .i64), .bool]) r1))), (17, (.v (.int .i64 (lock ofN (lock (@xlen D) r1))))), (18, (.v (.int .i64 i1)))] 53 0, [(0, .blk 92 [(.str s1), (.v (.bool b1)), (.wsl 2), (.wsl 3), (.v (.int .i64 x1)), (.v (.int .u64 x3)), (.wsl 4), (.v (.pointer none))]), (1, .row (.ints 46 .u64 l1)), (2, .row (.row 83 (.st [.str, (.int .u64), (.int .u64), (.int .u64), (.int .i64), .bool]) q1)), (3, .row (.row 96 (.st [(.int .i64), (.int .i64), (.int .i64)]) q2)), (4, .prow 98 tm98 n1 5), (5, .gho tm98 r3 none)], 6⟩) ?_ ?_
  ·rintro ⟨u0, u1, u2, u3⟩ e
   simp only [Prod.mk.injEq] at e
   obtain ⟨e0, e1, e2, e3⟩ := e
   refine le_auto hk ?_
   (try cbv); (try simp only [K0, K1, and_self, and_true, true_and]); (try first | exact e | exact e.symm | (and_intros <;> first | assumption | rfl | exact Eq.symm (by assumption)))
  ·clear hr
   intro x bb1 hr ht1
   obtain ⟨i1, l1, n1, r3⟩ := x
   as_aux_lemma =>
   constructor
   unfold F_shaper_Shaper_by_2_L1 at hr
   (try dsimp only at hr)
   (try cbv)
   refine sel_if (by first | rfl | (simp only [K0, K1]; done) | (simp only [K0, K1]; rfl)) hr (fun h1 hr => ?_) (fun h1 hr => ?_)
   ·(try cbv)
    refine guard_go hr (fun g => by first | (simp only [K0, K1, R.len, R.sub]; exact g) | exact g) (fun hr => ?_)
    refine ⟨(by have h := bindO_ex hr; first | exact h | (simp only [K0, K1]; exact h)), obl.2 (by have h := bindO_ex hr; first | exact h | (simp only [K0, K1]; exact h)), (by rintro (_) _ <;> cbv), ?_⟩
    intro qq hx8
    (try simp only [K0, K1] at hx8)
    replace hr := bindO_of hx8 hr
    rcases qq with _
    all_goals ((try dsimp only at hr); constructor; (try cbv))
    refine ⟨(by have h := bindO_ex hr; first | exact h | (simp only [K0, K1]; exact h)), obl.2 (by have h := bindO_ex hr; first | exact h | (simp only [K0, K1]; exact h)), (by rintro (_) _ <;> cbv), ?_⟩
    intro qq hx9
    (try simp only [K0, K1] at hx9)
    replace hr := bindO_of hx9 hr
    rcases qq with _
    all_goals ((try dsimp only at hr); constructor; (try cbv))
    refine guard_go hr (fun g => by first | (simp only [K0, K1, R.len, R.sub]; exact g) | exact g) (fun hr => ?_)
    refine guard_go hr (fun g => by first | (simp only [K0, K1, R.len, R.sub]; exact g) | exact g) (fun hr => ?_)
    apply Hidden.out
    obtain rfl := Option.some.inj hr
    constructor
    refine ⟨⟨_, rfl⟩, ?_⟩
    rintro ⟨u0, u1, u2, u3⟩ e
    replace e := Sum.inl.inj e
    simp only [Prod.mk.injEq] at e
    obtain ⟨e0, e1, e2, e3⟩ := e
    refine le_auto hk ?_
    (try cbv); (try simp only [K0, K1, and_self, and_true, true_and]); (try first | exact e | exact e.symm | (and_intros <;> first | assumption | rfl | exact Eq.symm (by assumption)))
   ·(try cbv)
    refine ⟨obl.2 (by have h := bindO_ex hr; first | exact h | (simp only [K0, K1]; exact h)), (by rintro (⟨_, _⟩) _ <;> cbv), ?_⟩
    intro qq hx10
    (try simp only [K0, K1] at hx10)
    replace hr := bindO_of hx10 hr
    rcases qq with ⟨m1, m2⟩
    all_goals ((try dsimp only at hr); constructor; (try cbv))
    apply Hidden.out
    obtain rfl := Option.some.inj hr
    have e := ht1 _ rfl
    obtain ⟨u0, u1, u2, u3, u4, u5⟩ := r
    simp only [Prod.mk.injEq] at e
    obtain ⟨e0, e1, e2, e3, e4, e5⟩ := e
    constructor
    refine ⟨_, hF, ?_⟩
    (try cbv); (try simp only [K0, K1, and_self, and_true, true_and]); (try first | exact e | exact e.symm | (and_intros <;> first | assumption | rfl | exact Eq.symm (by assumption)))
end Go.Proofs.Ytojbpjcfdjakkaa
end
section
/-
  The walk of tollbar/shaper.New (printed by a program of ours).
-/
set_option linter.unusedVariables false
set_option linter.unusedSimpArgs false
namespace Go.Proofs.Ytojbpjcfdjakkaa
open Go.RowKit
noncomputable def tab_shaper_New : Nat → Option Con := look [(13, con_shaper_Right), (31, con_shaper_Shaper_by)]
set_option maxHeartbeats 20000000 in
set_option maxRecDepth 100000 in
theorem vc_shaper_New (P : Program) (T : Tab P tab_shaper_New) (hm : P.follows .mixedOrders = true) : FnVC P tab_shaper_New ic_10 [.t 2] 13 con_shaper_New := by
 intro cargs ccks ce hce hob C hk
 apply Hidden.out
 replace hce : altC (con_shaper_New_1 cargs ccks) (con_shaper_New_2 cargs ccks) = some ce := hce
 replace hce := altC_inv hce
 rcases hce with hce | hce
 ·unfold con_shaper_New_1 at hce
  split at hce; rotate_left; cases hce
  obtain rfl := Option.some.inj hce
  rename_i s1 b1 x1 r1
  have hb1 := hob _ (List.mem_singleton.2 rfl)
  have hb2 := obl.1 hb1
  clear hb1 hob hce
  refine hb2.elim fun r hF => ?_
  clear hb2
  simp only [List.length_cons, List.length_nil, Nat.zero_add, Nat.reduceAdd] at hk
  have hr : F_shaper_New s1 b1 x1 r1 = some r := by rw [lock_eq] at hF; exact hF
  unfold F_shaper_New at hr
  constructor
  (try cbv)
  refine ⟨obl.2 (by have h := bindO_ex hr; first | exact h | (simp only [K0, K1]; exact h)), (by rintro (_) _ <;> cbv), ?_⟩
  intro c1 hx1
  (try simp only [K0, K1] at hx1)
  replace hr := bindO_of hx1 hr
  all_goals ((try dsimp only at hr); constructor; (try cbv))
  refine sel_ifn (by first | rfl | (simp only [K0, K1]; done) | (simp only [K0, K1]; rfl)) hr (fun h1 hr => ?_) (fun h1 hr => ?_)
  ·(try cbv)
   apply Hidden.out
   have e := Option.some.inj hr
   revert e
   rcases r with _ | _ <;> intro e
   ·replace e := Sum.inl.inj e
    constructor
    refine ⟨_, hF, ?_⟩
    (try cbv); (try simp only [K0, K1, and_self, and_true, true_and]); (try first | exact e | exact e.symm | (and_intros <;> first | assumption | rfl | exact Eq.symm (by assumption)))
   ·cases e
  ·(try cbv)
   refine ⟨obl.2 (by have h := bindO_ex hr; first | exact h | (simp only [K0, K1]; exact h)), (by rintro (⟨_, _, _, _, _, _⟩) _ <;> cbv), ?_⟩
   intro qq hx2
   (try simp only [K0, K1] at hx2)
   replace hr := bindO_of hx2 hr
   rcases qq with ⟨q1, q2, k1, q3, m1, m2⟩
   all_goals ((try dsimp only at hr); constructor; (try cbv))
   apply Hidden.out
   have e := Option.some.inj hr
   revert e
   rcases r with _ | ⟨u0, u1, u2, u3, u4, u5⟩ <;> intro e
   ·cases e
   ·replace e := Sum.inr.inj e
    simp only [Prod.mk.injEq] at e
    obtain ⟨e0, e1, e2, e3, e4, e5⟩ := e
    constructor
    refine ⟨_, hF, ?_⟩
    (try cbv); (try simp only [K0, K1, and_self, and_true, true_and]); (try first | exact e | exact e.symm | (and_intros <;> first | assumption | rfl | exact Eq.symm (by assumption)))
 ·unfold con_shaper_New_2 at hce
  split at hce; rotate_left; cases hce
  obtain rfl := Option.some.inj hce
  rename_i s1 b1 r1 r2 x1
  have hb1 := hob _ (List.mem_singleton.2 rfl)
  have hb2 := obl.1 hb1
  clear hb1 hob hce
  refine hb2.elim fun r hF => ?_
  clear hb2
  simp only [List.length_cons, List.length_nil, Nat.zero_add, Nat.reduceAdd] at hk
  have hr : F_shaper_New_2 s1 b1 r1 r2 x1 = some r := by rw [lock_eq] at hF; exact hF
  unfold F_shaper_New_2 at hr
  constructor
  (try cbv)
  refine ⟨obl.2 (by have h := bindO_ex hr; first | exact h | (simp only [K0, K1]; exact h)), (by rintro (_) _ <;> cbv), ?_⟩
  intro c1 hx1
  (try simp only [K0, K1] at hx1)
  replace hr := bindO_of hx1 hr
  all_goals ((try dsimp only at hr); constructor; (try cbv))
  refine sel_ifn (by first | rfl | (simp only [K0, K1]; done) | (simp only [K0, K1]; rfl)) hr (fun h1 hr => ?_) (fun h1 hr => ?_)
  ·(try cbv)
   apply Hidden.out
   have e := Option.some.inj hr
   revert e
   rcases r with _ | _ <;> intro e
   ·replace e := Sum.inl.inj e
    constructor
    refine ⟨_, hF, ?_⟩
    (try cbv); (try simp only [K0, K1, and_self, and_true, true_and]); (try first | exact e | exact e.symm | (and_intros <;> first | assumption | rfl | exact Eq.symm (by assumption)))
   ·cases e
  ·(try cbv)
   refine ⟨obl.2 (by have h := bindO_ex hr; first | exact h | (simp only [K0, K1]; exact h)), (by rintro (⟨_, _, _, _, _, _⟩) _ <;> cbv), ?_⟩
   intro qq hx2
   (try simp only [K0, K1] at hx2)
   replace hr := bindO_of hx2 hr
   rcases qq with ⟨q1, q2, k1, q3, m1, m2⟩
   all_goals ((try dsimp only at hr); constructor; (try cbv))
   apply Hidden.out
   have e := Option.some.inj hr
   revert e
   rcases r with _ | ⟨u0, u1, u2, u3, u4, u5⟩ <;> intro e
   ·cases e
   ·replace e := Sum.inr.inj e
    simp only [Prod.mk.injEq] at e
    obtain ⟨e0, e1, e2, e3, e4, e5⟩ := e
    constructor
    refine ⟨_, hF, ?_⟩
    (try cbv); (try simp only [K0, K1, and_self, and_true, true_and]); (try first | exact e | exact e.symm | (and_intros <;> first | assumption | rfl | exact Eq.symm (by assumption)))
end Go.Proofs.Ytojbpjcfdjakkaa
end
section
/-
  The walk of (tollbar/flow.Table).Class$1 (printed by a program of ours).
-/
set_option linter.unusedVariables false
set_option linter.unusedSimpArgs false
namespace Go.Proofs.Ytojbpjcfdjakkaa
open Go.RowKit
noncomputable def tab_flow_ClassIn : Nat → Option Con := look []
set_option maxHeartbeats 20000000 in
set_option maxRecDepth 100000 in
theorem vc_flow_ClassIn (P : Program) (T : Tab P tab_flow_ClassIn) (hm : P.follows .mixedOrders = true) : FnVC P tab_flow_ClassIn ic_81 [.t 3] 14 con_flow_ClassIn := by
 intro cargs ccks ce hce hob C hk
 apply Hidden.out
 replace hce : con_flow_ClassIn_1 cargs ccks = some ce := hce
 ·unfold con_flow_ClassIn_1 at hce
  split at hce; rotate_left; cases hce
  obtain rfl := Option.some.inj hce
  rename_i x1 x2 x3 x4
  have hb1 := hob _ (List.mem_singleton.2 rfl)
  have hb2 := obl.1 hb1
  clear hb1 hob hce
  refine hb2.elim fun r hF => ?_
  clear hb2
  simp only [List.length_cons, List.length_nil, Nat.zero_add, Nat.reduceAdd] at hk
  have hr : F_flow_ClassIn x1 x2 x3 x4 = some r := by rw [lock_eq] at hF; exact hF
  unfold F_flow_ClassIn at hr
  constructor
  (try cbv)
  refine sel_if (by first | rfl | (simp only [K0, K1]; done) | (simp only [K0, K1]; rfl)) hr (fun h1 hr => ?_) (fun h1 hr => ?_)
  ·(try cbv)
   apply Hidden.out
   have e := Option.some.inj hr
   constructor
   refine ⟨_, hF, ?_⟩
   (try cbv); (try simp only [K0, K1, and_self, and_true, true_and]); (try first | exact e | exact e.symm | (and_intros <;> first | assumption | rfl | exact Eq.symm (by assumption)))
  ·(try cbv)
   apply Hidden.out
   have e := Option.some.inj hr
   constructor
   refine ⟨_, hF, ?_⟩
   (try cbv); (try simp only [K0, K1, and_self, and_true, true_and]); (try first | exact e | exact e.symm | (and_intros <;> first | assumption | rfl | exact Eq.symm (by assumption)))
end Go.Proofs.Ytojbpjcfdjakkaa
end
section
/-
  The walk of slices.IndexFunc[[]tollbar/flow.Rule,tollbar/flow.Rule] (printed by a program of ours).
-/
set_option linter.unusedVariables false
set_option linter.unusedSimpArgs false
namespace Go.Proofs.Ytojbpjcfdjakkaa
open Go.RowKit
noncomputable def tab_slices_IndexFuncR : Nat → Option Con := look [(81, con_flow_ClassIn)]
set_option maxHeartbeats 20000000 in
set_option maxRecDepth 100000 in
theorem vc_slices_IndexFuncR (P : Program) (T : Tab P tab_slices_IndexFuncR) (hm : P.follows .mixedOrders = true) : FnVC P tab_slices_IndexFuncR ic_80 [.t 4] 19 con_slices_IndexFuncR := by
 intro cargs ccks ce hce hob C hk
 apply Hidden.out
 replace hce : con_slices_IndexFuncR_1 cargs ccks = some ce := hce
 ·unfold con_slices_IndexFuncR_1 at hce
  split at hce; rotate_left; cases hce
  obtain rfl := Option.some.inj hce
  rename_i r1 x1
  have hb1 := hob _ (List.mem_singleton.2 rfl)
  have hb2 := obl.1 hb1
  clear hb1 hob hce
  refine hb2.elim fun r hF => ?_
  clear hb2
  simp only [List.length_cons, List.length_nil, Nat.zero_add, Nat.reduceAdd] at hk
  have hr : F_slices_IndexFuncR r1 x1 = some r := by rw [lock_eq] at hF; exact hF
  unfold F_slices_IndexFuncR at hr
  constructor
  (try cbv)
  refine LoopOK.iter T (drawOK T hm) hr (fun | i1 => ⟨mkFr [(0, (.rsl (.row 96 (.st [(.int .i64), (.int .i64), (.int .i64)]) r1))), (1, (.fn 81 [(.ptr 0 0)])), (7, (.v (.int .i64 (lock ofN (lock (@xlen D) r1))))), (8, (.v (.int .i64 i1)))] 19 0, [(0, .blk 3 [(.v (.int .i64 x1))])], 1⟩) ?_ ?_
  ·rintro u0 e
   refine le_auto hk ?_
   (try cbv); (try simp only [K0, K1, and_self, and_true, true_and]); (try first | exact e | exact e.symm | (and_intros <;> first | assumption | rfl | exact Eq.symm (by assumption)))
  ·clear hr
   intro x bb1 hr ht1
   obtain ⟨i1, hz⟩ : ∃ z, z = x := ⟨x, rfl⟩
   subst hz
   as_aux_lemma =>
   constructor
   unfold F_slices_IndexFuncR_L1 at hr
   (try dsimp only at hr)
   (try cbv)
   refine sel_if (by first | rfl | (simp only [K0, K1]; done) | (simp only [K0, K1]; rfl)) hr (fun h1 hr => ?_) (fun h1 hr => ?_)
   ·(try cbv)
    refine guard_go hr (fun g => by first | (simp only [K0, K1, R.len, R.sub]; exact g) | exact g) (fun hr => ?_)
    refine ⟨obl.2 (by have h := bindO_ex hr; first | exact h | (simp only [K0, K1]; exact h)), (by rintro (_) _ <;> cbv), ?_⟩
    intro c3 hx3
    (try simp only [K0, K1] at hx3)
    replace hr := bindO_of hx3 hr
    all_goals ((try dsimp only at hr); constructor; (try cbv))
    refine sel_if (by first | rfl | (simp only [K0, K1]; done) | (simp only [K0, K1]; rfl)) hr (fun h1 hr => ?_) (fun h1 hr => ?_)
    ·(try cbv)
     apply Hidden.out
     obtain rfl := Option.some.inj hr
     have e := ht1 _ rfl
     constructor
     refine ⟨_, hF, ?_⟩
     (try cbv); (try simp only [K0, K1, and_self, and_true, true_and]); (try first | exact e | exact e.symm | (and_intros <;> first | assumption | rfl | exact Eq.symm (by assumption)))
    ·(try cbv)
     apply Hidden.out
     obtain rfl := Option.some.inj hr
     constructor
     refine ⟨⟨_, rfl⟩, ?_⟩
     rintro u0 e
     replace e := Sum.inl.inj e
     refine le_auto hk ?_
     (try cbv); (try simp only [K0, K1, and_self, and_true, true_and]); (try first | exact e | exact e.symm | (and_intros <;> first | assumption | rfl | exact Eq.symm (by assumption)))
   ·(try cbv)
    apply Hidden.out
    obtain rfl := Option.some.inj hr
    have e := ht1 _ rfl
    constructor
    refine ⟨_, hF, ?_⟩
    (try cbv); (try simp only [K0, K1, and_self, and_true, true_and]); (try first | exact e | exact e.symm | (and_intros <;> first | assumption | rfl | exact Eq.symm (by assumption)))
end Go.Proofs.Ytojbpjcfdjakkaa
end
section
/-
  The walk of (tollbar/flow.Table).Class (printed by a program of ours).
-/
set_option linter.unusedVariables false
set_option linter.unusedSimpArgs false
namespace Go.Proofs.Ytojbpjcfdjakkaa
open Go.RowKit
noncomputable def tab_flow_Table_Class : Nat → Option Con := look [(80, con_slices_IndexFuncR)]
set_option maxHeartbeats 20000000 in
set_option maxRecDepth 100000 in
theorem vc_flow_Table_Class (P : Program) (T : Tab P tab_flow_Table_Class) (hm : P.follows .mixedOrders = true) : FnVC P tab_flow_Table_Class ic_51 [.t 4] 20 con_flow_Table_Class := by
 intro cargs ccks ce hce hob C hk
 apply Hidden.out
 replace hce : con_flow_Table_Class_1 cargs ccks = some ce := hce
 ·unfold con_flow_Table_Class_1 at hce
  split at hce; rotate_left; cases hce
  obtain rfl := Option.some.inj hce
  rename_i x1 x2 r1
  have hb1 := hob _ (List.mem_singleton.2 rfl)
  have hb2 := obl.1 hb1
  clear hb1 hob hce
  refine hb2.elim fun r hF => ?_
  clear hb2
  simp only [List.length_cons, List.length_nil, Nat.zero_add, Nat.reduceAdd] at hk
  have hr : F_flow_Table_Class x1 x2 r1 = some r := by rw [lock_eq] at hF; exact hF
  unfold F_flow_Table_Class at hr
  constructor
  (try cbv)
  refine ⟨obl.2 (by have h := bindO_ex hr; first | exact h | (simp only [K0, K1]; exact h)), (by rintro (_) _ <;> cbv), ?_⟩
  intro y1 hx1
  (try simp only [K0, K1] at hx1)
  replace hr := bindO_of hx1 hr
  all_goals ((try dsimp only at hr); constructor; (try cbv))
  refine sel_if (by first | rfl | (simp only [K0, K1]; done) | (simp only [K0, K1]; rfl)) hr (fun h1 hr => ?_) (fun h1 hr => ?_)
  ·(try cbv)
   apply Hidden.out
   have e := Option.some.inj hr
   constructor
   refine ⟨_, hF, ?_⟩
   (try cbv); (try simp only [K0, K1, and_self, and_true, true_and]); (try first | exact e | exact e.symm | (and_intros <;> first | assumption | rfl | exact Eq.symm (by assumption)))
  ·(try cbv)
   refine guard_go hr (fun g => by first | (simp only [K0, K1, R.len, R.sub]; exact g) | exact g) (fun hr => ?_)
   apply Hidden.out
   have e := Option.some.inj hr
   constructor
   refine ⟨_, hF, ?_⟩
   (try cbv); (try simp only [K0, K1, and_self, and_true, true_and]); (try first | exact e | exact e.symm | (and_intros <;> first | assumption | rfl | exact Eq.symm (by assumption)))
end Go.Proofs.Ytojbpjcfdjakkaa
end
section
/-
  The walk of (*tollbar/fifo.Queue).grow (printed by a program of ours).
-/
set_option linter.unusedVariables false
set_option linter.unusedSimpArgs false
namespace Go.Proofs.Ytojbpjcfdjakkaa
open Go.RowKit
noncomputable def tab_fifo_Queue_grow : Nat → Option Con := look []
set_option maxHeartbeats 20000000 in
set_option maxRecDepth 100000 in
theorem vc_fifo_Queue_grow (P : Program) (T : Tab P tab_fifo_Queue_grow) (hm : P.follows .mixedOrders = true) : FnVC P tab_fifo_Queue_grow ic_91 [] 43 con_fifo_Queue_grow := by
 intro cargs ccks ce hce hob C hk
 apply Hidden.out
 replace hce : con_fifo_Queue_grow_1 cargs ccks = some ce := hce
 ·unfold con_fifo_Queue_grow_1 at hce
  split at hce; rotate_left; cases hce
  obtain rfl := Option.some.inj hce
  rename_i x1 x2 x3 r1
  have hb1 := hob _ (List.mem_singleton.2 rfl)
  have hb2 := obl.1 hb1
  clear hb1 hob hce
  refine hb2.elim fun r hF => ?_
  clear hb2
  simp only [List.length_cons, List.length_nil, Nat.zero_add, Nat.reduceAdd] at hk
  have hr : F_fifo_Queue_grow x1 x2 x3 r1 = some r := by rw [lock_eq] at hF; exact hF
  unfold F_fifo_Queue_grow at hr
  constructor
  (try cbv)
  refine guard_go hr (fun g => by first | (simp only [K0, K1, R.len, R.sub]; exact g) | exact g) (fun hr => ?_)
  refine guard_go hr (fun g => by first | (simp only [K0, K1, R.len, R.sub]; exact g) | exact g) (fun hr => ?_)
  refine guard_go hr (fun g => by first | (simp only [K0, K1, R.len, R.sub]; exact g) | exact g) (fun hr => ?_)
  refine guard_go hr (fun g => by first | (simp only [K0, K1, R.len, R.sub]; exact g) | exact g) (fun hr => ?_)
  apply Hidden.out
  have e := Option.some.inj hr
  constructor
  refine ⟨_, hF, ?_⟩
  (try cbv); (try simp only [K0, K1, and_self, and_true, true_and]); (try first | exact e | exact e.symm | (and_intros <;> first | assumption | rfl | exact Eq.symm (by assumption)))
end Go.Proofs.Ytojbpjcfdjakkaa
end
