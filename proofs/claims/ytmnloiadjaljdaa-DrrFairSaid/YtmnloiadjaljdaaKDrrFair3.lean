/-
  Texts that the row of this claim stands on, one behind the other.
-/
import Derived.Test.YtmnloiadjaljdaaProg
import Derived.Below
import Derived.Test.YtmnloiadjaljdaaKDrrFair1
import Derived.Test.YtmnloiadjaljdaaKDrrFair2
section
/-
  What the functions do, told plainly (printed by a program of ours).
-/
set_option linter.unusedVariables false
set_option linter.unusedSimpArgs false
namespace Go.Proofs.Ytmnloiadjaljdaa

noncomputable def cloneU64 (l : List Int) : Option (List Int) := if ((xlen l : Nat) : Int) * ((8 : Nat) : Int) ≤ 140737488355328 then some l else none

noncomputable def F_drr_New (l1 : List Int) : Option ((List Int) × (List Int)) :=
  match cloneU64 l1 with
  | none => none
  | some m1 =>
    if 0 ≤ (ofN (xlen l1)) ∧ (ofN (xlen l1)) ≤ (ofN (xlen l1)) ∧ (ofN (xlen l1)) * ((8 : Nat) : Int) ≤ 140737488355328 ∧ (ofN (xlen l1)) ≤ 9223372036854775807 then
      some (m1, (@lrep Int (toN (ofN (xlen l1))) (0 : Int)))
    else none

noncomputable def F_drr_Ring_on (x1 : Int) (b1 : Bool) (l1 : List Int) (l2 : List Int) : Option (Int) :=
  if (ofN (xlen l1)) ≠ 0 then
    some (irem (iadd .i64 x1 (1 : Int)) (ofN (xlen l1)))
  else none

noncomputable def F_sat_Add (x1 : Int) (x2 : Int) : Option (Int) :=
  if (ile x1 (iadd .u64 x1 x2)) = true then
    some (iadd .u64 x1 x2)
  else
    some (18446744073709551615 : Int)

noncomputable def F_drr_Ring_visit (x1 : Int) (b1 : Bool) (x2 : Int) (b2 : Bool) (l1 : List Int) (l2 : List Int) : Option (Bool × Int × Bool × (List Int)) :=
  if 0 ≤ x2 ∧ x2 < (ofN (xlen l2)) then
    if (ieq x1 (0 : Int)) = true then
      match F_drr_Ring_on x2 b2 l1 (setI l2 (toN x2) (0 : Int)) with
      | none => none
      | some y1 =>
        some (false, y1, false, (setI l2 (toN x2) (0 : Int)))
    else
      if b1 = true then
        if b2 = true then
          if (ilt (getI l2 (toN x2)) x1) = true then
            match F_drr_Ring_on x2 b2 l1 l2 with
            | none => none
            | some y5 =>
              some (false, y5, false, l2)
          else
            some (true, x2, b2, (setI l2 (toN x2) (isub .u64 (getI l2 (toN x2)) x1)))
        else
          if 0 ≤ x2 ∧ x2 < (ofN (xlen l1)) then
            match F_sat_Add (getI l2 (toN x2)) (getI l1 (toN x2)) with
            | none => none
            | some y3 =>
              if (ilt (getI (setI l2 (toN x2) y3) (toN x2)) x1) = true then
                match F_drr_Ring_on x2 true l1 (setI l2 (toN x2) y3) with
                | none => none
                | some y4 =>
                  some (false, y4, false, (setI l2 (toN x2) y3))
              else
                some (true, x2, true, (setI (setI l2 (toN x2) y3) (toN x2) (isub .u64 (getI (setI l2 (toN x2) y3) (toN x2)) x1)))
          else none
      else
        match F_drr_Ring_on x2 b2 l1 (setI l2 (toN x2) (0 : Int)) with
        | none => none
        | some y2 =>
          some (false, y2, false, (setI l2 (toN x2) (0 : Int)))
  else none

noncomputable def F_drr_Ring_Next_L1 (r1 : List D) (l1 : List Int) : Int × Int × Bool × (List Int) → Option ((Int × Int × Bool × (List Int)) ⊕ (Int × Int × Bool × (List Int)))
  | (i1, i2, b2, l3) =>
    if (ilt i1 (iadd .i64 (ofN (xlen r1)) (1 : Int))) = true then
      if 0 ≤ i2 ∧ i2 < (ofN (xlen r1)) then
        match F_drr_Ring_visit (D.toI (D.fld (getD r1 (toN i2)) 0)) (D.toB (D.fld (getD r1 (toN i2)) 1)) i2 b2 l1 l3 with
        | none => none
        | some (c5, y3, c6, m3) =>
          if c5 = true then
            some (.inr (y3, y3, c6, m3))
          else
            some (.inl ((iadd .i64 i1 (1 : Int)), y3, c6, m3))
      else none
    else
      some (.inr ((-1 : Int), i2, b2, l3))
noncomputable def F_drr_Ring_Next (r1 : List D) (x1 : Int) (b1 : Bool) (l1 : List Int) (l2 : List Int) : Option (Int × Int × Bool × (List Int)) :=
  if (ieq (ofN (xlen r1)) (ofN (xlen l1))) = true then
    if (ieq (ofN (xlen r1)) (0 : Int)) = true then
      some ((-1 : Int), x1, b1, l2)
    else
      iter (F_drr_Ring_Next_L1 r1 l1) ((0 : Int), x1, b1, l2)
  else
    some ((-1 : Int), x1, b1, l2)

noncomputable def F_drr_copied (x1 : Int) (b1 : Bool) (l1 : List Int) : Option ((List Int)) :=
  if 0 ≤ (ofN (xlen l1)) ∧ (ofN (xlen l1)) ≤ (ofN (xlen l1)) ∧ (ofN (xlen l1)) * ((8 : Nat) : Int) ≤ 140737488355328 ∧ (ofN (xlen l1)) ≤ 9223372036854775807 then
    some (lspl (@lrep Int (toN (ofN (xlen l1))) (0 : Int)) 0 (lsub l1 0 (nmin (xlen (@lrep Int (toN (ofN (xlen l1))) (0 : Int))) (xlen l1))))
  else none

noncomputable def F_drr_Ring_State (x1 : Int) (b1 : Bool) (l1 : List Int) (l2 : List Int) : Option ((List Int)) :=
  match F_drr_copied x1 b1 l2 with
  | none => none
  | some m1 =>
    some m1

noncomputable def F_drr_Ring_Restore (x1 : Int) (b1 : Bool) (x2 : Int) (b2 : Bool) (l1 : List Int) (l2 : List Int) (l3 : List Int) : Option ((Unit) ⊕ ((List Int))) :=
  if (ieq (ofN (xlen l1)) (ofN (xlen l2))) = true then
    if (ilt x1 (0 : Int)) = true then
      some (.inl ())
    else
      if (ile (imax (ofN (xlen l1)) (1 : Int)) x1) = true then
        some (.inl ())
      else
        match F_drr_copied x1 b1 l1 with
        | none => none
        | some m1 =>
          some (.inr m1)
  else
    some (.inl ())

noncomputable def F_drr_Ring_Restore_2 (x1 : Int) (b1 : Bool) (x2 : Int) (b2 : Bool) (l1 : List Int) (l2 : List Int) : Option (Unit) :=
  if (ieq (ofN 0) (ofN (xlen l1))) = true then
    if (ilt x1 (0 : Int)) = true then
      some ()
    else
      if (ile (imax (ofN 0) (1 : Int)) x1) = true then
        some ()
      else
        none
  else
    some ()

noncomputable def F_tollbarlaw24_awake : Option (Bool) :=
  match F_drr_New ([(10 : Int), (20 : Int)] : List Int) with
  | none => none
  | some (m1, m2) =>
    match F_drr_Ring_Next ([(D.l [(D.i (10 : Int)), (D.b true)]), (D.l [(D.i (10 : Int)), (D.b true)])] : List D) (0 : Int) false m1 m2 with
    | none => none
    | some (y1, y2, c1, m3) =>
      match F_drr_Ring_Next ([(D.l [(D.i (10 : Int)), (D.b true)]), (D.l [(D.i (10 : Int)), (D.b true)])] : List D) y2 c1 m1 m3 with
      | none => none
      | some (y3, y4, c2, m4) =>
        match F_drr_Ring_Next ([(D.l [(D.i (10 : Int)), (D.b true)]), (D.l [(D.i (10 : Int)), (D.b true)])] : List D) y4 c2 m1 m4 with
        | none => none
        | some (y5, y6, c3, m5) =>
          match F_drr_Ring_Next ([(D.l [(D.i (10 : Int)), (D.b true)]), (D.l [(D.i (10 : Int)), (D.b true)])] : List D) y6 c3 m1 m5 with
          | none => none
          | some (y7, y8, c4, m6) =>
            match F_drr_Ring_State y8 c4 m1 m6 with
            | none => none
            | some m7 =>
              if (ieq y1 (0 : Int)) = true then
                if (ieq y3 (1 : Int)) = true then
                  if (ieq y5 (1 : Int)) = true then
                    if (ieq y7 (0 : Int)) = true then
                      if (ieq y8 (0 : Int)) = true then
                        if c4 = true then
                          if (ieq (ofN (xlen m7)) (2 : Int)) = true then
                            match F_drr_Ring_Next ([(D.l [(D.i (0 : Int)), (D.b false)]), (D.l [(D.i (5 : Int)), (D.b false)])] : List D) y8 c4 m1 m6 with
                            | none => none
                            | some (y9, y10, c5, m8) =>
                              if (ieq y9 (-1 : Int)) = true then
                                match F_drr_Ring_Restore y8 c4 y10 c5 m7 m1 m8 with
                                | none => none
                                | some (.inl ()) =>
                                  some false
                                | some (.inr m9) =>
                                  match F_drr_Ring_Restore_2 (0 : Int) false y8 c4 m1 m9 with
                                  | none => none
                                  | some () =>
                                    some true
                              else
                                some false
                          else
                            some false
                        else
                          some false
                      else
                        some false
                    else
                      some false
                  else
                    some false
                else
                  some false
              else
                some false

noncomputable def F_tollbarlaw24_DrrGoes_L3 (l1 : List Int) (i23 : Int) (r1 : List D) (i10 : Int) : Int → Option ((Int) ⊕ ((Bool × Int) ⊕ ((Int × Int × Bool × (List Int)) ⊕ (Bool))))
  | i27 =>
    if (ilt i27 (ofN (xlen l1))) = true then
      if 0 ≤ i23 ∧ i23 < (ofN (xlen (D.toL (getD r1 (toN i10))))) then
        if 0 ≤ i27 ∧ i27 < (ofN (xlen l1)) then
          if (ilt (getI l1 (toN i27)) (D.toI (D.fld (getD (D.toL (getD r1 (toN i10))) (toN i23)) 0))) = true then
            some (.inr (.inr (.inr true)))
          else
            some (.inl (iadd .i64 i27 (1 : Int)))
        else none
      else none
    else
      some (.inr (.inl (true, (iadd .i64 i23 (1 : Int)))))
noncomputable def F_tollbarlaw24_DrrGoes_L4 (l1 : List Int) (i23 : Int) (r1 : List D) (i10 : Int) : Int → Option ((Int) ⊕ ((Bool × Int) ⊕ ((Int × Int × Bool × (List Int)) ⊕ (Bool))))
  | i28 =>
    if (ilt i28 (ofN (xlen l1))) = true then
      if 0 ≤ i23 ∧ i23 < (ofN (xlen (D.toL (getD r1 (toN i10))))) then
        if 0 ≤ i28 ∧ i28 < (ofN (xlen l1)) then
          if (ilt (getI l1 (toN i28)) (D.toI (D.fld (getD (D.toL (getD r1 (toN i10))) (toN i23)) 0))) = true then
            some (.inr (.inr (.inr true)))
          else
            some (.inl (iadd .i64 i28 (1 : Int)))
        else none
      else none
    else
      some (.inr (.inl ((ilt (0 : Int) (D.toI (D.fld (getD (D.toL (getD r1 (toN i10))) (toN i23)) 0))), (iadd .i64 i23 (1 : Int)))))
noncomputable def F_tollbarlaw24_DrrGoes_L5 (l1 : List Int) (i23 : Int) (r1 : List D) (i10 : Int) : Int → Option ((Int) ⊕ ((Bool × Int) ⊕ ((Int × Int × Bool × (List Int)) ⊕ (Bool))))
  | i29 =>
    if (ilt i29 (ofN (xlen l1))) = true then
      if 0 ≤ i23 ∧ i23 < (ofN (xlen (D.toL (getD r1 (toN i10))))) then
        if 0 ≤ i29 ∧ i29 < (ofN (xlen l1)) then
          if (ilt (getI l1 (toN i29)) (D.toI (D.fld (getD (D.toL (getD r1 (toN i10))) (toN i23)) 0))) = true then
            some (.inr (.inr (.inr true)))
          else
            some (.inl (iadd .i64 i29 (1 : Int)))
        else none
      else none
    else
      some (.inr (.inl (false, (iadd .i64 i23 (1 : Int)))))
noncomputable def F_tollbarlaw24_DrrGoes_L2 (r1 : List D) (i10 : Int) (l1 : List Int) (i11 : Int) (b2 : Bool) (m1 : List Int) (l2 : List Int) : Bool × Int → Option ((Bool × Int) ⊕ ((Int × Int × Bool × (List Int)) ⊕ (Bool)))
  | (b4, i23) =>
    if (ilt i23 (ofN (xlen (D.toL (getD r1 (toN i10)))))) = true then
      if b4 = true then
        iter (F_tollbarlaw24_DrrGoes_L3 l1 i23 r1 i10) (0 : Int)
      else
        if 0 ≤ i23 ∧ i23 < (ofN (xlen (D.toL (getD r1 (toN i10))))) then
          if (D.toB (D.fld (getD (D.toL (getD r1 (toN i10))) (toN i23)) 1)) = true then
            if 0 ≤ i23 ∧ i23 < (ofN (xlen (D.toL (getD r1 (toN i10))))) then
              iter (F_tollbarlaw24_DrrGoes_L4 l1 i23 r1 i10) (0 : Int)
            else none
          else
            iter (F_tollbarlaw24_DrrGoes_L5 l1 i23 r1 i10) (0 : Int)
        else none
    else
      match F_drr_Ring_Next (D.toL (getD r1 (toN i10))) i11 b2 m1 l2 with
      | none => none
      | some (y5, y6, c4, m5) =>
        if (beq2 (ile (0 : Int) y5) b4) = true then
          if (ile (ofN (xlen (D.toL (getD r1 (toN i10))))) y5) = true then
            some (.inr (.inr false))
          else
            if (ile (0 : Int) y5) = true then
              if 0 ≤ y5 ∧ y5 < (ofN (xlen (D.toL (getD r1 (toN i10))))) then
                if (D.toB (D.fld (getD (D.toL (getD r1 (toN i10))) (toN y5)) 1)) = true then
                  if 0 ≤ y5 ∧ y5 < (ofN (xlen (D.toL (getD r1 (toN i10))))) then
                    if (ieq (D.toI (D.fld (getD (D.toL (getD r1 (toN i10))) (toN y5)) 0)) (0 : Int)) = true then
                      some (.inr (.inr false))
                    else
                      some (.inr (.inl ((iadd .i64 i10 (1 : Int)), y6, c4, m5)))
                  else none
                else
                  some (.inr (.inr false))
              else none
            else
              some (.inr (.inl ((iadd .i64 i10 (1 : Int)), y6, c4, m5)))
        else
          some (.inr (.inr false))
noncomputable def F_tollbarlaw24_DrrGoes_L1 (r1 : List D) (l1 : List Int) (m1 : List Int) : Int × Int × Bool × (List Int) → Option ((Int × Int × Bool × (List Int)) ⊕ (Bool))
  | (i10, i11, b2, l2) =>
    if (ilt i10 (ofN (xlen r1))) = true then
      if 0 ≤ i10 ∧ i10 < (ofN (xlen r1)) then
        if (ieq (ofN (xlen (D.toL (getD r1 (toN i10))))) (ofN (xlen l1))) = true then
          iter (F_tollbarlaw24_DrrGoes_L2 r1 i10 l1 i11 b2 m1 l2) (false, (0 : Int))
        else
          some (.inr true)
      else none
    else
      some (.inr true)
noncomputable def F_tollbarlaw24_DrrGoes (l1 : List Int) (r1 : List D) : Option (Bool) :=
  match F_tollbarlaw24_awake with
  | none => none
  | some c1 =>
    if c1 = true then
      if (ilt (20 : Int) (ofN (xlen l1))) = true then
        some true
      else
        if (ilt (120 : Int) (ofN (xlen r1))) = true then
          some true
        else
          match F_drr_New l1 with
          | none => none
          | some (m1, m2) =>
            iter (F_tollbarlaw24_DrrGoes_L1 r1 l1 m1) ((0 : Int), (0 : Int), false, m2)
    else
      some false

noncomputable def F_tollbarref24_Same_L1 (l1 : List Int) (l2 : List Int) : Int → Option ((Int) ⊕ (Bool))
  | i1 =>
    if (ilt i1 (ofN (xlen l1))) = true then
      if 0 ≤ i1 ∧ i1 < (ofN (xlen l1)) then
        if 0 ≤ i1 ∧ i1 < (ofN (xlen l2)) then
          if (ieq (getI l1 (toN i1)) (getI l2 (toN i1))) = true then
            some (.inl (iadd .i64 i1 (1 : Int)))
          else
            some (.inr false)
        else none
      else none
    else
      some (.inr true)
noncomputable def F_tollbarref24_Same (l1 : List Int) (l2 : List Int) : Option (Bool) :=
  if (ieq (ofN (xlen l1)) (ofN (xlen l2))) = true then
    iter (F_tollbarref24_Same_L1 l1 l2) (0 : Int)
  else
    some false

noncomputable def F_tollbarlaw24_DrrStates_L3 (r1 : List D) (m1 : List Int) (l3 : List Int) (i2 : Int) (b1 : Bool) : Int × Int × Bool × Int × Bool × (List Int) × (List Int) → Option ((Int × Int × Bool × Int × Bool × (List Int) × (List Int)) ⊕ (Bool))
  | (i4, i5, b2, i6, b3, l4, l5) =>
    if (ilt i4 (ofN (xlen r1))) = true then
      if 0 ≤ i4 ∧ i4 < (ofN (xlen r1)) then
        if (ilt (40 : Int) (ofN (xlen (D.toL (getD r1 (toN i4)))))) = true then
          some (.inr true)
        else
          if 0 ≤ i4 ∧ i4 < (ofN (xlen r1)) then
            match F_drr_Ring_Next (D.toL (getD r1 (toN i4))) i5 b2 m1 l4 with
            | none => none
            | some (y15, y16, c9, m12) =>
              if 0 ≤ i4 ∧ i4 < (ofN (xlen r1)) then
                match F_drr_Ring_Next (D.toL (getD r1 (toN i4))) i6 b3 m1 l5 with
                | none => none
                | some (y17, y18, c10, m13) =>
                  if (ieq y15 y17) = true then
                    some (.inl ((iadd .i64 i4 (1 : Int)), y16, c9, y18, c10, m12, m13))
                  else
                    some (.inr false)
              else none
          else none
      else none
    else
      match F_drr_Ring_State i5 b2 m1 l4 with
      | none => none
      | some m14 =>
        match F_drr_Ring_State i6 b3 m1 l5 with
        | none => none
        | some m15 =>
          if ((((xlen l3) : Nat) : Int) + (((xlen ([(1 : Int)] : List Int)) : Nat) : Int)) * ((8 : Nat) : Int) ≤ 140737488355328 then
            if (ieq i5 i6) = true then
              if (beq2 b2 b3) = true then
                match F_tollbarref24_Same m14 m15 with
                | none => none
                | some c11 =>
                  if c11 = true then
                    match F_drr_Ring_Restore i2 b1 i6 b3 (cat l3 ([(1 : Int)] : List Int)) m1 l5 with
                    | none => none
                    | some (.inl ()) =>
                      some (.inr true)
                    | some (.inr m16) =>
                      some (.inr false)
                  else
                    some (.inr false)
              else
                some (.inr false)
            else
              some (.inr false)
          else none
noncomputable def F_tollbarlaw24_DrrStates_L2 (r1 : List D) (m1 : List Int) (i2 : Int) (b1 : Bool) (x1 : Int) (l2 : List Int) (m7 : List Int) : Int × (List Int) → Option ((Int × (List Int)) ⊕ (Bool))
  | (i3, l3) =>
    if (ilt i3 (ofN (xlen l3))) = true then
      if 0 ≤ i3 ∧ i3 < (ofN (xlen l3)) then
        some (.inl ((iadd .i64 i3 (1 : Int)), (setI l3 (toN i3) (77 : Int))))
      else none
    else
      Option.map (fun t => (.inr t)) (iter (F_tollbarlaw24_DrrStates_L3 r1 m1 l3 i2 b1) ((irem (iconv .i64 x1) (iadd .i64 (ofN (xlen r1)) (1 : Int))), i2, b1, i2, b1, l2, m7))
noncomputable def F_tollbarlaw24_DrrStates_L1 (x1 : Int) (r1 : List D) (m1 : List Int) (m2 : List Int) : Int × Int × Bool × (List Int) → Option ((Int × Int × Bool × (List Int)) ⊕ (Bool))
  | (i1, i2, b1, l2) =>
    if (ilt i1 (irem (iconv .i64 x1) (iadd .i64 (ofN (xlen r1)) (1 : Int)))) = true then
      if 0 ≤ i1 ∧ i1 < (ofN (xlen r1)) then
        if (ilt (40 : Int) (ofN (xlen (D.toL (getD r1 (toN i1)))))) = true then
          some (.inr true)
        else
          if 0 ≤ i1 ∧ i1 < (ofN (xlen r1)) then
            match F_drr_Ring_Next (D.toL (getD r1 (toN i1))) i2 b1 m1 l2 with
            | none => none
            | some (y5, y6, c4, m5) =>
              some (.inl ((iadd .i64 i1 (1 : Int)), y6, c4, m5))
          else none
      else none
    else
      match F_drr_Ring_State i2 b1 m1 l2 with
      | none => none
      | some m6 =>
        match F_drr_Ring_Restore i2 b1 (0 : Int) false m6 m1 m2 with
        | none => none
        | some (.inl ()) =>
          some (.inr false)
        | some (.inr m7) =>
          Option.map (fun t => (.inr t)) (iter (F_tollbarlaw24_DrrStates_L2 r1 m1 i2 b1 x1 l2 m7) ((0 : Int), m6))
noncomputable def F_tollbarlaw24_DrrStates (l1 : List Int) (r1 : List D) (x1 : Int) : Option (Bool) :=
  match F_tollbarlaw24_awake with
  | none => none
  | some c1 =>
    if c1 = true then
      if (ilt (20 : Int) (ofN (xlen l1))) = true then
        some true
      else
        if (ilt (120 : Int) (ofN (xlen r1))) = true then
          some true
        else
          match F_drr_New l1 with
          | none => none
          | some (m1, m2) =>
            if (iadd .i64 (ofN (xlen r1)) (1 : Int)) ≠ 0 then
              iter (F_tollbarlaw24_DrrStates_L1 x1 r1 m1 m2) ((0 : Int), (0 : Int), false, m2)
            else none
    else
      some false

noncomputable def F_tollbarlaw24_DrrFair_L3 (l2 : List Int) (i4 : Int) (r1 : List D) (r2 : List D) (i5 : Int) (b1 : Bool) (m1 : List Int) (l8 : List Int) (l6 : List Int) (l7 : List Int) : Int × (List Int) × (List D) → Option ((Int × (List Int) × (List D)) ⊕ ((Int × Int × Bool × (List Int) × (List Int) × (List Int) × (List Int)) ⊕ (Bool)))
  | (i7, l10, r6) =>
    if (ilt i7 (ofN (xlen l2))) = true then
      if 0 ≤ i7 ∧ i7 < (ofN (xlen l10)) then
        if (ieq (getI l10 (toN i7)) (0 : Int)) = true then
          if 0 ≤ i4 ∧ i4 < (ofN (xlen r1)) then
            if (ilt i7 (ofN (xlen (D.toIs (getD r1 (toN i4)))))) = true then
              if 0 ≤ i4 ∧ i4 < (ofN (xlen r1)) then
                if 0 ≤ i7 ∧ i7 < (ofN (xlen (D.toIs (getD r1 (toN i4))))) then
                  if 0 ≤ i7 ∧ i7 < (ofN (xlen l10)) then
                    if 0 ≤ i7 ∧ i7 < (ofN (xlen (setI l10 (toN i7) (iadd .u64 (irem (iconv .u64 (getI (D.toIs (getD r1 (toN i4))) (toN i7))) (1500 : Int)) (1 : Int))))) then
                      if (ieq (getI (setI l10 (toN i7) (iadd .u64 (irem (iconv .u64 (getI (D.toIs (getD r1 (toN i4))) (toN i7))) (1500 : Int)) (1 : Int))) (toN i7)) (0 : Int)) = true then
                        if 0 ≤ i7 ∧ i7 < (ofN (xlen (setI l10 (toN i7) (iadd .u64 (irem (iconv .u64 (getI (D.toIs (getD r1 (toN i4))) (toN i7))) (1500 : Int)) (1 : Int))))) then
                          if (ilt i7 (2 : Int)) = true then
                            if 0 ≤ i7 ∧ i7 < (ofN (xlen (setI (setI l10 (toN i7) (iadd .u64 (irem (iconv .u64 (getI (D.toIs (getD r1 (toN i4))) (toN i7))) (1500 : Int)) (1 : Int))) (toN i7) (700 : Int)))) then
                              if ((((xlen r6) : Nat) : Int) + (((xlen ([(D.l [(D.i (getI (setI (setI l10 (toN i7) (iadd .u64 (irem (iconv .u64 (getI (D.toIs (getD r1 (toN i4))) (toN i7))) (1500 : Int)) (1 : Int))) (toN i7) (700 : Int)) (toN i7))), (D.b true)])] : List D)) : Nat) : Int)) * ((16 : Nat) : Int) ≤ 140737488355328 then
                                some (.inl ((iadd .i64 i7 (1 : Int)), (setI (setI l10 (toN i7) (iadd .u64 (irem (iconv .u64 (getI (D.toIs (getD r1 (toN i4))) (toN i7))) (1500 : Int)) (1 : Int))) (toN i7) (700 : Int)), (cat r6 ([(D.l [(D.i (getI (setI (setI l10 (toN i7) (iadd .u64 (irem (iconv .u64 (getI (D.toIs (getD r1 (toN i4))) (toN i7))) (1500 : Int)) (1 : Int))) (toN i7) (700 : Int)) (toN i7))), (D.b true)])] : List D))))
                              else none
                            else none
                          else
                            if 0 ≤ i4 ∧ i4 < (ofN (xlen r2)) then
                              if (ilt i7 (ofN (xlen (D.toL (getD r2 (toN i4)))))) = true then
                                if 0 ≤ i4 ∧ i4 < (ofN (xlen r2)) then
                                  if 0 ≤ i7 ∧ i7 < (ofN (xlen (D.toL (getD r2 (toN i4))))) then
                                    if 0 ≤ i7 ∧ i7 < (ofN (xlen (setI (setI l10 (toN i7) (iadd .u64 (irem (iconv .u64 (getI (D.toIs (getD r1 (toN i4))) (toN i7))) (1500 : Int)) (1 : Int))) (toN i7) (700 : Int)))) then
                                      if ((((xlen r6) : Nat) : Int) + (((xlen ([(D.l [(D.i (getI (setI (setI l10 (toN i7) (iadd .u64 (irem (iconv .u64 (getI (D.toIs (getD r1 (toN i4))) (toN i7))) (1500 : Int)) (1 : Int))) (toN i7) (700 : Int)) (toN i7))), (D.b (D.toB (getD (D.toL (getD r2 (toN i4))) (toN i7))))])] : List D)) : Nat) : Int)) * ((16 : Nat) : Int) ≤ 140737488355328 then
                                        some (.inl ((iadd .i64 i7 (1 : Int)), (setI (setI l10 (toN i7) (iadd .u64 (irem (iconv .u64 (getI (D.toIs (getD r1 (toN i4))) (toN i7))) (1500 : Int)) (1 : Int))) (toN i7) (700 : Int)), (cat r6 ([(D.l [(D.i (getI (setI (setI l10 (toN i7) (iadd .u64 (irem (iconv .u64 (getI (D.toIs (getD r1 (toN i4))) (toN i7))) (1500 : Int)) (1 : Int))) (toN i7) (700 : Int)) (toN i7))), (D.b (D.toB (getD (D.toL (getD r2 (toN i4))) (toN i7))))])] : List D))))
                                      else none
                                    else none
                                  else none
                                else none
                              else
                                if 0 ≤ i7 ∧ i7 < (ofN (xlen (setI (setI l10 (toN i7) (iadd .u64 (irem (iconv .u64 (getI (D.toIs (getD r1 (toN i4))) (toN i7))) (1500 : Int)) (1 : Int))) (toN i7) (700 : Int)))) then
                                  if ((((xlen r6) : Nat) : Int) + (((xlen ([(D.l [(D.i (getI (setI (setI l10 (toN i7) (iadd .u64 (irem (iconv .u64 (getI (D.toIs (getD r1 (toN i4))) (toN i7))) (1500 : Int)) (1 : Int))) (toN i7) (700 : Int)) (toN i7))), (D.b false)])] : List D)) : Nat) : Int)) * ((16 : Nat) : Int) ≤ 140737488355328 then
                                    some (.inl ((iadd .i64 i7 (1 : Int)), (setI (setI l10 (toN i7) (iadd .u64 (irem (iconv .u64 (getI (D.toIs (getD r1 (toN i4))) (toN i7))) (1500 : Int)) (1 : Int))) (toN i7) (700 : Int)), (cat r6 ([(D.l [(D.i (getI (setI (setI l10 (toN i7) (iadd .u64 (irem (iconv .u64 (getI (D.toIs (getD r1 (toN i4))) (toN i7))) (1500 : Int)) (1 : Int))) (toN i7) (700 : Int)) (toN i7))), (D.b false)])] : List D))))
                                  else none
                                else none
                            else none
                        else none
                      else
                        if (ilt i7 (2 : Int)) = true then
                          if 0 ≤ i7 ∧ i7 < (ofN (xlen (setI l10 (toN i7) (iadd .u64 (irem (iconv .u64 (getI (D.toIs (getD r1 (toN i4))) (toN i7))) (1500 : Int)) (1 : Int))))) then
                            if ((((xlen r6) : Nat) : Int) + (((xlen ([(D.l [(D.i (getI (setI l10 (toN i7) (iadd .u64 (irem (iconv .u64 (getI (D.toIs (getD r1 (toN i4))) (toN i7))) (1500 : Int)) (1 : Int))) (toN i7))), (D.b true)])] : List D)) : Nat) : Int)) * ((16 : Nat) : Int) ≤ 140737488355328 then
                              some (.inl ((iadd .i64 i7 (1 : Int)), (setI l10 (toN i7) (iadd .u64 (irem (iconv .u64 (getI (D.toIs (getD r1 (toN i4))) (toN i7))) (1500 : Int)) (1 : Int))), (cat r6 ([(D.l [(D.i (getI (setI l10 (toN i7) (iadd .u64 (irem (iconv .u64 (getI (D.toIs (getD r1 (toN i4))) (toN i7))) (1500 : Int)) (1 : Int))) (toN i7))), (D.b true)])] : List D))))
                            else none
                          else none
                        else
                          if 0 ≤ i4 ∧ i4 < (ofN (xlen r2)) then
                            if (ilt i7 (ofN (xlen (D.toL (getD r2 (toN i4)))))) = true then
                              if 0 ≤ i4 ∧ i4 < (ofN (xlen r2)) then
                                if 0 ≤ i7 ∧ i7 < (ofN (xlen (D.toL (getD r2 (toN i4))))) then
                                  if 0 ≤ i7 ∧ i7 < (ofN (xlen (setI l10 (toN i7) (iadd .u64 (irem (iconv .u64 (getI (D.toIs (getD r1 (toN i4))) (toN i7))) (1500 : Int)) (1 : Int))))) then
                                    if ((((xlen r6) : Nat) : Int) + (((xlen ([(D.l [(D.i (getI (setI l10 (toN i7) (iadd .u64 (irem (iconv .u64 (getI (D.toIs (getD r1 (toN i4))) (toN i7))) (1500 : Int)) (1 : Int))) (toN i7))), (D.b (D.toB (getD (D.toL (getD r2 (toN i4))) (toN i7))))])] : List D)) : Nat) : Int)) * ((16 : Nat) : Int) ≤ 140737488355328 then
                                      some (.inl ((iadd .i64 i7 (1 : Int)), (setI l10 (toN i7) (iadd .u64 (irem (iconv .u64 (getI (D.toIs (getD r1 (toN i4))) (toN i7))) (1500 : Int)) (1 : Int))), (cat r6 ([(D.l [(D.i (getI (setI l10 (toN i7) (iadd .u64 (irem (iconv .u64 (getI (D.toIs (getD r1 (toN i4))) (toN i7))) (1500 : Int)) (1 : Int))) (toN i7))), (D.b (D.toB (getD (D.toL (getD r2 (toN i4))) (toN i7))))])] : List D))))
                                    else none
                                  else none
                                else none
                              else none
                            else
                              if 0 ≤ i7 ∧ i7 < (ofN (xlen (setI l10 (toN i7) (iadd .u64 (irem (iconv .u64 (getI (D.toIs (getD r1 (toN i4))) (toN i7))) (1500 : Int)) (1 : Int))))) then
                                if ((((xlen r6) : Nat) : Int) + (((xlen ([(D.l [(D.i (getI (setI l10 (toN i7) (iadd .u64 (irem (iconv .u64 (getI (D.toIs (getD r1 (toN i4))) (toN i7))) (1500 : Int)) (1 : Int))) (toN i7))), (D.b false)])] : List D)) : Nat) : Int)) * ((16 : Nat) : Int) ≤ 140737488355328 then
                                  some (.inl ((iadd .i64 i7 (1 : Int)), (setI l10 (toN i7) (iadd .u64 (irem (iconv .u64 (getI (D.toIs (getD r1 (toN i4))) (toN i7))) (1500 : Int)) (1 : Int))), (cat r6 ([(D.l [(D.i (getI (setI l10 (toN i7) (iadd .u64 (irem (iconv .u64 (getI (D.toIs (getD r1 (toN i4))) (toN i7))) (1500 : Int)) (1 : Int))) (toN i7))), (D.b false)])] : List D))))
                                else none
                              else none
                          else none
                    else none
                  else none
                else none
              else none
            else
              if 0 ≤ i7 ∧ i7 < (ofN (xlen l10)) then
                if (ieq (getI l10 (toN i7)) (0 : Int)) = true then
                  if 0 ≤ i7 ∧ i7 < (ofN (xlen l10)) then
                    if (ilt i7 (2 : Int)) = true then
                      if 0 ≤ i7 ∧ i7 < (ofN (xlen (setI l10 (toN i7) (700 : Int)))) then
                        if ((((xlen r6) : Nat) : Int) + (((xlen ([(D.l [(D.i (getI (setI l10 (toN i7) (700 : Int)) (toN i7))), (D.b true)])] : List D)) : Nat) : Int)) * ((16 : Nat) : Int) ≤ 140737488355328 then
                          some (.inl ((iadd .i64 i7 (1 : Int)), (setI l10 (toN i7) (700 : Int)), (cat r6 ([(D.l [(D.i (getI (setI l10 (toN i7) (700 : Int)) (toN i7))), (D.b true)])] : List D))))
                        else none
                      else none
                    else
                      if 0 ≤ i4 ∧ i4 < (ofN (xlen r2)) then
                        if (ilt i7 (ofN (xlen (D.toL (getD r2 (toN i4)))))) = true then
                          if 0 ≤ i4 ∧ i4 < (ofN (xlen r2)) then
                            if 0 ≤ i7 ∧ i7 < (ofN (xlen (D.toL (getD r2 (toN i4))))) then
                              if 0 ≤ i7 ∧ i7 < (ofN (xlen (setI l10 (toN i7) (700 : Int)))) then
                                if ((((xlen r6) : Nat) : Int) + (((xlen ([(D.l [(D.i (getI (setI l10 (toN i7) (700 : Int)) (toN i7))), (D.b (D.toB (getD (D.toL (getD r2 (toN i4))) (toN i7))))])] : List D)) : Nat) : Int)) * ((16 : Nat) : Int) ≤ 140737488355328 then
                                  some (.inl ((iadd .i64 i7 (1 : Int)), (setI l10 (toN i7) (700 : Int)), (cat r6 ([(D.l [(D.i (getI (setI l10 (toN i7) (700 : Int)) (toN i7))), (D.b (D.toB (getD (D.toL (getD r2 (toN i4))) (toN i7))))])] : List D))))
                                else none
                              else none
                            else none
                          else none
                        else
                          if 0 ≤ i7 ∧ i7 < (ofN (xlen (setI l10 (toN i7) (700 : Int)))) then
                            if ((((xlen r6) : Nat) : Int) + (((xlen ([(D.l [(D.i (getI (setI l10 (toN i7) (700 : Int)) (toN i7))), (D.b false)])] : List D)) : Nat) : Int)) * ((16 : Nat) : Int) ≤ 140737488355328 then
                              some (.inl ((iadd .i64 i7 (1 : Int)), (setI l10 (toN i7) (700 : Int)), (cat r6 ([(D.l [(D.i (getI (setI l10 (toN i7) (700 : Int)) (toN i7))), (D.b false)])] : List D))))
                            else none
                          else none
                      else none
                  else none
                else
                  if (ilt i7 (2 : Int)) = true then
                    if 0 ≤ i7 ∧ i7 < (ofN (xlen l10)) then
                      if ((((xlen r6) : Nat) : Int) + (((xlen ([(D.l [(D.i (getI l10 (toN i7))), (D.b true)])] : List D)) : Nat) : Int)) * ((16 : Nat) : Int) ≤ 140737488355328 then
                        some (.inl ((iadd .i64 i7 (1 : Int)), l10, (cat r6 ([(D.l [(D.i (getI l10 (toN i7))), (D.b true)])] : List D))))
                      else none
                    else none
                  else
                    if 0 ≤ i4 ∧ i4 < (ofN (xlen r2)) then
                      if (ilt i7 (ofN (xlen (D.toL (getD r2 (toN i4)))))) = true then
                        if 0 ≤ i4 ∧ i4 < (ofN (xlen r2)) then
                          if 0 ≤ i7 ∧ i7 < (ofN (xlen (D.toL (getD r2 (toN i4))))) then
                            if 0 ≤ i7 ∧ i7 < (ofN (xlen l10)) then
                              if ((((xlen r6) : Nat) : Int) + (((xlen ([(D.l [(D.i (getI l10 (toN i7))), (D.b (D.toB (getD (D.toL (getD r2 (toN i4))) (toN i7))))])] : List D)) : Nat) : Int)) * ((16 : Nat) : Int) ≤ 140737488355328 then
                                some (.inl ((iadd .i64 i7 (1 : Int)), l10, (cat r6 ([(D.l [(D.i (getI l10 (toN i7))), (D.b (D.toB (getD (D.toL (getD r2 (toN i4))) (toN i7))))])] : List D))))
                              else none
                            else none
                          else none
                        else none
                      else
                        if 0 ≤ i7 ∧ i7 < (ofN (xlen l10)) then
                          if ((((xlen r6) : Nat) : Int) + (((xlen ([(D.l [(D.i (getI l10 (toN i7))), (D.b false)])] : List D)) : Nat) : Int)) * ((16 : Nat) : Int) ≤ 140737488355328 then
                            some (.inl ((iadd .i64 i7 (1 : Int)), l10, (cat r6 ([(D.l [(D.i (getI l10 (toN i7))), (D.b false)])] : List D))))
                          else none
                        else none
                    else none
              else none
          else none
        else
          if 0 ≤ i7 ∧ i7 < (ofN (xlen l10)) then
            if (ieq (getI l10 (toN i7)) (0 : Int)) = true then
              if 0 ≤ i7 ∧ i7 < (ofN (xlen l10)) then
                if (ilt i7 (2 : Int)) = true then
                  if 0 ≤ i7 ∧ i7 < (ofN (xlen (setI l10 (toN i7) (700 : Int)))) then
                    if ((((xlen r6) : Nat) : Int) + (((xlen ([(D.l [(D.i (getI (setI l10 (toN i7) (700 : Int)) (toN i7))), (D.b true)])] : List D)) : Nat) : Int)) * ((16 : Nat) : Int) ≤ 140737488355328 then
                      some (.inl ((iadd .i64 i7 (1 : Int)), (setI l10 (toN i7) (700 : Int)), (cat r6 ([(D.l [(D.i (getI (setI l10 (toN i7) (700 : Int)) (toN i7))), (D.b true)])] : List D))))
                    else none
                  else none
                else
                  if 0 ≤ i4 ∧ i4 < (ofN (xlen r2)) then
                    if (ilt i7 (ofN (xlen (D.toL (getD r2 (toN i4)))))) = true then
                      if 0 ≤ i4 ∧ i4 < (ofN (xlen r2)) then
                        if 0 ≤ i7 ∧ i7 < (ofN (xlen (D.toL (getD r2 (toN i4))))) then
                          if 0 ≤ i7 ∧ i7 < (ofN (xlen (setI l10 (toN i7) (700 : Int)))) then
                            if ((((xlen r6) : Nat) : Int) + (((xlen ([(D.l [(D.i (getI (setI l10 (toN i7) (700 : Int)) (toN i7))), (D.b (D.toB (getD (D.toL (getD r2 (toN i4))) (toN i7))))])] : List D)) : Nat) : Int)) * ((16 : Nat) : Int) ≤ 140737488355328 then
                              some (.inl ((iadd .i64 i7 (1 : Int)), (setI l10 (toN i7) (700 : Int)), (cat r6 ([(D.l [(D.i (getI (setI l10 (toN i7) (700 : Int)) (toN i7))), (D.b (D.toB (getD (D.toL (getD r2 (toN i4))) (toN i7))))])] : List D))))
                            else none
                          else none
                        else none
                      else none
                    else
                      if 0 ≤ i7 ∧ i7 < (ofN (xlen (setI l10 (toN i7) (700 : Int)))) then
                        if ((((xlen r6) : Nat) : Int) + (((xlen ([(D.l [(D.i (getI (setI l10 (toN i7) (700 : Int)) (toN i7))), (D.b false)])] : List D)) : Nat) : Int)) * ((16 : Nat) : Int) ≤ 140737488355328 then
                          some (.inl ((iadd .i64 i7 (1 : Int)), (setI l10 (toN i7) (700 : Int)), (cat r6 ([(D.l [(D.i (getI (setI l10 (toN i7) (700 : Int)) (toN i7))), (D.b false)])] : List D))))
                        else none
                      else none
                  else none
              else none
            else
              if (ilt i7 (2 : Int)) = true then
                if 0 ≤ i7 ∧ i7 < (ofN (xlen l10)) then
                  if ((((xlen r6) : Nat) : Int) + (((xlen ([(D.l [(D.i (getI l10 (toN i7))), (D.b true)])] : List D)) : Nat) : Int)) * ((16 : Nat) : Int) ≤ 140737488355328 then
                    some (.inl ((iadd .i64 i7 (1 : Int)), l10, (cat r6 ([(D.l [(D.i (getI l10 (toN i7))), (D.b true)])] : List D))))
                  else none
                else none
              else
                if 0 ≤ i4 ∧ i4 < (ofN (xlen r2)) then
                  if (ilt i7 (ofN (xlen (D.toL (getD r2 (toN i4)))))) = true then
                    if 0 ≤ i4 ∧ i4 < (ofN (xlen r2)) then
                      if 0 ≤ i7 ∧ i7 < (ofN (xlen (D.toL (getD r2 (toN i4))))) then
                        if 0 ≤ i7 ∧ i7 < (ofN (xlen l10)) then
                          if ((((xlen r6) : Nat) : Int) + (((xlen ([(D.l [(D.i (getI l10 (toN i7))), (D.b (D.toB (getD (D.toL (getD r2 (toN i4))) (toN i7))))])] : List D)) : Nat) : Int)) * ((16 : Nat) : Int) ≤ 140737488355328 then
                            some (.inl ((iadd .i64 i7 (1 : Int)), l10, (cat r6 ([(D.l [(D.i (getI l10 (toN i7))), (D.b (D.toB (getD (D.toL (getD r2 (toN i4))) (toN i7))))])] : List D))))
                          else none
                        else none
                      else none
                    else none
                  else
                    if 0 ≤ i7 ∧ i7 < (ofN (xlen l10)) then
                      if ((((xlen r6) : Nat) : Int) + (((xlen ([(D.l [(D.i (getI l10 (toN i7))), (D.b false)])] : List D)) : Nat) : Int)) * ((16 : Nat) : Int) ≤ 140737488355328 then
                        some (.inl ((iadd .i64 i7 (1 : Int)), l10, (cat r6 ([(D.l [(D.i (getI l10 (toN i7))), (D.b false)])] : List D))))
                      else none
                    else none
                else none
          else none
      else none
    else
      match F_drr_Ring_Next r6 i5 b1 m1 l8 with
      | none => none
      | some (y7, y8, c5, m6) =>
        if (ilt y7 (0 : Int)) = true then
          some (.inr (.inr false))
        else
          if (ile (ofN (xlen l2)) y7) = true then
            some (.inr (.inr false))
          else
            if ((((xlen l6) : Nat) : Int) + (((xlen ([y7] : List Int)) : Nat) : Int)) * ((8 : Nat) : Int) ≤ 140737488355328 then
              if 0 ≤ y7 ∧ y7 < (ofN (xlen l10)) then
                if ((((xlen l7) : Nat) : Int) + (((xlen ([(getI l10 (toN y7))] : List Int)) : Nat) : Int)) * ((8 : Nat) : Int) ≤ 140737488355328 then
                  if 0 ≤ y7 ∧ y7 < (ofN (xlen l10)) then
                    some (.inr (.inl ((iadd .i64 i4 (1 : Int)), y8, c5, (setI l10 (toN y7) (0 : Int)), (cat l6 ([y7] : List Int)), (cat l7 ([(getI l10 (toN y7))] : List Int)), m6)))
                  else none
                else none
              else none
            else none
noncomputable def F_tollbarlaw24_DrrFair_L5 (l6 : List Int) (l7 : List Int) (l2 : List Int) (i11 : Int) : Int × Int × Int → Option ((Int × Int × Int) ⊕ ((Int) ⊕ (Bool)))
  | (i15, i16, i17) =>
    if (ilt i17 (ofN (xlen l6))) = true then
      if 0 ≤ i17 ∧ i17 < (ofN (xlen l6)) then
        if (ieq (getI l6 (toN i17)) (0 : Int)) = true then
          if 0 ≤ i17 ∧ i17 < (ofN (xlen l7)) then
            if 0 ≤ i17 ∧ i17 < (ofN (xlen l6)) then
              if (ieq (getI l6 (toN i17)) (1 : Int)) = true then
                if 0 ≤ i17 ∧ i17 < (ofN (xlen l7)) then
                  if 0 ≤ (1 : Int) ∧ (1 : Int) < (ofN (xlen l2)) then
                    if 0 ≤ (0 : Int) ∧ (0 : Int) < (ofN (xlen l2)) then
                      if 0 ≤ (0 : Int) ∧ (0 : Int) < (ofN (xlen l2)) then
                        if 0 ≤ (1 : Int) ∧ (1 : Int) < (ofN (xlen l2)) then
                          if 0 ≤ (0 : Int) ∧ (0 : Int) < (ofN (xlen l2)) then
                            if 0 ≤ (1 : Int) ∧ (1 : Int) < (ofN (xlen l2)) then
                              if (ile (iadd .u64 (imul .u64 (getI l2 (toN (0 : Int))) (getI l2 (toN (1 : Int)))) (imul .u64 (1500 : Int) (iadd .u64 (getI l2 (toN (0 : Int))) (getI l2 (toN (1 : Int)))))) (isub .u64 (imax (imul .u64 (iadd .u64 i15 (getI l7 (toN i17))) (getI l2 (toN (1 : Int)))) (imul .u64 (iadd .u64 i16 (getI l7 (toN i17))) (getI l2 (toN (0 : Int))))) (imin (imul .u64 (iadd .u64 i15 (getI l7 (toN i17))) (getI l2 (toN (1 : Int)))) (imul .u64 (iadd .u64 i16 (getI l7 (toN i17))) (getI l2 (toN (0 : Int))))))) = true then
                                some (.inr (.inr false))
                              else
                                some (.inl ((iadd .u64 i15 (getI l7 (toN i17))), (iadd .u64 i16 (getI l7 (toN i17))), (iadd .i64 i17 (1 : Int))))
                            else none
                          else none
                        else none
                      else none
                    else none
                  else none
                else none
              else
                if 0 ≤ (1 : Int) ∧ (1 : Int) < (ofN (xlen l2)) then
                  if 0 ≤ (0 : Int) ∧ (0 : Int) < (ofN (xlen l2)) then
                    if 0 ≤ (0 : Int) ∧ (0 : Int) < (ofN (xlen l2)) then
                      if 0 ≤ (1 : Int) ∧ (1 : Int) < (ofN (xlen l2)) then
                        if 0 ≤ (0 : Int) ∧ (0 : Int) < (ofN (xlen l2)) then
                          if 0 ≤ (1 : Int) ∧ (1 : Int) < (ofN (xlen l2)) then
                            if (ile (iadd .u64 (imul .u64 (getI l2 (toN (0 : Int))) (getI l2 (toN (1 : Int)))) (imul .u64 (1500 : Int) (iadd .u64 (getI l2 (toN (0 : Int))) (getI l2 (toN (1 : Int)))))) (isub .u64 (imax (imul .u64 (iadd .u64 i15 (getI l7 (toN i17))) (getI l2 (toN (1 : Int)))) (imul .u64 i16 (getI l2 (toN (0 : Int))))) (imin (imul .u64 (iadd .u64 i15 (getI l7 (toN i17))) (getI l2 (toN (1 : Int)))) (imul .u64 i16 (getI l2 (toN (0 : Int))))))) = true then
                              some (.inr (.inr false))
                            else
                              some (.inl ((iadd .u64 i15 (getI l7 (toN i17))), i16, (iadd .i64 i17 (1 : Int))))
                          else none
                        else none
                      else none
                    else none
                  else none
                else none
            else none
          else none
        else
          if 0 ≤ i17 ∧ i17 < (ofN (xlen l6)) then
            if (ieq (getI l6 (toN i17)) (1 : Int)) = true then
              if 0 ≤ i17 ∧ i17 < (ofN (xlen l7)) then
                if 0 ≤ (1 : Int) ∧ (1 : Int) < (ofN (xlen l2)) then
                  if 0 ≤ (0 : Int) ∧ (0 : Int) < (ofN (xlen l2)) then
                    if 0 ≤ (0 : Int) ∧ (0 : Int) < (ofN (xlen l2)) then
                      if 0 ≤ (1 : Int) ∧ (1 : Int) < (ofN (xlen l2)) then
                        if 0 ≤ (0 : Int) ∧ (0 : Int) < (ofN (xlen l2)) then
                          if 0 ≤ (1 : Int) ∧ (1 : Int) < (ofN (xlen l2)) then
                            if (ile (iadd .u64 (imul .u64 (getI l2 (toN (0 : Int))) (getI l2 (toN (1 : Int)))) (imul .u64 (1500 : Int) (iadd .u64 (getI l2 (toN (0 : Int))) (getI l2 (toN (1 : Int)))))) (isub .u64 (imax (imul .u64 i15 (getI l2 (toN (1 : Int)))) (imul .u64 (iadd .u64 i16 (getI l7 (toN i17))) (getI l2 (toN (0 : Int))))) (imin (imul .u64 i15 (getI l2 (toN (1 : Int)))) (imul .u64 (iadd .u64 i16 (getI l7 (toN i17))) (getI l2 (toN (0 : Int))))))) = true then
                              some (.inr (.inr false))
                            else
                              some (.inl (i15, (iadd .u64 i16 (getI l7 (toN i17))), (iadd .i64 i17 (1 : Int))))
                          else none
                        else none
                      else none
                    else none
                  else none
                else none
              else none
            else
              if 0 ≤ (1 : Int) ∧ (1 : Int) < (ofN (xlen l2)) then
                if 0 ≤ (0 : Int) ∧ (0 : Int) < (ofN (xlen l2)) then
                  if 0 ≤ (0 : Int) ∧ (0 : Int) < (ofN (xlen l2)) then
                    if 0 ≤ (1 : Int) ∧ (1 : Int) < (ofN (xlen l2)) then
                      if 0 ≤ (0 : Int) ∧ (0 : Int) < (ofN (xlen l2)) then
                        if 0 ≤ (1 : Int) ∧ (1 : Int) < (ofN (xlen l2)) then
                          if (ile (iadd .u64 (imul .u64 (getI l2 (toN (0 : Int))) (getI l2 (toN (1 : Int)))) (imul .u64 (1500 : Int) (iadd .u64 (getI l2 (toN (0 : Int))) (getI l2 (toN (1 : Int)))))) (isub .u64 (imax (imul .u64 i15 (getI l2 (toN (1 : Int)))) (imul .u64 i16 (getI l2 (toN (0 : Int))))) (imin (imul .u64 i15 (getI l2 (toN (1 : Int)))) (imul .u64 i16 (getI l2 (toN (0 : Int))))))) = true then
                            some (.inr (.inr false))
                          else
                            some (.inl (i15, i16, (iadd .i64 i17 (1 : Int))))
                        else none
                      else none
                    else none
                  else none
                else none
              else none
          else none
      else none
    else
      some (.inr (.inl (iadd .i64 i11 (1 : Int))))
noncomputable def F_tollbarlaw24_DrrFair_L4 (l6 : List Int) (l7 : List Int) (l2 : List Int) : Int → Option ((Int) ⊕ (Bool))
  | i11 =>
    if (ilt i11 (ofN (xlen l6))) = true then
      iter (F_tollbarlaw24_DrrFair_L5 l6 l7 l2 i11) ((0 : Int), (0 : Int), i11)
    else
      some (.inr true)
noncomputable def F_tollbarlaw24_DrrFair_L2 (r1 : List D) (l2 : List Int) (r2 : List D) (m1 : List Int) : Int × Int × Bool × (List Int) × (List Int) × (List Int) × (List Int) → Option ((Int × Int × Bool × (List Int) × (List Int) × (List Int) × (List Int)) ⊕ (Bool))
  | (i4, i5, b1, l5, l6, l7, l8) =>
    if (ilt i4 (ofN (xlen r1))) = true then
      iter (F_tollbarlaw24_DrrFair_L3 l2 i4 r1 r2 i5 b1 m1 l8 l6 l7) ((0 : Int), l5, ([] : List D))
    else
      Option.map (fun t => (.inr t)) (iter (F_tollbarlaw24_DrrFair_L4 l6 l7 l2) (0 : Int))
noncomputable def F_tollbarlaw24_DrrFair_L1 (l1 : List Int) (r1 : List D) (r2 : List D) : Int × (List Int) → Option ((Int × (List Int)) ⊕ (Bool))
  | (i1, l2) =>
    if (ilt i1 (ofN (xlen l1))) = true then
      if 0 ≤ i1 ∧ i1 < (ofN (xlen l1)) then
        if ((((xlen l2) : Nat) : Int) + (((xlen ([(iadd .u64 (1500 : Int) (iconv .u64 (getI l1 (toN i1))))] : List Int)) : Nat) : Int)) * ((8 : Nat) : Int) ≤ 140737488355328 then
          some (.inl ((iadd .i64 i1 (1 : Int)), (cat l2 ([(iadd .u64 (1500 : Int) (iconv .u64 (getI l1 (toN i1))))] : List Int))))
        else none
      else none
    else
      match F_drr_New l2 with
      | none => none
      | some (m1, m2) =>
        if 0 ≤ (ofN (xlen l2)) ∧ (ofN (xlen l2)) ≤ (ofN (xlen l2)) ∧ (ofN (xlen l2)) * ((8 : Nat) : Int) ≤ 140737488355328 ∧ (ofN (xlen l2)) ≤ 9223372036854775807 then
          Option.map (fun t => (.inr t)) (iter (F_tollbarlaw24_DrrFair_L2 r1 l2 r2 m1) ((0 : Int), (0 : Int), false, (@lrep Int (toN (ofN (xlen l2))) (0 : Int)), ([] : List Int), ([] : List Int), m2))
        else none
noncomputable def F_tollbarlaw24_DrrFair (l1 : List Int) (r1 : List D) (r2 : List D) : Option (Bool) :=
  match F_tollbarlaw24_awake with
  | none => none
  | some c1 =>
    if c1 = true then
      if (ilt (ofN (xlen l1)) (2 : Int)) = true then
        some true
      else
        if (ilt (5 : Int) (ofN (xlen l1))) = true then
          some true
        else
          if (ilt (60 : Int) (ofN (xlen r1))) = true then
            some true
          else
            if (ilt (ofN (xlen r2)) (ofN (xlen r1))) = true then
              some true
            else
              iter (F_tollbarlaw24_DrrFair_L1 l1 r1 r2) ((0 : Int), ([] : List Int))
    else
      some false
end Go.Proofs.Ytmnloiadjaljdaa
end
section
/-
  The contracts of the functions (printed by a program of ours).
-/
set_option linter.unusedVariables false
set_option linter.unusedSimpArgs false
namespace Go.Proofs.Ytmnloiadjaljdaa
open Go.RowKit

noncomputable def con_slices_Clone_1 (a : List SV) (c : List Ck) : Option CEff := match a, c with
  | [(.rsl (.ints 28 .u64 l1))], [] => some ⟨[lock Obl fun _ => ∃ r, lock cloneU64 l1 = some r], .many ((List Int)) (fun r => lock cloneU64 l1 = some r) (fun | u0 => (.wsl 0)) (fun | u0 => [.to (.row (.ints 28 .u64 u0))])⟩
  | _, _ => none
noncomputable def con_slices_Clone : Con := ⟨[(some (.ints 28 .u64))], fun a c => con_slices_Clone_1 a c⟩

noncomputable def con_drr_New_1 (a : List SV) (c : List Ck) : Option CEff := match a, c with
  | [(.rsl (.ints 28 .u64 l1))], [] => some ⟨[lock Obl fun _ => ∃ r, lock F_drr_New l1 = some r], .many ((List Int) × (List Int)) (fun r => lock F_drr_New l1 = some r) (fun | (u0, u1) => (.ptr 0 0)) (fun | (u0, u1) => [.to (.blk 48 [(.wsl 1), (.v (.int .i64 (0 : Int))), (.v (.bool false)), (.wsl 2)]), .to (.row (.ints 28 .u64 u0)), .to (.row (.ints 28 .u64 u1))])⟩
  | _, _ => none
noncomputable def con_drr_New : Con := ⟨[(some (.ints 28 .u64))], fun a c => con_drr_New_1 a c⟩

noncomputable def con_drr_Ring_on_1 (a : List SV) (c : List Ck) : Option CEff := match a, c with
  | [(.ptr 0 0)], [.blk 48 [(.wsl 1), (.v (.int .i64 x1)), (.v (.bool b1)), (.wsl 2)], .row (.ints 28 .u64 l1), .row (.ints 28 .u64 l2)] => some ⟨[lock Obl fun _ => ∃ r, lock F_drr_Ring_on x1 b1 l1 l2 = some r], .many (Int) (fun r => lock F_drr_Ring_on x1 b1 l1 l2 = some r) (fun | u0 => (.tup [])) (fun | u0 => [.to (.blk 48 [(.wsl 1), (.v (.int .i64 u0)), (.v (.bool false)), (.wsl 2)]), .same, .same])⟩
  | _, _ => none
noncomputable def con_drr_Ring_on : Con := ⟨[none], fun a c => con_drr_Ring_on_1 a c⟩

noncomputable def con_sat_Add_1 (a : List SV) (c : List Ck) : Option CEff := match a, c with
  | [(.v (.int .u64 x1)), (.v (.int .u64 x2))], [] => some ⟨[lock Obl fun _ => ∃ r, lock F_sat_Add x1 x2 = some r], .many (Int) (fun r => lock F_sat_Add x1 x2 = some r) (fun | u0 => (.v (.int .u64 u0))) (fun | u0 => [])⟩
  | _, _ => none
noncomputable def con_sat_Add : Con := ⟨[none, none], fun a c => con_sat_Add_1 a c⟩

noncomputable def con_drr_Ring_visit_1 (a : List SV) (c : List Ck) : Option CEff := match a, c with
  | [(.ptr 0 0), (.agg [(.v (.int .u64 x1)), (.v (.bool b1))])], [.blk 48 [(.wsl 1), (.v (.int .i64 x2)), (.v (.bool b2)), (.wsl 2)], .row (.ints 28 .u64 l1), .row (.ints 28 .u64 l2)] => some ⟨[lock Obl fun _ => ∃ r, lock F_drr_Ring_visit x1 b1 x2 b2 l1 l2 = some r], .many (Bool × Int × Bool × (List Int)) (fun r => lock F_drr_Ring_visit x1 b1 x2 b2 l1 l2 = some r) (fun | (u0, u1, u2, u3) => (.v (.bool u0))) (fun | (u0, u1, u2, u3) => [.to (.blk 48 [(.wsl 1), (.v (.int .i64 u1)), (.v (.bool u2)), (.wsl 2)]), .same, .to (.row (.ints 28 .u64 u3))])⟩
  | _, _ => none
noncomputable def con_drr_Ring_visit : Con := ⟨[none, none], fun a c => con_drr_Ring_visit_1 a c⟩

noncomputable def con_drr_Ring_Next_1 (a : List SV) (c : List Ck) : Option CEff := match a, c with
  | [(.ptr 0 0), (.rsl (.row 30 (.st [(.int .u64), .bool]) r1))], [.blk 48 [(.wsl 1), (.v (.int .i64 x1)), (.v (.bool b1)), (.wsl 2)], .row (.ints 28 .u64 l1), .row (.ints 28 .u64 l2)] => some ⟨[lock Obl fun _ => ∃ r, lock F_drr_Ring_Next r1 x1 b1 l1 l2 = some r], .many (Int × Int × Bool × (List Int)) (fun r => lock F_drr_Ring_Next r1 x1 b1 l1 l2 = some r) (fun | (u0, u1, u2, u3) => (.v (.int .i64 u0))) (fun | (u0, u1, u2, u3) => [.to (.blk 48 [(.wsl 1), (.v (.int .i64 u1)), (.v (.bool u2)), (.wsl 2)]), .same, .to (.row (.ints 28 .u64 u3))])⟩
  | _, _ => none
noncomputable def con_drr_Ring_Next : Con := ⟨[none, (some (.row 30 (.st [(.int .u64), .bool])))], fun a c => con_drr_Ring_Next_1 a c⟩

noncomputable def con_drr_copied_1 (a : List SV) (c : List Ck) : Option CEff := match a, c with
  | [(.agg [(.v (.int .i64 x1)), (.v (.bool b1)), (.wsl 0)])], [.row (.ints 28 .u64 l1)] => some ⟨[lock Obl fun _ => ∃ r, lock F_drr_copied x1 b1 l1 = some r], .many ((List Int)) (fun r => lock F_drr_copied x1 b1 l1 = some r) (fun | u0 => (.agg [(.v (.int .i64 x1)), (.v (.bool b1)), (.wsl 1)])) (fun | u0 => [.same, .to (.row (.ints 28 .u64 u0))])⟩
  | _, _ => none
noncomputable def con_drr_copied : Con := ⟨[none], fun a c => con_drr_copied_1 a c⟩

noncomputable def con_drr_Ring_State_1 (a : List SV) (c : List Ck) : Option CEff := match a, c with
  | [(.ptr 0 0)], [.blk 48 [(.wsl 1), (.v (.int .i64 x1)), (.v (.bool b1)), (.wsl 2)], .row (.ints 28 .u64 l1), .row (.ints 28 .u64 l2)] => some ⟨[lock Obl fun _ => ∃ r, lock F_drr_Ring_State x1 b1 l1 l2 = some r], .many ((List Int)) (fun r => lock F_drr_Ring_State x1 b1 l1 l2 = some r) (fun | u0 => (.agg [(.v (.int .i64 x1)), (.v (.bool b1)), (.wsl 3)])) (fun | u0 => [.same, .same, .same, .to (.row (.ints 28 .u64 u0))])⟩
  | _, _ => none
noncomputable def con_drr_Ring_State : Con := ⟨[none], fun a c => con_drr_Ring_State_1 a c⟩

noncomputable def con_drr_Ring_Restore_1 (a : List SV) (c : List Ck) : Option CEff := match a, c with
  | [(.ptr 0 0), (.agg [(.v (.int .i64 x1)), (.v (.bool b1)), (.wsl 1)])], [.blk 48 [(.wsl 2), (.v (.int .i64 x2)), (.v (.bool b2)), (.wsl 3)], .row (.ints 28 .u64 l1), .row (.ints 28 .u64 l2), .row (.ints 28 .u64 l3)] => some ⟨[lock Obl fun _ => ∃ r, lock F_drr_Ring_Restore x1 b1 x2 b2 l1 l2 l3 = some r], .many ((Unit) ⊕ ((List Int))) (fun r => lock F_drr_Ring_Restore x1 b1 x2 b2 l1 l2 l3 = some r) (fun | (.inl _) => (.v (.bool false)) | (.inr u0) => (.v (.bool true))) (fun | (.inl _) => [.same, .same, .same, .same] | (.inr u0) => [.to (.blk 48 [(.wsl 2), (.v (.int .i64 x1)), (.v (.bool b1)), (.wsl 4)]), .same, .same, .same, .to (.row (.ints 28 .u64 u0))])⟩
  | _, _ => none
noncomputable def con_drr_Ring_Restore_2 (a : List SV) (c : List Ck) : Option CEff := match a, c with
  | [(.ptr 0 0), (.agg [(.v (.int .i64 x1)), (.v (.bool b1)), .nsl])], [.blk 48 [(.wsl 1), (.v (.int .i64 x2)), (.v (.bool b2)), (.wsl 2)], .row (.ints 28 .u64 l1), .row (.ints 28 .u64 l2)] => some ⟨[lock Obl fun _ => ∃ r, lock F_drr_Ring_Restore_2 x1 b1 x2 b2 l1 l2 = some r], .many (Unit) (fun r => lock F_drr_Ring_Restore_2 x1 b1 x2 b2 l1 l2 = some r) (fun | _ => (.v (.bool false))) (fun | _ => [.same, .same, .same])⟩
  | _, _ => none
noncomputable def con_drr_Ring_Restore : Con := ⟨[none, none], fun a c => altC (con_drr_Ring_Restore_1 a c) (con_drr_Ring_Restore_2 a c)⟩

noncomputable def con_tollbarlaw24_awake_1 (a : List SV) (c : List Ck) : Option CEff := match a, c with
  | [], [] => some ⟨[lock Obl fun _ => ∃ r, lock F_tollbarlaw24_awake = some r], .many (Bool) (fun r => lock F_tollbarlaw24_awake = some r) (fun | u0 => (.v (.bool u0))) (fun | u0 => [])⟩
  | _, _ => none
noncomputable def con_tollbarlaw24_awake : Con := ⟨[], fun a c => con_tollbarlaw24_awake_1 a c⟩

noncomputable def con_tollbarlaw24_DrrGoes_1 (a : List SV) (c : List Ck) : Option CEff := match a, c with
  | [(.rsl (.ints 28 .u64 l1)), (.rsl (.row 27 (.row 30 (.st [(.int .u64), .bool])) r1))], [] => some ⟨[lock Obl fun _ => ∃ r, lock F_tollbarlaw24_DrrGoes l1 r1 = some r], .many (Bool) (fun r => lock F_tollbarlaw24_DrrGoes l1 r1 = some r) (fun | u0 => (.v (.bool u0))) (fun | u0 => [])⟩
  | _, _ => none
noncomputable def con_tollbarlaw24_DrrGoes : Con := ⟨[], fun a c => con_tollbarlaw24_DrrGoes_1 a c⟩

noncomputable def con_tollbarref24_Same_1 (a : List SV) (c : List Ck) : Option CEff := match a, c with
  | [(.rsl (.ints 28 .u64 l1)), (.rsl (.ints 28 .u64 l2))], [] => some ⟨[lock Obl fun _ => ∃ r, lock F_tollbarref24_Same l1 l2 = some r], .many (Bool) (fun r => lock F_tollbarref24_Same l1 l2 = some r) (fun | u0 => (.v (.bool u0))) (fun | u0 => [])⟩
  | _, _ => none
noncomputable def con_tollbarref24_Same : Con := ⟨[(some (.ints 28 .u64)), (some (.ints 28 .u64))], fun a c => con_tollbarref24_Same_1 a c⟩

noncomputable def con_tollbarlaw24_DrrStates_1 (a : List SV) (c : List Ck) : Option CEff := match a, c with
  | [(.rsl (.ints 28 .u64 l1)), (.rsl (.row 27 (.row 30 (.st [(.int .u64), .bool])) r1)), (.v (.int .u8 x1))], [] => some ⟨[lock Obl fun _ => ∃ r, lock F_tollbarlaw24_DrrStates l1 r1 x1 = some r], .many (Bool) (fun r => lock F_tollbarlaw24_DrrStates l1 r1 x1 = some r) (fun | u0 => (.v (.bool u0))) (fun | u0 => [])⟩
  | _, _ => none
noncomputable def con_tollbarlaw24_DrrStates : Con := ⟨[], fun a c => con_tollbarlaw24_DrrStates_1 a c⟩

noncomputable def con_tollbarlaw24_DrrFair_1 (a : List SV) (c : List Ck) : Option CEff := match a, c with
  | [(.rsl (.ints 36 .u16 l1)), (.rsl (.row 33 (.ints 36 .u16) r1)), (.rsl (.row 38 (.row 4 .bool) r2))], [] => some ⟨[lock Obl fun _ => ∃ r, lock F_tollbarlaw24_DrrFair l1 r1 r2 = some r], .many (Bool) (fun r => lock F_tollbarlaw24_DrrFair l1 r1 r2 = some r) (fun | u0 => (.v (.bool u0))) (fun | u0 => [])⟩
  | _, _ => none
noncomputable def con_tollbarlaw24_DrrFair : Con := ⟨[], fun a c => con_tollbarlaw24_DrrFair_1 a c⟩
end Go.Proofs.Ytmnloiadjaljdaa
end
section
/-
  The functions of this seat, made short (printed by a program of ours).
-/
set_option linter.unusedVariables false
set_option maxRecDepth 20000
namespace Go.Proofs.Ytmnloiadjaljdaa
open Go.RowKit

/-- tollbar/tollbarlaw24.DrrGoes -/
def ic_3 : IC := (.seq (.reg false [⟨some 4, none, [], .mv (.k (.v (.bool false)))⟩])
 (.seq (.reg false [⟨some 13, none, [], .call 6 []⟩,
  ⟨some 5, none, [], .mv (.t 13)⟩])
 (.seq (.seq (.reg false [⟨some 14, none, [], .mv (.t 5)⟩,
  ⟨some 15, none, [], .bnot (.t 14)⟩])
 (.cond (.t 15)
 (.seq (.reg false [⟨some 4, none, [], .mv (.k (.v (.bool false)))⟩])
 .ret)
 .skip))
 (.seq (.seq (.reg false [⟨some 16, none, [], .mv (.t 0)⟩,
  ⟨some 17, none, [], .len false (.t 16)⟩,
  ⟨some 18, none, [], .ib .gt .i64 (.t 17) (.k (.v (.int .i64 20)))⟩,
  ⟨some 19, none, [], .mv (.t 18)⟩,
  ⟨some 20, some (19, false), [], .mv (.t 1)⟩,
  ⟨some 21, some (19, false), [], .len false (.t 20)⟩,
  ⟨some 22, some (19, false), [], .ib .gt .i64 (.t 21) (.k (.v (.int .i64 120)))⟩,
  ⟨some 23, none, [], .pick (.t 19) (.k (.v (.bool true))) (.t 22)⟩])
 (.cond (.t 23)
 (.seq (.reg false [⟨some 4, none, [], .mv (.k (.v (.bool true)))⟩])
 .ret)
 .skip))
 (.seq (.reg false [⟨some 24, none, [], .mv (.t 0)⟩,
  ⟨some 25, none, [], .call 7 [(.t 24)]⟩,
  ⟨some 6, none, [], .mv (.t 25)⟩])
 (.seq (.seq (.reg false [⟨some 7, none, [], .mv (.k (.v (.int .i64 0)))⟩])
 (.block 0
 (.loop
 (.seq (.seq (.reg false [⟨some 26, none, [], .mv (.t 7)⟩,
  ⟨some 27, none, [], .mv (.t 1)⟩,
  ⟨some 28, none, [], .len false (.t 27)⟩,
  ⟨some 29, none, [], .ib .lt .i64 (.t 26) (.t 28)⟩])
 (.cond (.t 29)
 .skip
 (.exit 0)))
 (.seq (.block 1
 (.seq (.reg false [⟨some 32, none, [], .mv (.t 1)⟩,
  ⟨some 33, none, [], .mv (.t 7)⟩,
  ⟨some 34, none, [], .idx (.t 32) (.t 33) 1⟩,
  ⟨some 35, none, [], .ld (.t 34)⟩,
  ⟨some 8, none, [], .mv (.t 35)⟩])
 (.seq (.seq (.reg false [⟨some 36, none, [], .mv (.t 8)⟩,
  ⟨some 37, none, [], .len false (.t 36)⟩,
  ⟨some 38, none, [], .mv (.t 0)⟩,
  ⟨some 39, none, [], .len false (.t 38)⟩,
  ⟨some 40, none, [], .ib .ne .i64 (.t 37) (.t 39)⟩])
 (.cond (.t 40)
 (.seq (.reg false [⟨some 4, none, [], .mv (.k (.v (.bool true)))⟩])
 .ret)
 .skip))
 (.seq (.reg false [⟨some 9, none, [], .mv (.k (.v (.bool false)))⟩])
 (.seq (.seq (.reg false [⟨some 10, none, [], .mv (.k (.v (.int .i64 0)))⟩])
 (.block 2
 (.loop
 (.seq (.seq (.reg false [⟨some 41, none, [], .mv (.t 10)⟩,
  ⟨some 42, none, [], .mv (.t 8)⟩,
  ⟨some 43, none, [], .len false (.t 42)⟩,
  ⟨some 44, none, [], .ib .lt .i64 (.t 41) (.t 43)⟩])
 (.cond (.t 44)
 .skip
 (.exit 2)))
 (.seq (.block 3
 (.seq (.reg false [⟨some 47, none, [], .mv (.t 9)⟩,
  ⟨some 48, none, [], .mv (.t 47)⟩,
  ⟨some 49, some (48, false), [], .mv (.t 8)⟩,
  ⟨some 50, some (48, false), [], .mv (.t 10)⟩,
  ⟨some 51, some (48, false), [], .idx (.t 49) (.t 50) 2⟩,
  ⟨some 52, some (48, false), [], .fld (.t 51) 1⟩,
  ⟨some 53, some (48, false), [], .ld (.t 52)⟩,
  ⟨some 54, some (48, false), [], .mv (.t 53)⟩,
  ⟨some 55, some (54, true), [], .mv (.t 8)⟩,
  ⟨some 56, some (54, true), [], .mv (.t 10)⟩,
  ⟨some 57, some (54, true), [], .idx (.t 55) (.t 56) 2⟩,
  ⟨some 58, some (54, true), [], .fld (.t 57) 0⟩,
  ⟨some 59, some (54, true), [], .ld (.t 58)⟩,
  ⟨some 60, some (54, true), [], .ib .gt .u64 (.t 59) (.k (.v (.int .u64 0)))⟩,
  ⟨some 61, some (48, false), [], .pick (.t 54) (.t 60) (.k (.v (.bool false)))⟩,
  ⟨some 62, none, [], .pick (.t 48) (.k (.v (.bool true))) (.t 61)⟩,
  ⟨some 9, none, [], .mv (.t 62)⟩])
 (.seq (.reg false [⟨some 11, none, [], .mv (.k (.v (.int .i64 0)))⟩])
 (.block 4
 (.loop
 (.seq (.seq (.reg false [⟨some 63, none, [], .mv (.t 11)⟩,
  ⟨some 64, none, [], .mv (.t 0)⟩,
  ⟨some 65, none, [], .len false (.t 64)⟩,
  ⟨some 66, none, [], .ib .lt .i64 (.t 63) (.t 65)⟩])
 (.cond (.t 66)
 .skip
 (.exit 4)))
 (.seq (.block 5
 (.seq (.reg true [⟨some 69, none, [], .mv (.t 8)⟩,
  ⟨some 70, none, [], .mv (.t 10)⟩,
  ⟨some 71, none, [0, 1], .idx (.t 69) (.t 70) 2⟩,
  ⟨some 72, none, [2, 0, 1], .fld (.t 71) 0⟩,
  ⟨some 73, none, [3, 2, 0, 1], .ld (.t 72)⟩,
  ⟨some 74, none, [], .mv (.t 0)⟩,
  ⟨some 75, none, [], .mv (.t 11)⟩,
  ⟨some 76, none, [5, 6], .idx (.t 74) (.t 75) 1⟩,
  ⟨some 77, none, [7, 5, 6], .ld (.t 76)⟩,
  ⟨some 78, none, [4, 3, 2, 0, 1, 8, 7, 5, 6], .ib .gt .u64 (.t 73) (.t 77)⟩])
 (.cond (.t 78)
 (.seq (.reg false [⟨some 4, none, [], .mv (.k (.v (.bool true)))⟩])
 .ret)
 .skip)))
 (.reg false [⟨some 67, none, [], .mv (.t 11)⟩,
  ⟨some 68, none, [], .ib .add .i64 (.t 67) (.k (.v (.int .i64 1)))⟩,
  ⟨some 11, none, [], .mv (.t 68)⟩]))))))))
 (.reg false [⟨some 45, none, [], .mv (.t 10)⟩,
  ⟨some 46, none, [], .ib .add .i64 (.t 45) (.k (.v (.int .i64 1)))⟩,
  ⟨some 10, none, [], .mv (.t 46)⟩]))))))
 (.seq (.reg false [⟨some 79, none, [], .mv (.t 6)⟩,
  ⟨some 80, none, [], .mv (.t 8)⟩,
  ⟨some 81, none, [], .call 8 [(.t 79), (.t 80)]⟩,
  ⟨some 12, none, [], .mv (.t 81)⟩])
 (.seq (.reg false [⟨some 82, none, [], .mv (.t 12)⟩,
  ⟨some 83, none, [], .ib .ge .i64 (.t 82) (.k (.v (.int .i64 0)))⟩,
  ⟨some 84, none, [], .mv (.t 9)⟩,
  ⟨some 85, none, [], .bb true (.t 83) (.t 84)⟩,
  ⟨some 86, none, [], .mv (.t 85)⟩,
  ⟨some 87, some (86, false), [], .mv (.t 12)⟩,
  ⟨some 88, some (86, false), [], .mv (.t 8)⟩,
  ⟨some 89, some (86, false), [], .len false (.t 88)⟩,
  ⟨some 90, some (86, false), [], .ib .ge .i64 (.t 87) (.t 89)⟩,
  ⟨some 91, none, [], .pick (.t 86) (.k (.v (.bool true))) (.t 90)⟩,
  ⟨some 92, none, [], .mv (.t 91)⟩,
  ⟨some 93, some (92, false), [], .mv (.t 12)⟩,
  ⟨some 94, some (92, false), [], .ib .ge .i64 (.t 93) (.k (.v (.int .i64 0)))⟩,
  ⟨some 95, some (92, false), [], .mv (.t 94)⟩,
  ⟨some 96, some (95, true), [], .mv (.t 8)⟩,
  ⟨some 97, some (95, true), [], .mv (.t 12)⟩,
  ⟨some 98, some (95, true), [], .idx (.t 96) (.t 97) 2⟩,
  ⟨some 99, some (95, true), [], .fld (.t 98) 1⟩,
  ⟨some 100, some (95, true), [], .ld (.t 99)⟩,
  ⟨some 101, some (95, true), [], .bnot (.t 100)⟩,
  ⟨some 102, some (95, true), [], .mv (.t 101)⟩,
  ⟨some 103, some (102, false), [], .mv (.t 8)⟩,
  ⟨some 104, some (102, false), [], .mv (.t 12)⟩,
  ⟨some 105, some (102, false), [], .idx (.t 103) (.t 104) 2⟩,
  ⟨some 106, some (102, false), [], .fld (.t 105) 0⟩,
  ⟨some 107, some (102, false), [], .ld (.t 106)⟩,
  ⟨some 108, some (102, false), [], .ib .eq .u64 (.t 107) (.k (.v (.int .u64 0)))⟩,
  ⟨some 109, some (95, true), [], .pick (.t 102) (.k (.v (.bool true))) (.t 108)⟩,
  ⟨some 110, some (92, false), [], .pick (.t 95) (.t 109) (.k (.v (.bool false)))⟩,
  ⟨some 111, none, [], .pick (.t 92) (.k (.v (.bool true))) (.t 110)⟩])
 (.cond (.t 111)
 (.seq (.reg false [⟨some 4, none, [], .mv (.k (.v (.bool false)))⟩])
 .ret)
 .skip))))))))
 (.reg false [⟨some 30, none, [], .mv (.t 7)⟩,
  ⟨some 31, none, [], .ib .add .i64 (.t 30) (.k (.v (.int .i64 1)))⟩,
  ⟨some 7, none, [], .mv (.t 31)⟩]))))))
 (.seq (.reg false [⟨some 4, none, [], .mv (.k (.v (.bool true)))⟩])
 .ret)))))))
theorem comp_3 : compF Try.prog Try.f3 = some (ic_3, [.t 4], 112) := by kernel_rfl
-- ros 3 [(some (.ints 28 .u64)), (some (.row 27 (.row 30 (.st [(.int .u64), .bool]))))] TYS [(.ints 28 .u64), (.row 27 (.row 30 (.st [(.int .u64), .bool])))]

/-- tollbar/tollbarlaw24.DrrFair -/
def ic_4 : IC := (.seq (.reg false [⟨some 6, none, [], .mv (.k (.v (.bool false)))⟩])
 (.seq (.reg false [⟨some 26, none, [], .call 6 []⟩,
  ⟨some 7, none, [], .mv (.t 26)⟩])
 (.seq (.seq (.reg false [⟨some 27, none, [], .mv (.t 7)⟩,
  ⟨some 28, none, [], .bnot (.t 27)⟩])
 (.cond (.t 28)
 (.seq (.reg false [⟨some 6, none, [], .mv (.k (.v (.bool false)))⟩])
 .ret)
 .skip))
 (.seq (.seq (.reg false [⟨some 29, none, [], .mv (.t 0)⟩,
  ⟨some 30, none, [], .len false (.t 29)⟩,
  ⟨some 31, none, [], .ib .lt .i64 (.t 30) (.k (.v (.int .i64 2)))⟩,
  ⟨some 32, none, [], .mv (.t 31)⟩,
  ⟨some 33, some (32, false), [], .mv (.t 0)⟩,
  ⟨some 34, some (32, false), [], .len false (.t 33)⟩,
  ⟨some 35, some (32, false), [], .ib .gt .i64 (.t 34) (.k (.v (.int .i64 5)))⟩,
  ⟨some 36, none, [], .pick (.t 32) (.k (.v (.bool true))) (.t 35)⟩,
  ⟨some 37, none, [], .mv (.t 36)⟩,
  ⟨some 38, some (37, false), [], .mv (.t 1)⟩,
  ⟨some 39, some (37, false), [], .len false (.t 38)⟩,
  ⟨some 40, some (37, false), [], .ib .gt .i64 (.t 39) (.k (.v (.int .i64 60)))⟩,
  ⟨some 41, none, [], .pick (.t 37) (.k (.v (.bool true))) (.t 40)⟩,
  ⟨some 42, none, [], .mv (.t 41)⟩,
  ⟨some 43, some (42, false), [], .mv (.t 2)⟩,
  ⟨some 44, some (42, false), [], .len false (.t 43)⟩,
  ⟨some 45, some (42, false), [], .mv (.t 1)⟩,
  ⟨some 46, some (42, false), [], .len false (.t 45)⟩,
  ⟨some 47, some (42, false), [], .ib .lt .i64 (.t 44) (.t 46)⟩,
  ⟨some 48, none, [], .pick (.t 42) (.k (.v (.bool true))) (.t 47)⟩])
 (.cond (.t 48)
 (.seq (.reg false [⟨some 6, none, [], .mv (.k (.v (.bool true)))⟩])
 .ret)
 .skip))
 (.seq (.reg false [⟨some 8, none, [], .mv (.k (.v (.int .u64 1500)))⟩])
 (.seq (.reg false [⟨some 9, none, [], .mv (.k .nsl)⟩])
 (.seq (.seq (.reg false [⟨some 10, none, [], .mv (.k (.v (.int .i64 0)))⟩])
 (.block 0
 (.loop
 (.seq (.seq (.reg false [⟨some 49, none, [], .mv (.t 10)⟩,
  ⟨some 50, none, [], .mv (.t 0)⟩,
  ⟨some 51, none, [], .len false (.t 50)⟩,
  ⟨some 52, none, [], .ib .lt .i64 (.t 49) (.t 51)⟩])
 (.cond (.t 52)
 .skip
 (.exit 0)))
 (.seq (.block 1
 (.reg false [⟨some 55, none, [], .mv (.t 9)⟩,
  ⟨some 56, none, [], .mv (.t 8)⟩,
  ⟨some 57, none, [], .mv (.t 0)⟩,
  ⟨some 58, none, [], .mv (.t 10)⟩,
  ⟨some 59, none, [], .idx (.t 57) (.t 58) 1⟩,
  ⟨some 60, none, [], .ld (.t 59)⟩,
  ⟨some 61, none, [], .conv .u64 (.t 60)⟩,
  ⟨some 62, none, [], .ib .add .u64 (.t 56) (.t 61)⟩,
  ⟨some 63, none, [], .bsl (.ints 28 .u64) 1 [(.v (.int .u64 0))] [(0, 1, (.t 62))]⟩,
  ⟨some 64, none, [], .app (.ints 28 .u64) 8 (.t 55) (.t 63)⟩,
  ⟨some 9, none, [], .mv (.t 64)⟩]))
 (.reg false [⟨some 53, none, [], .mv (.t 10)⟩,
  ⟨some 54, none, [], .ib .add .i64 (.t 53) (.k (.v (.int .i64 1)))⟩,
  ⟨some 10, none, [], .mv (.t 54)⟩]))))))
 (.seq (.reg false [⟨some 65, none, [], .mv (.t 9)⟩,
  ⟨some 66, none, [], .call 7 [(.t 65)]⟩,
  ⟨some 11, none, [], .mv (.t 66)⟩])
 (.seq (.reg false [⟨some 67, none, [], .mv (.t 9)⟩,
  ⟨some 68, none, [], .len false (.t 67)⟩,
  ⟨some 69, none, [], .mks (.ints 28 .u64) 8 (.t 68) (.t 68)⟩,
  ⟨some 12, none, [], .mv (.t 69)⟩])
 (.seq (.reg false [⟨some 13, none, [], .mv (.k .nsl)⟩])
 (.seq (.reg false [⟨some 14, none, [], .mv (.k .nsl)⟩])
 (.seq (.seq (.reg false [⟨some 15, none, [], .mv (.k (.v (.int .i64 0)))⟩])
 (.block 2
 (.loop
 (.seq (.seq (.reg false [⟨some 70, none, [], .mv (.t 15)⟩,
  ⟨some 71, none, [], .mv (.t 1)⟩,
  ⟨some 72, none, [], .len false (.t 71)⟩,
  ⟨some 73, none, [], .ib .lt .i64 (.t 70) (.t 72)⟩])
 (.cond (.t 73)
 .skip
 (.exit 2)))
 (.seq (.block 3
 (.seq (.reg false [⟨some 16, none, [], .mv (.k .nsl)⟩])
 (.seq (.seq (.reg false [⟨some 17, none, [], .mv (.k (.v (.int .i64 0)))⟩])
 (.block 4
 (.loop
 (.seq (.seq (.reg false [⟨some 76, none, [], .mv (.t 17)⟩,
  ⟨some 77, none, [], .mv (.t 9)⟩,
  ⟨some 78, none, [], .len false (.t 77)⟩,
  ⟨some 79, none, [], .ib .lt .i64 (.t 76) (.t 78)⟩])
 (.cond (.t 79)
 .skip
 (.exit 4)))
 (.seq (.block 5
 (.seq (.seq (.reg false [⟨some 82, none, [], .mv (.t 12)⟩,
  ⟨some 83, none, [], .mv (.t 17)⟩,
  ⟨some 84, none, [], .idx (.t 82) (.t 83) 1⟩,
  ⟨some 85, none, [], .ld (.t 84)⟩,
  ⟨some 86, none, [], .ib .eq .u64 (.t 85) (.k (.v (.int .u64 0)))⟩,
  ⟨some 87, none, [], .mv (.t 86)⟩,
  ⟨some 88, some (87, true), [], .mv (.t 17)⟩,
  ⟨some 89, some (87, true), [], .mv (.t 1)⟩,
  ⟨some 90, some (87, true), [], .mv (.t 15)⟩,
  ⟨some 91, some (87, true), [], .idx (.t 89) (.t 90) 1⟩,
  ⟨some 92, some (87, true), [], .ld (.t 91)⟩,
  ⟨some 93, some (87, true), [], .len false (.t 92)⟩,
  ⟨some 94, some (87, true), [], .ib .lt .i64 (.t 88) (.t 93)⟩,
  ⟨some 95, none, [], .pick (.t 87) (.t 94) (.k (.v (.bool false)))⟩])
 (.cond (.t 95)
 (.reg false [⟨some 96, none, [], .mv (.t 12)⟩,
  ⟨some 97, none, [], .mv (.t 17)⟩,
  ⟨some 98, none, [], .mv (.t 1)⟩,
  ⟨some 99, none, [], .mv (.t 15)⟩,
  ⟨some 100, none, [], .idx (.t 98) (.t 99) 1⟩,
  ⟨some 101, none, [], .ld (.t 100)⟩,
  ⟨some 102, none, [], .mv (.t 17)⟩,
  ⟨some 103, none, [], .idx (.t 101) (.t 102) 1⟩,
  ⟨some 104, none, [], .ld (.t 103)⟩,
  ⟨some 105, none, [], .conv .u64 (.t 104)⟩,
  ⟨some 106, none, [], .mv (.t 8)⟩,
  ⟨some 107, none, [], .ib .rem .u64 (.t 105) (.t 106)⟩,
  ⟨some 108, none, [], .ib .add .u64 (.t 107) (.k (.v (.int .u64 1)))⟩,
  ⟨some 109, none, [], .idx (.t 96) (.t 97) 1⟩,
  ⟨none, none, [], .st (.t 109) (.t 108) 1⟩])
 .skip))
 (.seq (.seq (.reg false [⟨some 110, none, [], .mv (.t 12)⟩,
  ⟨some 111, none, [], .mv (.t 17)⟩,
  ⟨some 112, none, [], .idx (.t 110) (.t 111) 1⟩,
  ⟨some 113, none, [], .ld (.t 112)⟩,
  ⟨some 114, none, [], .ib .eq .u64 (.t 113) (.k (.v (.int .u64 0)))⟩])
 (.cond (.t 114)
 (.reg false [⟨some 115, none, [], .mv (.t 12)⟩,
  ⟨some 116, none, [], .mv (.t 17)⟩,
  ⟨some 117, none, [], .idx (.t 115) (.t 116) 1⟩,
  ⟨none, none, [], .st (.t 117) (.k (.v (.int .u64 700))) 1⟩])
 .skip))
 (.seq (.reg false [⟨some 118, none, [], .mv (.t 17)⟩,
  ⟨some 119, none, [], .ib .lt .i64 (.t 118) (.k (.v (.int .i64 2)))⟩,
  ⟨some 120, none, [], .mv (.t 119)⟩,
  ⟨some 121, some (120, false), [], .mv (.t 17)⟩,
  ⟨some 122, some (120, false), [], .mv (.t 2)⟩,
  ⟨some 123, some (120, false), [], .mv (.t 15)⟩,
  ⟨some 124, some (120, false), [], .idx (.t 122) (.t 123) 1⟩,
  ⟨some 125, some (120, false), [], .ld (.t 124)⟩,
  ⟨some 126, some (120, false), [], .len false (.t 125)⟩,
  ⟨some 127, some (120, false), [], .ib .lt .i64 (.t 121) (.t 126)⟩,
  ⟨some 128, some (120, false), [], .mv (.t 127)⟩,
  ⟨some 129, some (128, true), [], .mv (.t 2)⟩,
  ⟨some 130, some (128, true), [], .mv (.t 15)⟩,
  ⟨some 131, some (128, true), [], .idx (.t 129) (.t 130) 1⟩,
  ⟨some 132, some (128, true), [], .ld (.t 131)⟩,
  ⟨some 133, some (128, true), [], .mv (.t 17)⟩,
  ⟨some 134, some (128, true), [], .idx (.t 132) (.t 133) 1⟩,
  ⟨some 135, some (128, true), [], .ld (.t 134)⟩,
  ⟨some 136, some (120, false), [], .pick (.t 128) (.t 135) (.k (.v (.bool false)))⟩,
  ⟨some 137, none, [], .pick (.t 120) (.k (.v (.bool true))) (.t 136)⟩,
  ⟨some 18, none, [], .mv (.t 137)⟩])
 (.reg false [⟨some 138, none, [], .mv (.t 16)⟩,
  ⟨some 139, none, [], .mv (.t 12)⟩,
  ⟨some 140, none, [], .mv (.t 17)⟩,
  ⟨some 141, none, [], .idx (.t 139) (.t 140) 1⟩,
  ⟨some 142, none, [], .ld (.t 141)⟩,
  ⟨some 143, none, [], .mv (.t 18)⟩,
  ⟨some 144, none, [], .build [(.v (.int .u64 0)), (.v (.bool false))] [(0, 1, (.t 142)), (1, 1, (.t 143))]⟩,
  ⟨some 145, none, [], .bsl (.row 30 (.st [(.int .u64), .bool])) 1 [(.v (.int .u64 0)), (.v (.bool false))] [(0, 2, (.t 144))]⟩,
  ⟨some 146, none, [], .app (.row 30 (.st [(.int .u64), .bool])) 16 (.t 138) (.t 145)⟩,
  ⟨some 16, none, [], .mv (.t 146)⟩])))))
 (.reg false [⟨some 80, none, [], .mv (.t 17)⟩,
  ⟨some 81, none, [], .ib .add .i64 (.t 80) (.k (.v (.int .i64 1)))⟩,
  ⟨some 17, none, [], .mv (.t 81)⟩]))))))
 (.seq (.reg false [⟨some 147, none, [], .mv (.t 11)⟩,
  ⟨some 148, none, [], .mv (.t 16)⟩,
  ⟨some 149, none, [], .call 8 [(.t 147), (.t 148)]⟩,
  ⟨some 19, none, [], .mv (.t 149)⟩])
 (.seq (.seq (.reg false [⟨some 150, none, [], .mv (.t 19)⟩,
  ⟨some 151, none, [], .ib .lt .i64 (.t 150) (.k (.v (.int .i64 0)))⟩,
  ⟨some 152, none, [], .mv (.t 151)⟩,
  ⟨some 153, some (152, false), [], .mv (.t 19)⟩,
  ⟨some 154, some (152, false), [], .mv (.t 9)⟩,
  ⟨some 155, some (152, false), [], .len false (.t 154)⟩,
  ⟨some 156, some (152, false), [], .ib .ge .i64 (.t 153) (.t 155)⟩,
  ⟨some 157, none, [], .pick (.t 152) (.k (.v (.bool true))) (.t 156)⟩])
 (.cond (.t 157)
 (.seq (.reg false [⟨some 6, none, [], .mv (.k (.v (.bool false)))⟩])
 .ret)
 .skip))
 (.seq (.reg false [⟨some 158, none, [], .mv (.t 13)⟩,
  ⟨some 159, none, [], .mv (.t 19)⟩,
  ⟨some 160, none, [], .bsl (.ints 3 .i64) 1 [(.v (.int .i64 0))] [(0, 1, (.t 159))]⟩,
  ⟨some 161, none, [], .app (.ints 3 .i64) 8 (.t 158) (.t 160)⟩,
  ⟨some 13, none, [], .mv (.t 161)⟩])
 (.seq (.reg false [⟨some 162, none, [], .mv (.t 14)⟩,
  ⟨some 163, none, [], .mv (.t 12)⟩,
  ⟨some 164, none, [], .mv (.t 19)⟩,
  ⟨some 165, none, [], .idx (.t 163) (.t 164) 1⟩,
  ⟨some 166, none, [], .ld (.t 165)⟩,
  ⟨some 167, none, [], .bsl (.ints 28 .u64) 1 [(.v (.int .u64 0))] [(0, 1, (.t 166))]⟩,
  ⟨some 168, none, [], .app (.ints 28 .u64) 8 (.t 162) (.t 167)⟩,
  ⟨some 14, none, [], .mv (.t 168)⟩])
 (.reg false [⟨some 169, none, [], .mv (.t 12)⟩,
  ⟨some 170, none, [], .mv (.t 19)⟩,
  ⟨some 171, none, [], .idx (.t 169) (.t 170) 1⟩,
  ⟨none, none, [], .st (.t 171) (.k (.v (.int .u64 0))) 1⟩]))))))))
 (.reg false [⟨some 74, none, [], .mv (.t 15)⟩,
  ⟨some 75, none, [], .ib .add .i64 (.t 74) (.k (.v (.int .i64 1)))⟩,
  ⟨some 15, none, [], .mv (.t 75)⟩]))))))
 (.seq (.seq (.reg false [⟨some 20, none, [], .mv (.k (.v (.int .i64 0)))⟩])
 (.block 6
 (.loop
 (.seq (.seq (.reg false [⟨some 172, none, [], .mv (.t 20)⟩,
  ⟨some 173, none, [], .mv (.t 13)⟩,
  ⟨some 174, none, [], .len false (.t 173)⟩,
  ⟨some 175, none, [], .ib .lt .i64 (.t 172) (.t 174)⟩])
 (.cond (.t 175)
 .skip
 (.exit 6)))
 (.seq (.block 7
 (.seq (.reg false [⟨some 21, none, [], .mv (.k (.v (.int .u64 0)))⟩])
 (.seq (.reg false [⟨some 22, none, [], .mv (.k (.v (.int .u64 0)))⟩])
 (.seq (.reg false [⟨some 178, none, [], .mv (.t 20)⟩,
  ⟨some 23, none, [], .mv (.t 178)⟩])
 (.block 8
 (.loop
 (.seq (.seq (.reg false [⟨some 179, none, [], .mv (.t 23)⟩,
  ⟨some 180, none, [], .mv (.t 13)⟩,
  ⟨some 181, none, [], .len false (.t 180)⟩,
  ⟨some 182, none, [], .ib .lt .i64 (.t 179) (.t 181)⟩])
 (.cond (.t 182)
 .skip
 (.exit 8)))
 (.seq (.block 9
 (.seq (.seq (.reg false [⟨some 185, none, [], .mv (.t 13)⟩,
  ⟨some 186, none, [], .mv (.t 23)⟩,
  ⟨some 187, none, [], .idx (.t 185) (.t 186) 1⟩,
  ⟨some 188, none, [], .ld (.t 187)⟩,
  ⟨some 189, none, [], .ib .eq .i64 (.t 188) (.k (.v (.int .i64 0)))⟩])
 (.cond (.t 189)
 (.reg false [⟨some 190, none, [], .mv (.t 21)⟩,
  ⟨some 191, none, [], .mv (.t 14)⟩,
  ⟨some 192, none, [], .mv (.t 23)⟩,
  ⟨some 193, none, [], .idx (.t 191) (.t 192) 1⟩,
  ⟨some 194, none, [], .ld (.t 193)⟩,
  ⟨some 195, none, [], .ib .add .u64 (.t 190) (.t 194)⟩,
  ⟨some 21, none, [], .mv (.t 195)⟩])
 .skip))
 (.seq (.seq (.reg false [⟨some 196, none, [], .mv (.t 13)⟩,
  ⟨some 197, none, [], .mv (.t 23)⟩,
  ⟨some 198, none, [], .idx (.t 196) (.t 197) 1⟩,
  ⟨some 199, none, [], .ld (.t 198)⟩,
  ⟨some 200, none, [], .ib .eq .i64 (.t 199) (.k (.v (.int .i64 1)))⟩])
 (.cond (.t 200)
 (.reg false [⟨some 201, none, [], .mv (.t 22)⟩,
  ⟨some 202, none, [], .mv (.t 14)⟩,
  ⟨some 203, none, [], .mv (.t 23)⟩,
  ⟨some 204, none, [], .idx (.t 202) (.t 203) 1⟩,
  ⟨some 205, none, [], .ld (.t 204)⟩,
  ⟨some 206, none, [], .ib .add .u64 (.t 201) (.t 205)⟩,
  ⟨some 22, none, [], .mv (.t 206)⟩])
 .skip))
 (.seq (.reg false [⟨some 207, none, [], .mv (.t 21)⟩,
  ⟨some 208, none, [], .mv (.t 9)⟩,
  ⟨some 209, none, [], .idx (.t 208) (.k (.v (.int .i64 1))) 1⟩,
  ⟨some 210, none, [], .ld (.t 209)⟩,
  ⟨some 211, none, [], .ib .mul .u64 (.t 207) (.t 210)⟩,
  ⟨some 24, none, [], .mv (.t 211)⟩])
 (.seq (.reg false [⟨some 212, none, [], .mv (.t 22)⟩,
  ⟨some 213, none, [], .mv (.t 9)⟩,
  ⟨some 214, none, [], .idx (.t 213) (.k (.v (.int .i64 0))) 1⟩,
  ⟨some 215, none, [], .ld (.t 214)⟩,
  ⟨some 216, none, [], .ib .mul .u64 (.t 212) (.t 215)⟩,
  ⟨some 25, none, [], .mv (.t 216)⟩])
 (.seq (.reg true [⟨some 217, none, [], .mv (.t 24)⟩,
  ⟨some 218, none, [], .mv (.t 25)⟩,
  ⟨some 219, none, [0, 1], .mx (.t 217) (.t 218)⟩,
  ⟨some 220, none, [], .mv (.t 24)⟩,
  ⟨some 221, none, [], .mv (.t 25)⟩,
  ⟨some 222, none, [3, 4], .mn (.t 220) (.t 221)⟩,
  ⟨some 223, none, [2, 0, 1, 5, 3, 4], .ib .sub .u64 (.t 219) (.t 222)⟩,
  ⟨some 224, none, [], .mv (.t 9)⟩,
  ⟨some 225, none, [7], .idx (.t 224) (.k (.v (.int .i64 0))) 1⟩,
  ⟨some 226, none, [8, 7], .ld (.t 225)⟩,
  ⟨some 227, none, [], .mv (.t 9)⟩,
  ⟨some 228, none, [10], .idx (.t 227) (.k (.v (.int .i64 1))) 1⟩,
  ⟨some 229, none, [11, 10], .ld (.t 228)⟩,
  ⟨some 230, none, [9, 8, 7, 12, 11, 10], .ib .mul .u64 (.t 226) (.t 229)⟩,
  ⟨some 231, none, [], .mv (.t 8)⟩,
  ⟨some 232, none, [], .mv (.t 9)⟩,
  ⟨some 233, none, [15], .idx (.t 232) (.k (.v (.int .i64 0))) 1⟩,
  ⟨some 234, none, [16, 15], .ld (.t 233)⟩,
  ⟨some 235, none, [], .mv (.t 9)⟩,
  ⟨some 236, none, [18], .idx (.t 235) (.k (.v (.int .i64 1))) 1⟩,
  ⟨some 237, none, [19, 18], .ld (.t 236)⟩,
  ⟨some 238, none, [17, 16, 15, 20, 19, 18], .ib .add .u64 (.t 234) (.t 237)⟩,
  ⟨some 239, none, [14, 21, 17, 16, 15, 20, 19, 18], .ib .mul .u64 (.t 231) (.t 238)⟩,
  ⟨some 240, none, [13, 9, 8, 7, 12, 11, 10, 22, 14, 21, 17, 16, 15, 20, 19, 18], .ib .add .u64 (.t 230) (.t 239)⟩,
  ⟨some 241, none, [6, 2, 0, 1, 5, 3, 4, 23, 13, 9, 8, 7, 12, 11, 10, 22, 14, 21, 17, 16, 15, 20, 19, 18], .ib .ge .u64 (.t 223) (.t 240)⟩])
 (.cond (.t 241)
 (.seq (.reg false [⟨some 6, none, [], .mv (.k (.v (.bool false)))⟩])
 .ret)
 .skip)))))))
 (.reg false [⟨some 183, none, [], .mv (.t 23)⟩,
  ⟨some 184, none, [], .ib .add .i64 (.t 183) (.k (.v (.int .i64 1)))⟩,
  ⟨some 23, none, [], .mv (.t 184)⟩])))))))))
 (.reg false [⟨some 176, none, [], .mv (.t 20)⟩,
  ⟨some 177, none, [], .ib .add .i64 (.t 176) (.k (.v (.int .i64 1)))⟩,
  ⟨some 20, none, [], .mv (.t 177)⟩]))))))
 (.seq (.reg false [⟨some 6, none, [], .mv (.k (.v (.bool true)))⟩])
 .ret))))))))))))))
theorem comp_4 : compF Try.prog Try.f4 = some (ic_4, [.t 6], 242) := by kernel_rfl
-- ros 4 [(some (.ints 36 .u16)), (some (.row 33 (.ints 36 .u16))), (some (.row 38 (.row 4 .bool)))] TYS [(.ints 36 .u16), (.row 33 (.ints 36 .u16)), (.row 38 (.row 4 .bool))]

/-- tollbar/tollbarlaw24.DrrStates -/
def ic_5 : IC := (.seq (.reg false [⟨some 6, none, [], .mv (.k (.v (.bool false)))⟩])
 (.seq (.reg false [⟨some 17, none, [], .call 6 []⟩,
  ⟨some 7, none, [], .mv (.t 17)⟩])
 (.seq (.seq (.reg false [⟨some 18, none, [], .mv (.t 7)⟩,
  ⟨some 19, none, [], .bnot (.t 18)⟩])
 (.cond (.t 19)
 (.seq (.reg false [⟨some 6, none, [], .mv (.k (.v (.bool false)))⟩])
 .ret)
 .skip))
 (.seq (.seq (.reg false [⟨some 20, none, [], .mv (.t 0)⟩,
  ⟨some 21, none, [], .len false (.t 20)⟩,
  ⟨some 22, none, [], .ib .gt .i64 (.t 21) (.k (.v (.int .i64 20)))⟩,
  ⟨some 23, none, [], .mv (.t 22)⟩,
  ⟨some 24, some (23, false), [], .mv (.t 1)⟩,
  ⟨some 25, some (23, false), [], .len false (.t 24)⟩,
  ⟨some 26, some (23, false), [], .ib .gt .i64 (.t 25) (.k (.v (.int .i64 120)))⟩,
  ⟨some 27, none, [], .pick (.t 23) (.k (.v (.bool true))) (.t 26)⟩])
 (.cond (.t 27)
 (.seq (.reg false [⟨some 6, none, [], .mv (.k (.v (.bool true)))⟩])
 .ret)
 .skip))
 (.seq (.reg false [⟨some 28, none, [], .mv (.t 0)⟩,
  ⟨some 29, none, [], .call 7 [(.t 28)]⟩,
  ⟨some 8, none, [], .mv (.t 29)⟩])
 (.seq (.reg false [⟨some 30, none, [], .mv (.t 0)⟩,
  ⟨some 31, none, [], .call 7 [(.t 30)]⟩,
  ⟨some 9, none, [], .mv (.t 31)⟩])
 (.seq (.reg false [⟨some 32, none, [], .mv (.t 2)⟩,
  ⟨some 33, none, [], .conv .i64 (.t 32)⟩,
  ⟨some 34, none, [], .mv (.t 1)⟩,
  ⟨some 35, none, [], .len false (.t 34)⟩,
  ⟨some 36, none, [], .ib .add .i64 (.t 35) (.k (.v (.int .i64 1)))⟩,
  ⟨some 37, none, [], .ib .rem .i64 (.t 33) (.t 36)⟩,
  ⟨some 10, none, [], .mv (.t 37)⟩])
 (.seq (.seq (.reg false [⟨some 11, none, [], .mv (.k (.v (.int .i64 0)))⟩])
 (.block 0
 (.loop
 (.seq (.seq (.reg false [⟨some 38, none, [], .mv (.t 11)⟩,
  ⟨some 39, none, [], .mv (.t 10)⟩,
  ⟨some 40, none, [], .ib .lt .i64 (.t 38) (.t 39)⟩])
 (.cond (.t 40)
 .skip
 (.exit 0)))
 (.seq (.block 1
 (.seq (.seq (.reg false [⟨some 43, none, [], .mv (.t 1)⟩,
  ⟨some 44, none, [], .mv (.t 11)⟩,
  ⟨some 45, none, [], .idx (.t 43) (.t 44) 1⟩,
  ⟨some 46, none, [], .ld (.t 45)⟩,
  ⟨some 47, none, [], .len false (.t 46)⟩,
  ⟨some 48, none, [], .ib .gt .i64 (.t 47) (.k (.v (.int .i64 40)))⟩])
 (.cond (.t 48)
 (.seq (.reg false [⟨some 6, none, [], .mv (.k (.v (.bool true)))⟩])
 .ret)
 .skip))
 (.reg false [⟨some 49, none, [], .mv (.t 8)⟩,
  ⟨some 50, none, [], .mv (.t 1)⟩,
  ⟨some 51, none, [], .mv (.t 11)⟩,
  ⟨some 52, none, [], .idx (.t 50) (.t 51) 1⟩,
  ⟨some 53, none, [], .ld (.t 52)⟩,
  ⟨some 54, none, [], .call 8 [(.t 49), (.t 53)]⟩])))
 (.reg false [⟨some 41, none, [], .mv (.t 11)⟩,
  ⟨some 42, none, [], .ib .add .i64 (.t 41) (.k (.v (.int .i64 1)))⟩,
  ⟨some 11, none, [], .mv (.t 42)⟩]))))))
 (.seq (.reg false [⟨some 55, none, [], .mv (.t 8)⟩,
  ⟨some 56, none, [], .call 9 [(.t 55)]⟩,
  ⟨some 12, none, [], .new 41 [(.v (.int .i64 0)), (.v (.bool false)), .nsl]⟩,
  ⟨none, none, [], .st (.t 12) (.t 56) 3⟩])
 (.seq (.seq (.reg false [⟨some 57, none, [], .mv (.t 9)⟩,
  ⟨some 58, none, [], .lda (.t 12) 3⟩,
  ⟨some 59, none, [], .call 10 [(.t 57), (.t 58)]⟩,
  ⟨some 60, none, [], .bnot (.t 59)⟩])
 (.cond (.t 60)
 (.seq (.reg false [⟨some 6, none, [], .mv (.k (.v (.bool false)))⟩])
 .ret)
 .skip))
 (.seq (.seq (.reg false [⟨some 13, none, [], .mv (.k (.v (.int .i64 0)))⟩])
 (.block 2
 (.loop
 (.seq (.seq (.reg false [⟨some 61, none, [], .mv (.t 13)⟩,
  ⟨some 62, none, [], .fld (.t 12) 2⟩,
  ⟨some 63, none, [], .ld (.t 62)⟩,
  ⟨some 64, none, [], .len false (.t 63)⟩,
  ⟨some 65, none, [], .ib .lt .i64 (.t 61) (.t 64)⟩])
 (.cond (.t 65)
 .skip
 (.exit 2)))
 (.seq (.block 3
 (.reg false [⟨some 68, none, [], .fld (.t 12) 2⟩,
  ⟨some 69, none, [], .ld (.t 68)⟩,
  ⟨some 70, none, [], .mv (.t 13)⟩,
  ⟨some 71, none, [], .idx (.t 69) (.t 70) 1⟩,
  ⟨none, none, [], .st (.t 71) (.k (.v (.int .u64 77))) 1⟩]))
 (.reg false [⟨some 66, none, [], .mv (.t 13)⟩,
  ⟨some 67, none, [], .ib .add .i64 (.t 66) (.k (.v (.int .i64 1)))⟩,
  ⟨some 13, none, [], .mv (.t 67)⟩]))))))
 (.seq (.seq (.reg false [⟨some 72, none, [], .mv (.t 10)⟩,
  ⟨some 14, none, [], .mv (.t 72)⟩])
 (.block 4
 (.loop
 (.seq (.seq (.reg false [⟨some 73, none, [], .mv (.t 14)⟩,
  ⟨some 74, none, [], .mv (.t 1)⟩,
  ⟨some 75, none, [], .len false (.t 74)⟩,
  ⟨some 76, none, [], .ib .lt .i64 (.t 73) (.t 75)⟩])
 (.cond (.t 76)
 .skip
 (.exit 4)))
 (.seq (.block 5
 (.seq (.seq (.reg false [⟨some 79, none, [], .mv (.t 1)⟩,
  ⟨some 80, none, [], .mv (.t 14)⟩,
  ⟨some 81, none, [], .idx (.t 79) (.t 80) 1⟩,
  ⟨some 82, none, [], .ld (.t 81)⟩,
  ⟨some 83, none, [], .len false (.t 82)⟩,
  ⟨some 84, none, [], .ib .gt .i64 (.t 83) (.k (.v (.int .i64 40)))⟩])
 (.cond (.t 84)
 (.seq (.reg false [⟨some 6, none, [], .mv (.k (.v (.bool true)))⟩])
 .ret)
 .skip))
 (.seq (.reg true [⟨some 85, none, [], .mv (.t 8)⟩,
  ⟨some 86, none, [], .mv (.t 1)⟩,
  ⟨some 87, none, [], .mv (.t 14)⟩,
  ⟨some 88, none, [1, 2], .idx (.t 86) (.t 87) 1⟩,
  ⟨some 89, none, [3, 1, 2], .ld (.t 88)⟩,
  ⟨some 90, none, [0, 4, 3, 1, 2], .call 8 [(.t 85), (.t 89)]⟩,
  ⟨some 91, none, [], .mv (.t 9)⟩,
  ⟨some 92, none, [], .mv (.t 1)⟩,
  ⟨some 93, none, [], .mv (.t 14)⟩,
  ⟨some 94, none, [7, 8], .idx (.t 92) (.t 93) 1⟩,
  ⟨some 95, none, [9, 7, 8], .ld (.t 94)⟩,
  ⟨some 96, none, [6, 10, 9, 7, 8, 5, 0, 4, 3, 1, 2], .call 8 [(.t 91), (.t 95)]⟩,
  ⟨some 97, none, [5, 0, 4, 3, 1, 2, 11, 6, 10, 9, 7, 8], .ib .ne .i64 (.t 90) (.t 96)⟩])
 (.cond (.t 97)
 (.seq (.reg false [⟨some 6, none, [], .mv (.k (.v (.bool false)))⟩])
 .ret)
 .skip))))
 (.reg false [⟨some 77, none, [], .mv (.t 14)⟩,
  ⟨some 78, none, [], .ib .add .i64 (.t 77) (.k (.v (.int .i64 1)))⟩,
  ⟨some 14, none, [], .mv (.t 78)⟩]))))))
 (.seq (.reg false [⟨some 98, none, [], .mv (.t 8)⟩,
  ⟨some 99, none, [], .call 9 [(.t 98)]⟩,
  ⟨some 15, none, [], .new 41 [(.v (.int .i64 0)), (.v (.bool false)), .nsl]⟩,
  ⟨none, none, [], .st (.t 15) (.t 99) 3⟩])
 (.seq (.reg false [⟨some 100, none, [], .mv (.t 9)⟩,
  ⟨some 101, none, [], .call 9 [(.t 100)]⟩,
  ⟨some 16, none, [], .new 41 [(.v (.int .i64 0)), (.v (.bool false)), .nsl]⟩,
  ⟨none, none, [], .st (.t 16) (.t 101) 3⟩])
 (.seq (.reg false [⟨some 102, none, [], .fld (.t 12) 2⟩,
  ⟨some 103, none, [], .ld (.t 102)⟩,
  ⟨some 104, none, [], .bsl (.ints 28 .u64) 1 [(.v (.int .u64 0))] [(0, 1, (.k (.v (.int .u64 1))))]⟩,
  ⟨some 105, none, [], .app (.ints 28 .u64) 8 (.t 103) (.t 104)⟩,
  ⟨some 106, none, [], .fld (.t 12) 2⟩,
  ⟨none, none, [], .st (.t 106) (.t 105) 1⟩])
 (.seq (.reg false [⟨some 107, none, [], .fld (.t 15) 0⟩,
  ⟨some 108, none, [], .ld (.t 107)⟩,
  ⟨some 109, none, [], .fld (.t 16) 0⟩,
  ⟨some 110, none, [], .ld (.t 109)⟩,
  ⟨some 111, none, [], .ib .eq .i64 (.t 108) (.t 110)⟩,
  ⟨some 112, none, [], .mv (.t 111)⟩,
  ⟨some 113, some (112, true), [], .fld (.t 15) 1⟩,
  ⟨some 114, some (112, true), [], .ld (.t 113)⟩,
  ⟨some 115, some (112, true), [], .fld (.t 16) 1⟩,
  ⟨some 116, some (112, true), [], .ld (.t 115)⟩,
  ⟨some 117, some (112, true), [], .bb false (.t 114) (.t 116)⟩,
  ⟨some 118, none, [], .pick (.t 112) (.t 117) (.k (.v (.bool false)))⟩,
  ⟨some 119, none, [], .mv (.t 118)⟩,
  ⟨some 120, some (119, true), [], .fld (.t 15) 2⟩,
  ⟨some 121, some (119, true), [], .ld (.t 120)⟩,
  ⟨some 122, some (119, true), [], .fld (.t 16) 2⟩,
  ⟨some 123, some (119, true), [], .ld (.t 122)⟩,
  ⟨some 124, some (119, true), [], .call 11 [(.t 121), (.t 123)]⟩,
  ⟨some 125, none, [], .pick (.t 119) (.t 124) (.k (.v (.bool false)))⟩,
  ⟨some 126, none, [], .mv (.t 125)⟩,
  ⟨some 127, some (126, true), [], .mv (.t 9)⟩,
  ⟨some 128, some (126, true), [], .lda (.t 12) 3⟩,
  ⟨some 129, some (126, true), [], .call 10 [(.t 127), (.t 128)]⟩,
  ⟨some 130, some (126, true), [], .bnot (.t 129)⟩,
  ⟨some 131, none, [], .pick (.t 126) (.t 130) (.k (.v (.bool false)))⟩,
  ⟨some 6, none, [], .mv (.t 131)⟩])
 .ret))))))))))))))))
theorem comp_5 : compF Try.prog Try.f5 = some (ic_5, [.t 6], 132) := by kernel_rfl
-- ros 5 [(some (.ints 28 .u64)), (some (.row 27 (.row 30 (.st [(.int .u64), .bool])))), none] TYS [(.ints 28 .u64), (.row 27 (.row 30 (.st [(.int .u64), .bool]))), (.int .u8)]

/-- tollbar/tollbarlaw24.awake -/
def ic_6 : IC := (.seq (.reg false [⟨some 0, none, [], .mv (.k (.v (.bool false)))⟩])
 (.seq (.reg false [⟨some 8, none, [], .bsl (.ints 28 .u64) 2 [(.v (.int .u64 0)), (.v (.int .u64 0))] [(0, 1, (.k (.v (.int .u64 10)))), (1, 1, (.k (.v (.int .u64 20))))]⟩,
  ⟨some 9, none, [], .call 7 [(.t 8)]⟩,
  ⟨some 1, none, [], .mv (.t 9)⟩])
 (.seq (.seq (.reg false [⟨some 10, none, [], .mv (.t 1)⟩,
  ⟨some 11, none, [], .isn 0 false (.t 10)⟩])
 (.cond (.t 11)
 (.seq (.reg false [⟨some 0, none, [], .mv (.k (.v (.bool false)))⟩])
 .ret)
 .skip))
 (.seq (.reg false [⟨some 12, none, [], .build [(.v (.int .u64 0)), (.v (.bool false))] [(0, 1, (.k (.v (.int .u64 10)))), (1, 1, (.k (.v (.bool true))))]⟩,
  ⟨some 13, none, [], .build [(.v (.int .u64 0)), (.v (.bool false))] [(0, 1, (.k (.v (.int .u64 10)))), (1, 1, (.k (.v (.bool true))))]⟩,
  ⟨some 14, none, [], .bsl (.row 30 (.st [(.int .u64), .bool])) 2 [(.v (.int .u64 0)), (.v (.bool false)), (.v (.int .u64 0)), (.v (.bool false))] [(0, 2, (.t 12)), (2, 2, (.t 13))]⟩,
  ⟨some 2, none, [], .mv (.t 14)⟩])
 (.seq (.reg false [⟨some 15, none, [], .mv (.t 1)⟩,
  ⟨some 16, none, [], .mv (.t 2)⟩,
  ⟨some 17, none, [], .call 8 [(.t 15), (.t 16)]⟩,
  ⟨some 3, none, [], .mv (.t 17)⟩])
 (.seq (.reg false [⟨some 18, none, [], .mv (.t 1)⟩,
  ⟨some 19, none, [], .mv (.t 2)⟩,
  ⟨some 20, none, [], .call 8 [(.t 18), (.t 19)]⟩,
  ⟨some 4, none, [], .mv (.t 20)⟩])
 (.seq (.reg false [⟨some 21, none, [], .mv (.t 1)⟩,
  ⟨some 22, none, [], .mv (.t 2)⟩,
  ⟨some 23, none, [], .call 8 [(.t 21), (.t 22)]⟩,
  ⟨some 5, none, [], .mv (.t 23)⟩])
 (.seq (.reg false [⟨some 24, none, [], .mv (.t 1)⟩,
  ⟨some 25, none, [], .mv (.t 2)⟩,
  ⟨some 26, none, [], .call 8 [(.t 24), (.t 25)]⟩,
  ⟨some 6, none, [], .mv (.t 26)⟩])
 (.seq (.reg false [⟨some 27, none, [], .mv (.t 1)⟩,
  ⟨some 28, none, [], .call 9 [(.t 27)]⟩,
  ⟨some 7, none, [], .new 41 [(.v (.int .i64 0)), (.v (.bool false)), .nsl]⟩,
  ⟨none, none, [], .st (.t 7) (.t 28) 3⟩])
 (.seq (.reg false [⟨some 29, none, [], .mv (.t 3)⟩,
  ⟨some 30, none, [], .ib .eq .i64 (.t 29) (.k (.v (.int .i64 0)))⟩,
  ⟨some 31, none, [], .mv (.t 30)⟩,
  ⟨some 32, some (31, true), [], .mv (.t 4)⟩,
  ⟨some 33, some (31, true), [], .ib .eq .i64 (.t 32) (.k (.v (.int .i64 1)))⟩,
  ⟨some 34, none, [], .pick (.t 31) (.t 33) (.k (.v (.bool false)))⟩,
  ⟨some 35, none, [], .mv (.t 34)⟩,
  ⟨some 36, some (35, true), [], .mv (.t 5)⟩,
  ⟨some 37, some (35, true), [], .ib .eq .i64 (.t 36) (.k (.v (.int .i64 1)))⟩,
  ⟨some 38, none, [], .pick (.t 35) (.t 37) (.k (.v (.bool false)))⟩,
  ⟨some 39, none, [], .mv (.t 38)⟩,
  ⟨some 40, some (39, true), [], .mv (.t 6)⟩,
  ⟨some 41, some (39, true), [], .ib .eq .i64 (.t 40) (.k (.v (.int .i64 0)))⟩,
  ⟨some 42, none, [], .pick (.t 39) (.t 41) (.k (.v (.bool false)))⟩,
  ⟨some 43, none, [], .mv (.t 42)⟩,
  ⟨some 44, some (43, true), [], .fld (.t 7) 0⟩,
  ⟨some 45, some (43, true), [], .ld (.t 44)⟩,
  ⟨some 46, some (43, true), [], .ib .eq .i64 (.t 45) (.k (.v (.int .i64 0)))⟩,
  ⟨some 47, none, [], .pick (.t 43) (.t 46) (.k (.v (.bool false)))⟩,
  ⟨some 48, none, [], .mv (.t 47)⟩,
  ⟨some 49, some (48, true), [], .fld (.t 7) 1⟩,
  ⟨some 50, some (48, true), [], .ld (.t 49)⟩,
  ⟨some 51, none, [], .pick (.t 48) (.t 50) (.k (.v (.bool false)))⟩,
  ⟨some 52, none, [], .mv (.t 51)⟩,
  ⟨some 53, some (52, true), [], .fld (.t 7) 2⟩,
  ⟨some 54, some (52, true), [], .ld (.t 53)⟩,
  ⟨some 55, some (52, true), [], .len false (.t 54)⟩,
  ⟨some 56, some (52, true), [], .ib .eq .i64 (.t 55) (.k (.v (.int .i64 2)))⟩,
  ⟨some 57, none, [], .pick (.t 52) (.t 56) (.k (.v (.bool false)))⟩,
  ⟨some 58, none, [], .mv (.t 57)⟩,
  ⟨some 59, some (58, true), [], .mv (.t 1)⟩,
  ⟨some 60, some (58, true), [], .build [(.v (.int .u64 0)), (.v (.bool false))] []⟩,
  ⟨some 61, some (58, true), [], .build [(.v (.int .u64 0)), (.v (.bool false))] [(0, 1, (.k (.v (.int .u64 5))))]⟩,
  ⟨some 62, some (58, true), [], .bsl (.row 30 (.st [(.int .u64), .bool])) 2 [(.v (.int .u64 0)), (.v (.bool false)), (.v (.int .u64 0)), (.v (.bool false))] [(0, 2, (.t 60)), (2, 2, (.t 61))]⟩,
  ⟨some 63, some (58, true), [], .call 8 [(.t 59), (.t 62)]⟩,
  ⟨some 64, some (58, true), [], .ib .eq .i64 (.t 63) (.k (.v (.int .i64 (-1))))⟩,
  ⟨some 65, none, [], .pick (.t 58) (.t 64) (.k (.v (.bool false)))⟩,
  ⟨some 66, none, [], .mv (.t 65)⟩,
  ⟨some 67, some (66, true), [], .mv (.t 1)⟩,
  ⟨some 68, some (66, true), [], .lda (.t 7) 3⟩,
  ⟨some 69, some (66, true), [], .call 10 [(.t 67), (.t 68)]⟩,
  ⟨some 70, none, [], .pick (.t 66) (.t 69) (.k (.v (.bool false)))⟩,
  ⟨some 71, none, [], .mv (.t 70)⟩,
  ⟨some 72, some (71, true), [], .mv (.t 1)⟩,
  ⟨some 73, some (71, true), [], .build [(.v (.int .i64 0)), (.v (.bool false)), .nsl] []⟩,
  ⟨some 74, some (71, true), [], .call 10 [(.t 72), (.t 73)]⟩,
  ⟨some 75, some (71, true), [], .bnot (.t 74)⟩,
  ⟨some 76, none, [], .pick (.t 71) (.t 75) (.k (.v (.bool false)))⟩,
  ⟨some 0, none, [], .mv (.t 76)⟩])
 .ret))))))))))
theorem comp_6 : compF Try.prog Try.f6 = some (ic_6, [.t 0], 77) := by kernel_rfl
-- ros 6 [] TYS []

/-- tollbar/drr.New -/
def ic_7 : IC := (.seq (.reg false [⟨some 2, none, [], .mv (.k (.v (.pointer none)))⟩])
 (.seq (.reg true [⟨some 3, none, [], .mv (.t 0)⟩,
  ⟨some 4, none, [0], .call 12 [(.t 3)]⟩,
  ⟨some 5, none, [], .mv (.t 0)⟩,
  ⟨some 6, none, [2], .len false (.t 5)⟩,
  ⟨some 7, none, [3, 2], .mks (.ints 28 .u64) 8 (.t 6) (.t 6)⟩,
  ⟨some 8, none, [4, 3, 2], .build [(.v (.int .i64 0)), (.v (.bool false)), .nsl] [(2, 1, (.t 7))]⟩,
  ⟨some 9, none, [1, 0, 5, 4, 3, 2], .build [.nsl, (.v (.int .i64 0)), (.v (.bool false)), .nsl] [(0, 1, (.t 4)), (1, 3, (.t 8))]⟩,
  ⟨some 10, none, [6, 1, 0, 5, 4, 3, 2], .box 48 4 (.t 9)⟩,
  ⟨some 2, none, [7, 6, 1, 0, 5, 4, 3, 2], .mv (.t 10)⟩])
 .ret))
theorem comp_7 : compF Try.prog Try.f7 = some (ic_7, [.t 2], 11) := by kernel_rfl
-- ros 7 [(some (.ints 28 .u64))] TYS [(.ints 28 .u64)]

/-- (*tollbar/drr.Ring).Next -/
def ic_8 : IC := (.seq (.reg false [⟨some 4, none, [], .mv (.k (.v (.int .i64 0)))⟩])
 (.seq (.seq (.reg false [⟨some 5, none, [], .mv (.t 0)⟩,
  ⟨some 6, none, [], .isn 0 false (.t 5)⟩,
  ⟨some 7, none, [], .mv (.t 6)⟩,
  ⟨some 8, some (7, false), [], .mv (.t 1)⟩,
  ⟨some 9, some (7, false), [], .len false (.t 8)⟩,
  ⟨some 10, some (7, false), [], .mv (.t 0)⟩,
  ⟨some 11, some (7, false), [], .chk (.t 10)⟩,
  ⟨some 12, some (7, false), [], .fld (.t 11) 0⟩,
  ⟨some 13, some (7, false), [], .ld (.t 12)⟩,
  ⟨some 14, some (7, false), [], .len false (.t 13)⟩,
  ⟨some 15, some (7, false), [], .ib .ne .i64 (.t 9) (.t 14)⟩,
  ⟨some 16, none, [], .pick (.t 7) (.k (.v (.bool true))) (.t 15)⟩,
  ⟨some 17, none, [], .mv (.t 16)⟩,
  ⟨some 18, some (17, false), [], .mv (.t 1)⟩,
  ⟨some 19, some (17, false), [], .len false (.t 18)⟩,
  ⟨some 20, some (17, false), [], .ib .eq .i64 (.t 19) (.k (.v (.int .i64 0)))⟩,
  ⟨some 21, none, [], .pick (.t 17) (.k (.v (.bool true))) (.t 20)⟩])
 (.cond (.t 21)
 (.seq (.reg false [⟨some 4, none, [], .mv (.k (.v (.int .i64 (-1))))⟩])
 .ret)
 .skip))
 (.seq (.seq (.reg false [⟨some 22, none, [], .mv (.t 1)⟩,
  ⟨some 23, none, [], .len false (.t 22)⟩,
  ⟨some 24, none, [], .ib .add .i64 (.t 23) (.k (.v (.int .i64 1)))⟩,
  ⟨some 25, none, [], .mv (.k (.v (.int .i64 0)))⟩])
 (.block 0
 (.loop
 (.seq (.reg false [⟨some 26, none, [], .ib .lt .i64 (.t 25) (.t 24)⟩])
 (.seq (.cond (.t 26)
 .skip
 (.exit 0))
 (.seq (.block 1
 (.seq (.reg false [⟨some 27, none, [], .mv (.t 0)⟩,
  ⟨some 28, none, [], .mv (.t 1)⟩,
  ⟨some 29, none, [], .mv (.t 0)⟩,
  ⟨some 30, none, [], .chk (.t 29)⟩,
  ⟨some 31, none, [], .fld (.t 30) 1⟩,
  ⟨some 32, none, [], .fld (.t 31) 0⟩,
  ⟨some 33, none, [], .ld (.t 32)⟩,
  ⟨some 34, none, [], .idx (.t 28) (.t 33) 2⟩,
  ⟨some 35, none, [], .lda (.t 34) 2⟩,
  ⟨some 36, none, [], .call 13 [(.t 27), (.t 35)]⟩])
 (.cond (.t 36)
 (.seq (.reg false [⟨some 37, none, [], .mv (.t 0)⟩,
  ⟨some 38, none, [], .chk (.t 37)⟩,
  ⟨some 39, none, [], .fld (.t 38) 1⟩,
  ⟨some 40, none, [], .fld (.t 39) 0⟩,
  ⟨some 41, none, [], .ld (.t 40)⟩,
  ⟨some 4, none, [], .mv (.t 41)⟩])
 .ret)
 .skip)))
 (.reg false [⟨some 42, none, [], .ib .add .i64 (.t 25) (.k (.v (.int .i64 1)))⟩,
  ⟨some 25, none, [], .mv (.t 42)⟩])))))))
 (.seq (.reg false [⟨some 4, none, [], .mv (.k (.v (.int .i64 (-1))))⟩])
 .ret))))
theorem comp_8 : compF Try.prog Try.f8 = some (ic_8, [.t 4], 43) := by kernel_rfl
-- ros 8 [none, (some (.row 30 (.st [(.int .u64), .bool])))] TYS [none, (.row 30 (.st [(.int .u64), .bool]))]

/-- (*tollbar/drr.Ring).State -/
def ic_9 : IC := (.seq (.reg false [⟨some 2, none, [], .new 41 [(.v (.int .i64 0)), (.v (.bool false)), .nsl]⟩])
 (.seq (.seq (.reg false [⟨some 3, none, [], .mv (.t 0)⟩,
  ⟨some 4, none, [], .isn 0 false (.t 3)⟩])
 (.cond (.t 4)
 (.seq (.reg false [⟨some 5, none, [], .build [(.v (.int .i64 0)), (.v (.bool false)), .nsl] []⟩,
  ⟨none, none, [], .st (.t 2) (.t 5) 3⟩])
 .ret)
 .skip))
 (.seq (.reg false [⟨some 6, none, [], .mv (.t 0)⟩,
  ⟨some 7, none, [], .chk (.t 6)⟩,
  ⟨some 8, none, [], .fld (.t 7) 1⟩,
  ⟨some 9, none, [], .lda (.t 8) 3⟩,
  ⟨some 10, none, [], .call 14 [(.t 9)]⟩,
  ⟨none, none, [], .st (.t 2) (.t 10) 3⟩])
 .ret)))
theorem comp_9 : compF Try.prog Try.f9 = some (ic_9, [.c 2 3 true], 11) := by kernel_rfl
-- ros 9 [none] TYS [none]

/-- (*tollbar/drr.Ring).Restore -/
def ic_10 : IC := (.seq (.reg false [⟨some 3, none, [], .box 41 3 (.t 1)⟩,
  ⟨some 4, none, [], .mv (.k (.v (.bool false)))⟩])
 (.seq (.seq (.reg true [⟨some 5, none, [], .mv (.t 0)⟩,
  ⟨some 6, none, [0], .isn 0 false (.t 5)⟩,
  ⟨some 7, none, [1, 0], .mv (.t 6)⟩,
  ⟨some 8, some (7, false), [2, 1, 0], .fld (.t 3) 2⟩,
  ⟨some 9, some (7, false), [3, 2, 1, 0], .ld (.t 8)⟩,
  ⟨some 10, some (7, false), [4, 3, 2, 1, 0], .len false (.t 9)⟩,
  ⟨some 11, some (7, false), [2, 1, 0], .mv (.t 0)⟩,
  ⟨some 12, some (7, false), [6, 2, 1, 0], .chk (.t 11)⟩,
  ⟨some 13, some (7, false), [7, 6, 2, 1, 0], .fld (.t 12) 0⟩,
  ⟨some 14, some (7, false), [8, 7, 6, 2, 1, 0], .ld (.t 13)⟩,
  ⟨some 15, some (7, false), [9, 8, 7, 6, 2, 1, 0], .len false (.t 14)⟩,
  ⟨some 16, some (7, false), [5, 4, 3, 2, 1, 0, 10, 9, 8, 7, 6], .ib .ne .i64 (.t 10) (.t 15)⟩,
  ⟨some 17, none, [2, 1, 0, 11, 5, 4, 3, 10, 9, 8, 7, 6], .pick (.t 7) (.k (.v (.bool true))) (.t 16)⟩,
  ⟨some 18, none, [12, 2, 1, 0, 11, 5, 4, 3, 10, 9, 8, 7, 6], .mv (.t 17)⟩,
  ⟨some 19, some (18, false), [13, 12, 2, 1, 0, 11, 5, 4, 3, 10, 9, 8, 7, 6], .fld (.t 3) 0⟩,
  ⟨some 20, some (18, false), [14, 13, 12, 2, 1, 0, 11, 5, 4, 3, 10, 9, 8, 7, 6], .ld (.t 19)⟩,
  ⟨some 21, some (18, false), [15, 14, 13, 12, 2, 1, 0, 11, 5, 4, 3, 10, 9, 8, 7, 6], .ib .lt .i64 (.t 20) (.k (.v (.int .i64 0)))⟩,
  ⟨some 22, none, [13, 12, 2, 1, 0, 11, 5, 4, 3, 10, 9, 8, 7, 6, 16, 15, 14], .pick (.t 18) (.k (.v (.bool true))) (.t 21)⟩,
  ⟨some 23, none, [17, 13, 12, 2, 1, 0, 11, 5, 4, 3, 10, 9, 8, 7, 6, 16, 15, 14], .mv (.t 22)⟩,
  ⟨some 24, some (23, false), [18, 17, 13, 12, 2, 1, 0, 11, 5, 4, 3, 10, 9, 8, 7, 6, 16, 15, 14], .fld (.t 3) 0⟩,
  ⟨some 25, some (23, false), [19, 18, 17, 13, 12, 2, 1, 0, 11, 5, 4, 3, 10, 9, 8, 7, 6, 16, 15, 14], .ld (.t 24)⟩,
  ⟨some 26, some (23, false), [18, 17, 13, 12, 2, 1, 0, 11, 5, 4, 3, 10, 9, 8, 7, 6, 16, 15, 14], .fld (.t 3) 2⟩,
  ⟨some 27, some (23, false), [21, 18, 17, 13, 12, 2, 1, 0, 11, 5, 4, 3, 10, 9, 8, 7, 6, 16, 15, 14], .ld (.t 26)⟩,
  ⟨some 28, some (23, false), [22, 21, 18, 17, 13, 12, 2, 1, 0, 11, 5, 4, 3, 10, 9, 8, 7, 6, 16, 15, 14], .len false (.t 27)⟩,
  ⟨some 29, some (23, false), [23, 22, 21, 18, 17, 13, 12, 2, 1, 0, 11, 5, 4, 3, 10, 9, 8, 7, 6, 16, 15, 14], .mx (.t 28) (.k (.v (.int .i64 1)))⟩,
  ⟨some 30, some (23, false), [20, 19, 18, 17, 13, 12, 2, 1, 0, 11, 5, 4, 3, 10, 9, 8, 7, 6, 16, 15, 14, 24, 23, 22, 21], .ib .ge .i64 (.t 25) (.t 29)⟩,
  ⟨some 31, none, [18, 17, 13, 12, 2, 1, 0, 11, 5, 4, 3, 10, 9, 8, 7, 6, 16, 15, 14, 25, 20, 19, 24, 23, 22, 21], .pick (.t 23) (.k (.v (.bool true))) (.t 30)⟩])
 (.cond (.t 31)
 (.seq (.reg false [⟨some 4, none, [], .mv (.k (.v (.bool false)))⟩])
 .ret)
 .skip))
 (.seq (.reg false [⟨some 32, none, [], .mv (.t 0)⟩,
  ⟨some 33, none, [], .lda (.t 3) 3⟩,
  ⟨some 34, none, [], .call 14 [(.t 33)]⟩,
  ⟨some 35, none, [], .chk (.t 32)⟩,
  ⟨some 36, none, [], .fld (.t 35) 1⟩,
  ⟨none, none, [], .st (.t 36) (.t 34) 3⟩])
 (.seq (.reg false [⟨some 4, none, [], .mv (.k (.v (.bool true)))⟩])
 .ret))))
theorem comp_10 : compF Try.prog Try.f10 = some (ic_10, [.t 4], 37) := by kernel_rfl
-- ros 10 [none, none] TYS [none, (.st [(.int .i64), .bool, (.ints 28 .u64)])]

/-- tollbar/tollbarref24.Same -/
def ic_11 : IC := (.seq (.reg false [⟨some 4, none, [], .mv (.k (.v (.bool false)))⟩])
 (.seq (.seq (.reg false [⟨some 6, none, [], .mv (.t 0)⟩,
  ⟨some 7, none, [], .len false (.t 6)⟩,
  ⟨some 8, none, [], .mv (.t 1)⟩,
  ⟨some 9, none, [], .len false (.t 8)⟩,
  ⟨some 10, none, [], .ib .ne .i64 (.t 7) (.t 9)⟩])
 (.cond (.t 10)
 (.seq (.reg false [⟨some 4, none, [], .mv (.k (.v (.bool false)))⟩])
 .ret)
 .skip))
 (.seq (.seq (.reg false [⟨some 5, none, [], .mv (.k (.v (.int .i64 0)))⟩])
 (.block 0
 (.loop
 (.seq (.seq (.reg false [⟨some 11, none, [], .mv (.t 5)⟩,
  ⟨some 12, none, [], .mv (.t 0)⟩,
  ⟨some 13, none, [], .len false (.t 12)⟩,
  ⟨some 14, none, [], .ib .lt .i64 (.t 11) (.t 13)⟩])
 (.cond (.t 14)
 .skip
 (.exit 0)))
 (.seq (.block 1
 (.seq (.reg true [⟨some 17, none, [], .mv (.t 0)⟩,
  ⟨some 18, none, [], .mv (.t 5)⟩,
  ⟨some 19, none, [0, 1], .idx (.t 17) (.t 18) 1⟩,
  ⟨some 20, none, [2, 0, 1], .ld (.t 19)⟩,
  ⟨some 21, none, [], .mv (.t 1)⟩,
  ⟨some 22, none, [], .mv (.t 5)⟩,
  ⟨some 23, none, [4, 5], .idx (.t 21) (.t 22) 1⟩,
  ⟨some 24, none, [6, 4, 5], .ld (.t 23)⟩,
  ⟨some 25, none, [3, 2, 0, 1, 7, 6, 4, 5], .ib .ne .u64 (.t 20) (.t 24)⟩])
 (.cond (.t 25)
 (.seq (.reg false [⟨some 4, none, [], .mv (.k (.v (.bool false)))⟩])
 .ret)
 .skip)))
 (.reg false [⟨some 15, none, [], .mv (.t 5)⟩,
  ⟨some 16, none, [], .ib .add .i64 (.t 15) (.k (.v (.int .i64 1)))⟩,
  ⟨some 5, none, [], .mv (.t 16)⟩]))))))
 (.seq (.reg false [⟨some 4, none, [], .mv (.k (.v (.bool true)))⟩])
 .ret))))
theorem comp_11 : compF Try.prog Try.f11 = some (ic_11, [.t 4], 26) := by kernel_rfl
-- ros 11 [(some (.ints 28 .u64)), (some (.ints 28 .u64))] TYS [(.ints 28 .u64), (.ints 28 .u64)]

/-- slices.Clone[[]uint64,uint64] -/
def ic_12 : IC := (.seq (.reg false [⟨some 2, none, [], .mv (.k .nsl)⟩])
 (.seq (.seq (.reg false [⟨some 3, none, [], .mv (.t 0)⟩,
  ⟨some 4, none, [], .isn 1 false (.t 3)⟩])
 (.cond (.t 4)
 (.seq (.reg false [⟨some 2, none, [], .mv (.k .nsl)⟩])
 .ret)
 .skip))
 (.seq (.reg false [⟨some 5, none, [], .bsl (.ints 28 .u64) 0 [] []⟩,
  ⟨some 6, none, [], .mv (.t 0)⟩,
  ⟨some 7, none, [], .app (.ints 28 .u64) 8 (.t 5) (.t 6)⟩,
  ⟨some 2, none, [], .mv (.t 7)⟩])
 .ret)))
theorem comp_12 : compF Try.prog Try.f12 = some (ic_12, [.t 2], 8) := by kernel_rfl
-- ros 12 [(some (.ints 28 .u64))] TYS [(.ints 28 .u64)]

/-- (*tollbar/drr.Ring).visit -/
def ic_13 : IC := (.seq (.reg false [⟨some 3, none, [], .box 30 2 (.t 1)⟩,
  ⟨some 4, none, [], .mv (.k (.v (.bool false)))⟩])
 (.seq (.reg true [⟨some 6, none, [], .mv (.t 0)⟩,
  ⟨some 7, none, [0], .chk (.t 6)⟩,
  ⟨some 8, none, [1, 0], .fld (.t 7) 1⟩,
  ⟨some 9, none, [2, 1, 0], .fld (.t 8) 2⟩,
  ⟨some 10, none, [3, 2, 1, 0], .ld (.t 9)⟩,
  ⟨some 11, none, [], .mv (.t 0)⟩,
  ⟨some 12, none, [5], .chk (.t 11)⟩,
  ⟨some 13, none, [6, 5], .fld (.t 12) 1⟩,
  ⟨some 14, none, [7, 6, 5], .fld (.t 13) 0⟩,
  ⟨some 15, none, [8, 7, 6, 5], .ld (.t 14)⟩,
  ⟨some 16, none, [4, 3, 2, 1, 0, 9, 8, 7, 6, 5], .idx (.t 10) (.t 15) 1⟩,
  ⟨some 5, none, [10, 4, 3, 2, 1, 0, 9, 8, 7, 6, 5], .mv (.t 16)⟩])
 (.seq (.seq (.reg false [⟨some 17, none, [], .fld (.t 3) 0⟩,
  ⟨some 18, none, [], .ld (.t 17)⟩,
  ⟨some 19, none, [], .ib .eq .u64 (.t 18) (.k (.v (.int .u64 0)))⟩,
  ⟨some 20, none, [], .mv (.t 19)⟩,
  ⟨some 21, some (20, false), [], .fld (.t 3) 1⟩,
  ⟨some 22, some (20, false), [], .ld (.t 21)⟩,
  ⟨some 23, some (20, false), [], .bnot (.t 22)⟩,
  ⟨some 24, none, [], .pick (.t 20) (.k (.v (.bool true))) (.t 23)⟩])
 (.cond (.t 24)
 (.seq (.reg false [⟨some 25, none, [], .mv (.t 5)⟩,
  ⟨some 26, none, [], .chk (.t 25)⟩,
  ⟨none, none, [], .st (.t 26) (.k (.v (.int .u64 0))) 1⟩])
 (.seq (.reg false [⟨some 27, none, [], .mv (.t 0)⟩,
  ⟨some 28, none, [], .call 15 [(.t 27)]⟩])
 (.seq (.reg false [⟨some 4, none, [], .mv (.k (.v (.bool false)))⟩])
 .ret)))
 .skip))
 (.seq (.seq (.reg false [⟨some 29, none, [], .mv (.t 0)⟩,
  ⟨some 30, none, [], .chk (.t 29)⟩,
  ⟨some 31, none, [], .fld (.t 30) 1⟩,
  ⟨some 32, none, [], .fld (.t 31) 1⟩,
  ⟨some 33, none, [], .ld (.t 32)⟩,
  ⟨some 34, none, [], .bnot (.t 33)⟩])
 (.cond (.t 34)
 (.reg true [⟨some 35, none, [], .mv (.t 5)⟩,
  ⟨some 36, none, [], .mv (.t 0)⟩,
  ⟨some 37, none, [], .mv (.t 5)⟩,
  ⟨some 38, none, [2], .chk (.t 37)⟩,
  ⟨some 39, none, [3, 2], .ld (.t 38)⟩,
  ⟨some 40, none, [], .mv (.t 0)⟩,
  ⟨some 41, none, [5], .chk (.t 40)⟩,
  ⟨some 42, none, [6, 5], .fld (.t 41) 0⟩,
  ⟨some 43, none, [7, 6, 5], .ld (.t 42)⟩,
  ⟨some 44, none, [], .mv (.t 0)⟩,
  ⟨some 45, none, [9], .chk (.t 44)⟩,
  ⟨some 46, none, [10, 9], .fld (.t 45) 1⟩,
  ⟨some 47, none, [11, 10, 9], .fld (.t 46) 0⟩,
  ⟨some 48, none, [12, 11, 10, 9], .ld (.t 47)⟩,
  ⟨some 49, none, [8, 7, 6, 5, 13, 12, 11, 10, 9], .idx (.t 43) (.t 48) 1⟩,
  ⟨some 50, none, [14, 8, 7, 6, 5, 13, 12, 11, 10, 9], .ld (.t 49)⟩,
  ⟨some 51, none, [4, 3, 2, 15, 14, 8, 7, 6, 5, 13, 12, 11, 10, 9], .call 16 [(.t 39), (.t 50)]⟩,
  ⟨some 52, none, [0, 2, 3, 4, 5, 6, 7, 8, 9, 10, 11, 12, 13, 14, 15, 16], .chk (.t 35)⟩,
  ⟨none, none, [17, 0, 2, 3, 4, 5, 6, 7, 8, 9, 10, 11, 12, 13, 14, 15, 16], .st (.t 52) (.t 51) 1⟩,
  ⟨some 53, none, [1, 0, 2, 3, 4, 5, 6, 7, 8, 9, 10, 11, 12, 13, 14, 15, 16, 17, 18], .chk (.t 36)⟩,
  ⟨some 54, none, [19, 1, 0, 2, 3, 4, 5, 6, 7, 8, 9, 10, 11, 12, 13, 14, 15, 16, 17, 18], .fld (.t 53) 1⟩,
  ⟨some 55, none, [20, 19, 1, 0, 2, 3, 4, 5, 6, 7, 8, 9, 10, 11, 12, 13, 14, 15, 16, 17, 18], .fld (.t 54) 1⟩,
  ⟨none, none, [21, 20, 19, 1, 0, 2, 3, 4, 5, 6, 7, 8, 9, 10, 11, 12, 13, 14, 15, 16, 17, 18], .st (.t 55) (.k (.v (.bool true))) 1⟩])
 .skip))
 (.seq (.seq (.reg true [⟨some 56, none, [], .mv (.t 5)⟩,
  ⟨some 57, none, [0], .chk (.t 56)⟩,
  ⟨some 58, none, [1, 0], .ld (.t 57)⟩,
  ⟨some 59, none, [], .fld (.t 3) 0⟩,
  ⟨some 60, none, [3], .ld (.t 59)⟩,
  ⟨some 61, none, [2, 1, 0, 4, 3], .ib .lt .u64 (.t 58) (.t 60)⟩])
 (.cond (.t 61)
 (.seq (.reg false [⟨some 62, none, [], .mv (.t 0)⟩,
  ⟨some 63, none, [], .call 15 [(.t 62)]⟩])
 (.seq (.reg false [⟨some 4, none, [], .mv (.k (.v (.bool false)))⟩])
 .ret))
 .skip))
 (.seq (.reg true [⟨some 64, none, [], .mv (.t 5)⟩,
  ⟨some 65, none, [0], .chk (.t 64)⟩,
  ⟨some 66, none, [1, 0], .ld (.t 65)⟩,
  ⟨some 67, none, [], .fld (.t 3) 0⟩,
  ⟨some 68, none, [3], .ld (.t 67)⟩,
  ⟨some 69, none, [2, 1, 0, 4, 3], .ib .sub .u64 (.t 66) (.t 68)⟩,
  ⟨some 70, none, [0, 1, 2, 3, 4, 5], .chk (.t 64)⟩,
  ⟨none, none, [6, 0, 1, 2, 3, 4, 5], .st (.t 70) (.t 69) 1⟩])
 (.seq (.reg false [⟨some 4, none, [], .mv (.k (.v (.bool true)))⟩])
 .ret)))))))
theorem comp_13 : compF Try.prog Try.f13 = some (ic_13, [.t 4], 71) := by kernel_rfl
-- ros 13 [none, none] TYS [none, (.st [(.int .u64), .bool])]

/-- tollbar/drr.copied -/
def ic_14 : IC := (.seq (.reg false [⟨some 1, none, [], .box 41 3 (.t 0)⟩,
  ⟨some 2, none, [], .new 41 [(.v (.int .i64 0)), (.v (.bool false)), .nsl]⟩])
 (.seq (.reg false [⟨some 4, none, [], .fld (.t 1) 2⟩,
  ⟨some 5, none, [], .ld (.t 4)⟩,
  ⟨some 6, none, [], .len false (.t 5)⟩,
  ⟨some 7, none, [], .mks (.ints 28 .u64) 8 (.t 6) (.t 6)⟩,
  ⟨some 3, none, [], .mv (.t 7)⟩])
 (.seq (.reg false [⟨some 8, none, [], .mv (.t 3)⟩,
  ⟨some 9, none, [], .fld (.t 1) 2⟩,
  ⟨some 10, none, [], .ld (.t 9)⟩,
  ⟨some 11, none, [], .copy (.t 8) (.t 10) 1⟩])
 (.seq (.reg false [⟨some 12, none, [], .fld (.t 1) 0⟩,
  ⟨some 13, none, [], .ld (.t 12)⟩,
  ⟨some 14, none, [], .fld (.t 1) 1⟩,
  ⟨some 15, none, [], .ld (.t 14)⟩,
  ⟨some 16, none, [], .mv (.t 3)⟩,
  ⟨some 17, none, [], .build [(.v (.int .i64 0)), (.v (.bool false)), .nsl] [(0, 1, (.t 13)), (1, 1, (.t 15)), (2, 1, (.t 16))]⟩,
  ⟨none, none, [], .st (.t 2) (.t 17) 3⟩])
 .ret))))
theorem comp_14 : compF Try.prog Try.f14 = some (ic_14, [.c 2 3 true], 18) := by kernel_rfl
-- ros 14 [none] TYS [(.st [(.int .i64), .bool, (.ints 28 .u64)])]

/-- (*tollbar/drr.Ring).on -/
def ic_15 : IC := (.reg true [⟨some 2, none, [], .mv (.t 0)⟩,
  ⟨some 3, none, [], .mv (.t 0)⟩,
  ⟨some 4, none, [], .mv (.t 0)⟩,
  ⟨some 5, none, [2], .chk (.t 4)⟩,
  ⟨some 6, none, [3, 2], .fld (.t 5) 1⟩,
  ⟨some 7, none, [4, 3, 2], .fld (.t 6) 0⟩,
  ⟨some 8, none, [5, 4, 3, 2], .ld (.t 7)⟩,
  ⟨some 9, none, [6, 5, 4, 3, 2], .ib .add .i64 (.t 8) (.k (.v (.int .i64 1)))⟩,
  ⟨some 10, none, [], .mv (.t 0)⟩,
  ⟨some 11, none, [8], .chk (.t 10)⟩,
  ⟨some 12, none, [9, 8], .fld (.t 11) 0⟩,
  ⟨some 13, none, [10, 9, 8], .ld (.t 12)⟩,
  ⟨some 14, none, [11, 10, 9, 8], .len false (.t 13)⟩,
  ⟨some 15, none, [7, 6, 5, 4, 3, 2, 12, 11, 10, 9, 8], .ib .rem .i64 (.t 9) (.t 14)⟩,
  ⟨some 16, none, [0, 2, 3, 4, 5, 6, 7, 8, 9, 10, 11, 12, 13], .chk (.t 2)⟩,
  ⟨some 17, none, [14, 0, 2, 3, 4, 5, 6, 7, 8, 9, 10, 11, 12, 13], .fld (.t 16) 1⟩,
  ⟨some 18, none, [15, 14, 0, 2, 3, 4, 5, 6, 7, 8, 9, 10, 11, 12, 13], .fld (.t 17) 0⟩,
  ⟨none, none, [16, 15, 14, 0, 2, 3, 4, 5, 6, 7, 8, 9, 10, 11, 12, 13], .st (.t 18) (.t 15) 1⟩,
  ⟨some 19, none, [1, 0, 2, 3, 4, 5, 6, 7, 8, 9, 10, 11, 12, 13, 14, 15, 16, 17], .chk (.t 3)⟩,
  ⟨some 20, none, [18, 1, 0, 2, 3, 4, 5, 6, 7, 8, 9, 10, 11, 12, 13, 14, 15, 16, 17], .fld (.t 19) 1⟩,
  ⟨some 21, none, [19, 18, 1, 0, 2, 3, 4, 5, 6, 7, 8, 9, 10, 11, 12, 13, 14, 15, 16, 17], .fld (.t 20) 1⟩,
  ⟨none, none, [20, 19, 18, 1, 0, 2, 3, 4, 5, 6, 7, 8, 9, 10, 11, 12, 13, 14, 15, 16, 17], .st (.t 21) (.k (.v (.bool false))) 1⟩])
theorem comp_15 : compF Try.prog Try.f15 = some (ic_15, [], 22) := by kernel_rfl
-- ros 15 [none] TYS [none]

/-- tollbar/sat.Add -/
def ic_16 : IC := (.seq (.reg false [⟨some 4, none, [], .mv (.k (.v (.int .u64 0)))⟩])
 (.seq (.seq (.reg false [⟨some 6, none, [], .mv (.t 0)⟩,
  ⟨some 7, none, [], .mv (.t 1)⟩,
  ⟨some 8, none, [], .ib .add .u64 (.t 6) (.t 7)⟩,
  ⟨some 5, none, [], .mv (.t 8)⟩])
 (.seq (.reg false [⟨some 9, none, [], .mv (.t 5)⟩,
  ⟨some 10, none, [], .mv (.t 0)⟩,
  ⟨some 11, none, [], .ib .ge .u64 (.t 9) (.t 10)⟩])
 (.cond (.t 11)
 (.seq (.reg false [⟨some 12, none, [], .mv (.t 5)⟩,
  ⟨some 4, none, [], .mv (.t 12)⟩])
 .ret)
 .skip)))
 (.seq (.reg false [⟨some 4, none, [], .mv (.k (.v (.int .u64 18446744073709551615)))⟩])
 .ret)))
theorem comp_16 : compF Try.prog Try.f16 = some (ic_16, [.t 4], 13) := by kernel_rfl
-- ros 16 [none, none] TYS [(.int .u64), (.int .u64)]

end Go.Proofs.Ytmnloiadjaljdaa
end
section
/-
  The walk of slices.Clone[[]uint64,uint64] (printed by a program of ours).
-/
set_option linter.unusedVariables false
set_option linter.unusedSimpArgs false
namespace Go.Proofs.Ytmnloiadjaljdaa
open Go.RowKit

noncomputable def tab_slices_Clone : Nat → Option Con := look []
set_option maxRecDepth 100000 in
theorem vc_slices_Clone (P : Program) (T : Tab P tab_slices_Clone) (hm : P.follows .mixedOrders = true) : FnVC P tab_slices_Clone ic_12 [.t 2] 8 con_slices_Clone := by
  intro cargs ccks ce hce hob C hk
  apply Hidden.out
  replace hce : con_slices_Clone_1 cargs ccks = some ce := hce
  · unfold con_slices_Clone_1 at hce
    split at hce
    rotate_left
    · cases hce
    obtain rfl := Option.some.inj hce
    rename_i l1
    have hb1 := hob _ (List.mem_singleton.2 rfl)
    have hb2 := obl.1 hb1
    clear hb1 hob hce
    refine hb2.elim fun r hF => ?_
    clear hb2
    simp only [List.length_cons, List.length_nil, Nat.zero_add, Nat.reduceAdd] at hk
    have hr : cloneU64 l1 = some r := by rw [lock_eq] at hF; exact hF
    unfold cloneU64 at hr
    obtain ⟨g, hr⟩ := guard_inv hr
    obtain rfl := Option.some.inj hr
    constructor
    cbv
    intro b hb
    cases b with
    | true =>
      have hb : lock (@xlen Int) l1 = 0 := hb rfl
      simp only [lock_eq, xlen] at hb
      have e : l1 = [] := List.length_eq_zero_iff.1 hb
      refine ⟨_, hF, ?_⟩
      cbv
      exact e
    | false =>
      cbv
      refine ⟨obl.2 (by simp only [R.len, lock_eq, choice_lk, xlen, List.length_nil]; simp only [xlen] at g; simp at g ⊢; omega), ?_⟩
      refine ⟨_, hF, ?_⟩
      cbv
      simp only [choice_lk]
      rfl
end Go.Proofs.Ytmnloiadjaljdaa
end
section
/-
  The walk of tollbar/drr.New (printed by a program of ours).
-/
set_option linter.unusedVariables false
set_option linter.unusedSimpArgs false
namespace Go.Proofs.Ytmnloiadjaljdaa
open Go.RowKit

noncomputable def tab_drr_New : Nat → Option Con := look [(12, con_slices_Clone)]
set_option maxHeartbeats 4000000 in
set_option maxRecDepth 100000 in
theorem vc_drr_New (P : Program) (T : Tab P tab_drr_New) (hm : P.follows .mixedOrders = true) : FnVC P tab_drr_New ic_7 [.t 2] 11 con_drr_New := by
  intro cargs ccks ce hce hob C hk
  apply Hidden.out
  replace hce : con_drr_New_1 cargs ccks = some ce := hce
  · unfold con_drr_New_1 at hce
    split at hce
    rotate_left
    · cases hce
    obtain rfl := Option.some.inj hce
    rename_i l1
    have hb1 := hob _ (List.mem_singleton.2 rfl)
    have hb2 := obl.1 hb1
    clear hb1 hob hce
    refine hb2.elim fun r hF => ?_
    clear hb2
    simp only [List.length_cons, List.length_nil, Nat.zero_add, Nat.reduceAdd] at hk
    have hr : F_drr_New l1 = some r := by rw [lock_eq] at hF; exact hF
    unfold F_drr_New at hr
    constructor
    (try cbv)
    have hqe : ∃ qq, cloneU64 l1 = some qq := by
      cases hq : cloneU64 l1 with
      | none => rw [hq] at hr; cases hr
      | some qq => exact ⟨qq, rfl⟩
    refine ⟨(by simp only [choice_lk, lock_eq]; exact hqe), obl.2 (by simp only [choice_lk, lock_eq]; exact hqe), (by rintro (_) _ <;> cbv), ?_⟩
    clear hqe
    intro m1 hx1
    apply Hidden.out
    simp only [choice_lk, lock_eq] at hx1
    all_goals (rw [hx1] at hr; dsimp only at hr; constructor; (try cbv))
    have gg := guard_inv hr
    have g := gg.1
    replace hr := gg.2
    clear gg
    refine ⟨obl.2 (by first | (simp only [choice_lk, lock_eq, R.len, R.sub]; exact g) | exact g), ?_⟩
    apply Hidden.out
    have e := Option.some.inj hr
    obtain ⟨u0, u1⟩ := r
    simp only [Prod.mk.injEq] at e
    obtain ⟨e0, e1⟩ := e
    constructor
    refine ⟨_, hF, ?_⟩
    (try cbv); (try simp only [choice_lk, lock_eq, and_self, and_true, true_and]); (try first | exact e | exact e.symm | (and_intros <;> first | assumption | rfl | exact Eq.symm (by assumption)))
end Go.Proofs.Ytmnloiadjaljdaa
end
section
/-
  The walk of (*tollbar/drr.Ring).on (printed by a program of ours).
-/
set_option linter.unusedVariables false
set_option linter.unusedSimpArgs false
namespace Go.Proofs.Ytmnloiadjaljdaa
open Go.RowKit

noncomputable def tab_drr_Ring_on : Nat → Option Con := look []
set_option maxHeartbeats 4000000 in
set_option maxRecDepth 100000 in
theorem vc_drr_Ring_on (P : Program) (T : Tab P tab_drr_Ring_on) (hm : P.follows .mixedOrders = true) : FnVC P tab_drr_Ring_on ic_15 [] 22 con_drr_Ring_on := by
  intro cargs ccks ce hce hob C hk
  apply Hidden.out
  replace hce : con_drr_Ring_on_1 cargs ccks = some ce := hce
  · unfold con_drr_Ring_on_1 at hce
    split at hce
    rotate_left
    · cases hce
    obtain rfl := Option.some.inj hce
    rename_i x1 b1 l1 l2
    have hb1 := hob _ (List.mem_singleton.2 rfl)
    have hb2 := obl.1 hb1
    clear hb1 hob hce
    refine hb2.elim fun r hF => ?_
    clear hb2
    simp only [List.length_cons, List.length_nil, Nat.zero_add, Nat.reduceAdd] at hk
    have hr : F_drr_Ring_on x1 b1 l1 l2 = some r := by rw [lock_eq] at hF; exact hF
    unfold F_drr_Ring_on at hr
    constructor
    (try cbv)
    have gg := guard_inv hr
    have g := gg.1
    replace hr := gg.2
    clear gg
    refine ⟨by first | (simp only [choice_lk, lock_eq]; exact g) | exact g, ?_⟩
    apply Hidden.out
    have e := Option.some.inj hr
    constructor
    refine ⟨_, hF, ?_⟩
    (try cbv); (try simp only [choice_lk, lock_eq, and_self, and_true, true_and]); (try first | exact e | exact e.symm | (and_intros <;> first | assumption | rfl | exact Eq.symm (by assumption)))
end Go.Proofs.Ytmnloiadjaljdaa
end
section
/-
  The walk of tollbar/sat.Add (printed by a program of ours).
-/
set_option linter.unusedVariables false
set_option linter.unusedSimpArgs false
namespace Go.Proofs.Ytmnloiadjaljdaa
open Go.RowKit

noncomputable def tab_sat_Add : Nat → Option Con := look []
set_option maxHeartbeats 4000000 in
set_option maxRecDepth 100000 in
theorem vc_sat_Add (P : Program) (T : Tab P tab_sat_Add) (hm : P.follows .mixedOrders = true) : FnVC P tab_sat_Add ic_16 [.t 4] 13 con_sat_Add := by
  intro cargs ccks ce hce hob C hk
  apply Hidden.out
  replace hce : con_sat_Add_1 cargs ccks = some ce := hce
  · unfold con_sat_Add_1 at hce
    split at hce
    rotate_left
    · cases hce
    obtain rfl := Option.some.inj hce
    rename_i x1 x2
    have hb1 := hob _ (List.mem_singleton.2 rfl)
    have hb2 := obl.1 hb1
    clear hb1 hob hce
    refine hb2.elim fun r hF => ?_
    clear hb2
    simp only [List.length_cons, List.length_nil, Nat.zero_add, Nat.reduceAdd] at hk
    have hr : F_sat_Add x1 x2 = some r := by rw [lock_eq] at hF; exact hF
    unfold F_sat_Add at hr
    constructor
    (try cbv)
    refine sel_intro (fun h => ?_) (fun h => ?_)
    · have h1 : (ile x1 (iadd .u64 x1 x2)) = true := by first | exact h | (have h2 := h; simp only [choice_lk, lock_eq] at h2; exact h2) | (simp only [choice_lk, lock_eq] at h; exact h)
      rw [if_pos h1] at hr
      (try cbv)
      apply Hidden.out
      have e := Option.some.inj hr
      constructor
      refine ⟨_, hF, ?_⟩
      (try cbv); (try simp only [choice_lk, lock_eq, and_self, and_true, true_and]); (try first | exact e | exact e.symm | (and_intros <;> first | assumption | rfl | exact Eq.symm (by assumption)))
    · have h1 : (ile x1 (iadd .u64 x1 x2)) = false := by first | exact h | (have h2 := h; simp only [choice_lk, lock_eq] at h2; exact h2) | (simp only [choice_lk, lock_eq] at h; exact h)
      rw [if_neg (by rw [h1]; exact Bool.false_ne_true)] at hr
      (try cbv)
      apply Hidden.out
      have e := Option.some.inj hr
      constructor
      refine ⟨_, hF, ?_⟩
      (try cbv); (try simp only [choice_lk, lock_eq, and_self, and_true, true_and]); (try first | exact e | exact e.symm | (and_intros <;> first | assumption | rfl | exact Eq.symm (by assumption)))
end Go.Proofs.Ytmnloiadjaljdaa
end
section
/-
  The walk of (*tollbar/drr.Ring).visit (printed by a program of ours).
-/
set_option linter.unusedVariables false
set_option linter.unusedSimpArgs false
namespace Go.Proofs.Ytmnloiadjaljdaa
open Go.RowKit

noncomputable def tab_drr_Ring_visit : Nat → Option Con := look [(15, con_drr_Ring_on), (16, con_sat_Add)]
set_option maxHeartbeats 4000000 in
set_option maxRecDepth 100000 in
theorem vc_drr_Ring_visit (P : Program) (T : Tab P tab_drr_Ring_visit) (hm : P.follows .mixedOrders = true) : FnVC P tab_drr_Ring_visit ic_13 [.t 4] 71 con_drr_Ring_visit := by
  intro cargs ccks ce hce hob C hk
  apply Hidden.out
  replace hce : con_drr_Ring_visit_1 cargs ccks = some ce := hce
  · unfold con_drr_Ring_visit_1 at hce
    split at hce
    rotate_left
    · cases hce
    obtain rfl := Option.some.inj hce
    rename_i x1 b1 x2 b2 l1 l2
    have hb1 := hob _ (List.mem_singleton.2 rfl)
    have hb2 := obl.1 hb1
    clear hb1 hob hce
    refine hb2.elim fun r hF => ?_
    clear hb2
    simp only [List.length_cons, List.length_nil, Nat.zero_add, Nat.reduceAdd] at hk
    have hr : F_drr_Ring_visit x1 b1 x2 b2 l1 l2 = some r := by rw [lock_eq] at hF; exact hF
    unfold F_drr_Ring_visit at hr
    constructor
    (try cbv)
    have gg := guard_inv hr
    have g := gg.1
    replace hr := gg.2
    clear gg
    refine ⟨obl.2 (by first | (simp only [choice_lk, lock_eq, R.len, R.sub]; exact g) | exact g), ?_⟩
    refine sel_intro (fun h => ?_) (fun h => ?_)
    · have h1 : (ieq x1 (0 : Int)) = true := by first | exact h | (have h2 := h; simp only [choice_lk, lock_eq] at h2; exact h2) | (simp only [choice_lk, lock_eq] at h; exact h)
      rw [if_pos h1] at hr
      (try cbv)
      have hqe : ∃ qq, F_drr_Ring_on x2 b2 l1 (setI l2 (toN x2) (0 : Int)) = some qq := by
        cases hq : F_drr_Ring_on x2 b2 l1 (setI l2 (toN x2) (0 : Int)) with
        | none => rw [hq] at hr; cases hr
        | some qq => exact ⟨qq, rfl⟩
      refine ⟨obl.2 (by simp only [choice_lk, lock_eq]; exact hqe), (by rintro (_) _ <;> cbv), ?_⟩
      clear hqe
      intro y1 hx1
      apply Hidden.out
      simp only [choice_lk, lock_eq] at hx1
      all_goals (rw [hx1] at hr; dsimp only at hr; constructor; (try cbv))
      apply Hidden.out
      have e := Option.some.inj hr
      obtain ⟨u0, u1, u2, u3⟩ := r
      simp only [Prod.mk.injEq] at e
      obtain ⟨e0, e1, e2, e3⟩ := e
      constructor
      refine ⟨_, hF, ?_⟩
      (try cbv); (try simp only [choice_lk, lock_eq, and_self, and_true, true_and]); (try first | exact e | exact e.symm | (and_intros <;> first | assumption | rfl | exact Eq.symm (by assumption)))
    · have h1 : (ieq x1 (0 : Int)) = false := by first | exact h | (have h2 := h; simp only [choice_lk, lock_eq] at h2; exact h2) | (simp only [choice_lk, lock_eq] at h; exact h)
      rw [if_neg (by rw [h1]; exact Bool.false_ne_true)] at hr
      (try cbv)
      refine sel_intro (fun h => ?_) (fun h => ?_)
      · have h1 : b1 = false := by first | exact (bnot_t.1 h) | (have h2 := (bnot_t.1 h); simp only [choice_lk, lock_eq] at h2; exact h2) | (simp only [choice_lk, lock_eq] at h; exact (bnot_t.1 h))
        rw [if_neg (by rw [h1]; exact Bool.false_ne_true)] at hr
        (try cbv)
        have hqe : ∃ qq, F_drr_Ring_on x2 b2 l1 (setI l2 (toN x2) (0 : Int)) = some qq := by
          cases hq : F_drr_Ring_on x2 b2 l1 (setI l2 (toN x2) (0 : Int)) with
          | none => rw [hq] at hr; cases hr
          | some qq => exact ⟨qq, rfl⟩
        refine ⟨obl.2 (by simp only [choice_lk, lock_eq]; exact hqe), (by rintro (_) _ <;> cbv), ?_⟩
        clear hqe
        intro y2 hx2
        apply Hidden.out
        simp only [choice_lk, lock_eq] at hx2
        all_goals (rw [hx2] at hr; dsimp only at hr; constructor; (try cbv))
        apply Hidden.out
        have e := Option.some.inj hr
        obtain ⟨u0, u1, u2, u3⟩ := r
        simp only [Prod.mk.injEq] at e
        obtain ⟨e0, e1, e2, e3⟩ := e
        constructor
        refine ⟨_, hF, ?_⟩
        (try cbv); (try simp only [choice_lk, lock_eq, and_self, and_true, true_and]); (try first | exact e | exact e.symm | (and_intros <;> first | assumption | rfl | exact Eq.symm (by assumption)))
      · have h1 : b1 = true := by first | exact (bnot_f.1 h) | (have h2 := (bnot_f.1 h); simp only [choice_lk, lock_eq] at h2; exact h2) | (simp only [choice_lk, lock_eq] at h; exact (bnot_f.1 h))
        rw [if_pos h1] at hr
        (try cbv)
        refine sel_intro (fun h => ?_) (fun h => ?_)
        · have h1 : b2 = false := by first | exact (bnot_t.1 h) | (have h2 := (bnot_t.1 h); simp only [choice_lk, lock_eq] at h2; exact h2) | (simp only [choice_lk, lock_eq] at h; exact (bnot_t.1 h))
          rw [if_neg (by rw [h1]; exact Bool.false_ne_true)] at hr
          (try cbv)
          have gg := guard_inv hr
          have g := gg.1
          replace hr := gg.2
          clear gg
          refine ⟨obl.2 (by first | (simp only [choice_lk, lock_eq, R.len, R.sub]; exact g) | exact g), ?_⟩
          have hqe : ∃ qq, F_sat_Add (getI l2 (toN x2)) (getI l1 (toN x2)) = some qq := by
            cases hq : F_sat_Add (getI l2 (toN x2)) (getI l1 (toN x2)) with
            | none => rw [hq] at hr; cases hr
            | some qq => exact ⟨qq, rfl⟩
          refine ⟨(by simp only [choice_lk, lock_eq]; exact hqe), obl.2 (by simp only [choice_lk, lock_eq]; exact hqe), (by rintro (_) _ <;> cbv), ?_⟩
          clear hqe
          intro y3 hx3
          apply Hidden.out
          simp only [choice_lk, lock_eq] at hx3
          all_goals (rw [hx3] at hr; dsimp only at hr; constructor; (try cbv))
          refine sel_intro (fun h => ?_) (fun h => ?_)
          · have h1 : (ilt (getI (setI l2 (toN x2) y3) (toN x2)) x1) = true := by first | exact h | (have h2 := h; simp only [choice_lk, lock_eq] at h2; exact h2) | (simp only [choice_lk, lock_eq] at h; exact h)
            rw [if_pos h1] at hr
            (try cbv)
            have hqe : ∃ qq, F_drr_Ring_on x2 true l1 (setI l2 (toN x2) y3) = some qq := by
              cases hq : F_drr_Ring_on x2 true l1 (setI l2 (toN x2) y3) with
              | none => rw [hq] at hr; cases hr
              | some qq => exact ⟨qq, rfl⟩
            refine ⟨obl.2 (by simp only [choice_lk, lock_eq]; exact hqe), (by rintro (_) _ <;> cbv), ?_⟩
            clear hqe
            intro y4 hx4
            apply Hidden.out
            simp only [choice_lk, lock_eq] at hx4
            all_goals (rw [hx4] at hr; dsimp only at hr; constructor; (try cbv))
            apply Hidden.out
            have e := Option.some.inj hr
            obtain ⟨u0, u1, u2, u3⟩ := r
            simp only [Prod.mk.injEq] at e
            obtain ⟨e0, e1, e2, e3⟩ := e
            constructor
            refine ⟨_, hF, ?_⟩
            (try cbv); (try simp only [choice_lk, lock_eq, and_self, and_true, true_and]); (try first | exact e | exact e.symm | (and_intros <;> first | assumption | rfl | exact Eq.symm (by assumption)))
          · have h1 : (ilt (getI (setI l2 (toN x2) y3) (toN x2)) x1) = false := by first | exact h | (have h2 := h; simp only [choice_lk, lock_eq] at h2; exact h2) | (simp only [choice_lk, lock_eq] at h; exact h)
            rw [if_neg (by rw [h1]; exact Bool.false_ne_true)] at hr
            (try cbv)
            apply Hidden.out
            have e := Option.some.inj hr
            obtain ⟨u0, u1, u2, u3⟩ := r
            simp only [Prod.mk.injEq] at e
            obtain ⟨e0, e1, e2, e3⟩ := e
            constructor
            refine ⟨_, hF, ?_⟩
            (try cbv); (try simp only [choice_lk, lock_eq, and_self, and_true, true_and]); (try first | exact e | exact e.symm | (and_intros <;> first | assumption | rfl | exact Eq.symm (by assumption)))
        · have h1 : b2 = true := by first | exact (bnot_f.1 h) | (have h2 := (bnot_f.1 h); simp only [choice_lk, lock_eq] at h2; exact h2) | (simp only [choice_lk, lock_eq] at h; exact (bnot_f.1 h))
          rw [if_pos h1] at hr
          (try cbv)
          refine sel_intro (fun h => ?_) (fun h => ?_)
          · have h1 : (ilt (getI l2 (toN x2)) x1) = true := by first | exact h | (have h2 := h; simp only [choice_lk, lock_eq] at h2; exact h2) | (simp only [choice_lk, lock_eq] at h; exact h)
            rw [if_pos h1] at hr
            (try cbv)
            have hqe : ∃ qq, F_drr_Ring_on x2 b2 l1 l2 = some qq := by
              cases hq : F_drr_Ring_on x2 b2 l1 l2 with
              | none => rw [hq] at hr; cases hr
              | some qq => exact ⟨qq, rfl⟩
            refine ⟨obl.2 (by simp only [choice_lk, lock_eq]; exact hqe), (by rintro (_) _ <;> cbv), ?_⟩
            clear hqe
            intro y5 hx5
            apply Hidden.out
            simp only [choice_lk, lock_eq] at hx5
            all_goals (rw [hx5] at hr; dsimp only at hr; constructor; (try cbv))
            apply Hidden.out
            have e := Option.some.inj hr
            obtain ⟨u0, u1, u2, u3⟩ := r
            simp only [Prod.mk.injEq] at e
            obtain ⟨e0, e1, e2, e3⟩ := e
            constructor
            refine ⟨_, hF, ?_⟩
            (try cbv); (try simp only [choice_lk, lock_eq, and_self, and_true, true_and]); (try first | exact e | exact e.symm | (and_intros <;> first | assumption | rfl | exact Eq.symm (by assumption)))
          · have h1 : (ilt (getI l2 (toN x2)) x1) = false := by first | exact h | (have h2 := h; simp only [choice_lk, lock_eq] at h2; exact h2) | (simp only [choice_lk, lock_eq] at h; exact h)
            rw [if_neg (by rw [h1]; exact Bool.false_ne_true)] at hr
            (try cbv)
            apply Hidden.out
            have e := Option.some.inj hr
            obtain ⟨u0, u1, u2, u3⟩ := r
            simp only [Prod.mk.injEq] at e
            obtain ⟨e0, e1, e2, e3⟩ := e
            constructor
            refine ⟨_, hF, ?_⟩
            (try cbv); (try simp only [choice_lk, lock_eq, and_self, and_true, true_and]); (try first | exact e | exact e.symm | (and_intros <;> first | assumption | rfl | exact Eq.symm (by assumption)))
end Go.Proofs.Ytmnloiadjaljdaa
end
section
/-
  The walk of (*tollbar/drr.Ring).Next (printed by a program of ours).
-/
set_option linter.unusedVariables false
set_option linter.unusedSimpArgs false
namespace Go.Proofs.Ytmnloiadjaljdaa
open Go.RowKit

noncomputable def tab_drr_Ring_Next : Nat → Option Con := look [(13, con_drr_Ring_visit)]
set_option maxHeartbeats 4000000 in
set_option maxRecDepth 100000 in
theorem vc_drr_Ring_Next (P : Program) (T : Tab P tab_drr_Ring_Next) (hm : P.follows .mixedOrders = true) : FnVC P tab_drr_Ring_Next ic_8 [.t 4] 43 con_drr_Ring_Next := by
  intro cargs ccks ce hce hob C hk
  apply Hidden.out
  replace hce : con_drr_Ring_Next_1 cargs ccks = some ce := hce
  · unfold con_drr_Ring_Next_1 at hce
    split at hce
    rotate_left
    · cases hce
    obtain rfl := Option.some.inj hce
    rename_i r1 x1 b1 l1 l2
    have hb1 := hob _ (List.mem_singleton.2 rfl)
    have hb2 := obl.1 hb1
    clear hb1 hob hce
    refine hb2.elim fun r hF => ?_
    clear hb2
    simp only [List.length_cons, List.length_nil, Nat.zero_add, Nat.reduceAdd] at hk
    have hr : F_drr_Ring_Next r1 x1 b1 l1 l2 = some r := by rw [lock_eq] at hF; exact hF
    unfold F_drr_Ring_Next at hr
    constructor
    (try cbv)
    refine sel_intro (fun h => ?_) (fun h => ?_)
    · have h1 : (ieq (ofN (xlen r1)) (ofN (xlen l1))) = false := by first | exact (bnot_t.1 h) | (have h2 := (bnot_t.1 h); simp only [choice_lk, lock_eq] at h2; exact h2) | (simp only [choice_lk, lock_eq] at h; exact (bnot_t.1 h))
      rw [if_neg (by rw [h1]; exact Bool.false_ne_true)] at hr
      (try cbv)
      apply Hidden.out
      have e := Option.some.inj hr
      obtain ⟨u0, u1, u2, u3⟩ := r
      simp only [Prod.mk.injEq] at e
      obtain ⟨e0, e1, e2, e3⟩ := e
      constructor
      refine ⟨_, hF, ?_⟩
      (try cbv); (try simp only [choice_lk, lock_eq, and_self, and_true, true_and]); (try first | exact e | exact e.symm | (and_intros <;> first | assumption | rfl | exact Eq.symm (by assumption)))
    · have h1 : (ieq (ofN (xlen r1)) (ofN (xlen l1))) = true := by first | exact (bnot_f.1 h) | (have h2 := (bnot_f.1 h); simp only [choice_lk, lock_eq] at h2; exact h2) | (simp only [choice_lk, lock_eq] at h; exact (bnot_f.1 h))
      rw [if_pos h1] at hr
      (try cbv)
      refine sel_intro (fun h => ?_) (fun h => ?_)
      · have h1 : (ieq (ofN (xlen r1)) (0 : Int)) = true := by first | exact h | (have h2 := h; simp only [choice_lk, lock_eq] at h2; exact h2) | (simp only [choice_lk, lock_eq] at h; exact h)
        rw [if_pos h1] at hr
        (try cbv)
        apply Hidden.out
        have e := Option.some.inj hr
        obtain ⟨u0, u1, u2, u3⟩ := r
        simp only [Prod.mk.injEq] at e
        obtain ⟨e0, e1, e2, e3⟩ := e
        constructor
        refine ⟨_, hF, ?_⟩
        (try cbv); (try simp only [choice_lk, lock_eq, and_self, and_true, true_and]); (try first | exact e | exact e.symm | (and_intros <;> first | assumption | rfl | exact Eq.symm (by assumption)))
      · have h1 : (ieq (ofN (xlen r1)) (0 : Int)) = false := by first | exact h | (have h2 := h; simp only [choice_lk, lock_eq] at h2; exact h2) | (simp only [choice_lk, lock_eq] at h; exact h)
        rw [if_neg (by rw [h1]; exact Bool.false_ne_true)] at hr
        (try cbv)
        refine LoopOK.iter T (drawOK T hm) (B := (F_drr_Ring_Next_L1 r1 l1)) hr (fun | (i1, i2, b2, l3) => ⟨mkFr [(0, (.ptr 0 0)), (1, (.rsl (.row 30 (.st [(.int .u64), .bool]) r1))), (24, (.v (.int .i64 (lock iadd .i64 (lock ofN (lock (@xlen D) r1)) (1 : Int))))), (25, (.v (.int .i64 i1)))] 43 0, [(0, .blk 48 [(.wsl 1), (.v (.int .i64 i2)), (.v (.bool b2)), (.wsl 2)]), (1, .row (.ints 28 .u64 l1)), (2, .row (.ints 28 .u64 l3))], 3⟩) ?_ ?_
        · rintro ⟨u0, u1, u2, u3⟩ e
          simp only [Prod.mk.injEq] at e
          obtain ⟨e0, e1, e2, e3⟩ := e
          refine le_auto hk ?_
          (try cbv); (try simp only [choice_lk, lock_eq, and_self, and_true, true_and]); (try first | exact e | exact e.symm | (and_intros <;> first | assumption | rfl | exact Eq.symm (by assumption)))
        · clear hr
          intro x bb1 hr ht1
          apply Hidden.out
          obtain ⟨i1, i2, b2, l3⟩ := x
          constructor
          unfold F_drr_Ring_Next_L1 at hr
          (try dsimp only at hr)
          (try cbv)
          refine sel_intro (fun h => ?_) (fun h => ?_)
          · have h1 : (ilt i1 (iadd .i64 (ofN (xlen r1)) (1 : Int))) = true := by first | exact h | (have h2 := h; simp only [choice_lk, lock_eq] at h2; exact h2) | (simp only [choice_lk, lock_eq] at h; exact h)
            rw [if_pos h1] at hr
            (try cbv)
            have gg := guard_inv hr
            have g := gg.1
            replace hr := gg.2
            clear gg
            refine ⟨obl.2 (by first | (simp only [choice_lk, lock_eq, R.len, R.sub]; exact g) | exact g), ?_⟩
            have hqe : ∃ qq, F_drr_Ring_visit (D.toI (D.fld (getD r1 (toN i2)) 0)) (D.toB (D.fld (getD r1 (toN i2)) 1)) i2 b2 l1 l3 = some qq := by
              cases hq : F_drr_Ring_visit (D.toI (D.fld (getD r1 (toN i2)) 0)) (D.toB (D.fld (getD r1 (toN i2)) 1)) i2 b2 l1 l3 with
              | none => rw [hq] at hr; cases hr
              | some qq => exact ⟨qq, rfl⟩
            refine ⟨obl.2 (by simp only [choice_lk, lock_eq]; exact hqe), (by rintro (⟨_, _, _, _⟩) _ <;> cbv), ?_⟩
            clear hqe
            intro qq hx3
            apply Hidden.out
            simp only [choice_lk, lock_eq] at hx3
            rcases qq with ⟨c5, y3, c6, m3⟩
            all_goals (rw [hx3] at hr; dsimp only at hr; constructor; (try cbv))
            refine sel_intro (fun h => ?_) (fun h => ?_)
            · have h1 : c5 = true := by first | exact h | (have h2 := h; simp only [choice_lk, lock_eq] at h2; exact h2) | (simp only [choice_lk, lock_eq] at h; exact h)
              rw [if_pos h1] at hr
              (try cbv)
              apply Hidden.out
              obtain rfl := Option.some.inj hr
              have e := ht1 _ rfl
              obtain ⟨u0, u1, u2, u3⟩ := r
              simp only [Prod.mk.injEq] at e
              obtain ⟨e0, e1, e2, e3⟩ := e
              constructor
              refine ⟨_, hF, ?_⟩
              (try cbv); (try simp only [choice_lk, lock_eq, and_self, and_true, true_and]); (try first | exact e | exact e.symm | (and_intros <;> first | assumption | rfl | exact Eq.symm (by assumption)))
            · have h1 : c5 = false := by first | exact h | (have h2 := h; simp only [choice_lk, lock_eq] at h2; exact h2) | (simp only [choice_lk, lock_eq] at h; exact h)
              rw [if_neg (by rw [h1]; exact Bool.false_ne_true)] at hr
              (try cbv)
              apply Hidden.out
              obtain rfl := Option.some.inj hr
              constructor
              refine ⟨⟨_, rfl⟩, ?_⟩
              rintro ⟨u0, u1, u2, u3⟩ e
              replace e := Sum.inl.inj e
              simp only [Prod.mk.injEq] at e
              obtain ⟨e0, e1, e2, e3⟩ := e
              refine le_auto hk ?_
              (try cbv); (try simp only [choice_lk, lock_eq, and_self, and_true, true_and]); (try first | exact e | exact e.symm | (and_intros <;> first | assumption | rfl | exact Eq.symm (by assumption)))
          · have h1 : (ilt i1 (iadd .i64 (ofN (xlen r1)) (1 : Int))) = false := by first | exact h | (have h2 := h; simp only [choice_lk, lock_eq] at h2; exact h2) | (simp only [choice_lk, lock_eq] at h; exact h)
            rw [if_neg (by rw [h1]; exact Bool.false_ne_true)] at hr
            (try cbv)
            apply Hidden.out
            obtain rfl := Option.some.inj hr
            have e := ht1 _ rfl
            obtain ⟨u0, u1, u2, u3⟩ := r
            simp only [Prod.mk.injEq] at e
            obtain ⟨e0, e1, e2, e3⟩ := e
            constructor
            refine ⟨_, hF, ?_⟩
            (try cbv); (try simp only [choice_lk, lock_eq, and_self, and_true, true_and]); (try first | exact e | exact e.symm | (and_intros <;> first | assumption | rfl | exact Eq.symm (by assumption)))
end Go.Proofs.Ytmnloiadjaljdaa
end
section
/-
  The walk of tollbar/drr.copied (printed by a program of ours).
-/
set_option linter.unusedVariables false
set_option linter.unusedSimpArgs false
namespace Go.Proofs.Ytmnloiadjaljdaa
open Go.RowKit

noncomputable def tab_drr_copied : Nat → Option Con := look []
set_option maxHeartbeats 4000000 in
set_option maxRecDepth 100000 in
theorem vc_drr_copied (P : Program) (T : Tab P tab_drr_copied) (hm : P.follows .mixedOrders = true) : FnVC P tab_drr_copied ic_14 [.c 2 3 true] 18 con_drr_copied := by
  intro cargs ccks ce hce hob C hk
  apply Hidden.out
  replace hce : con_drr_copied_1 cargs ccks = some ce := hce
  · unfold con_drr_copied_1 at hce
    split at hce
    rotate_left
    · cases hce
    obtain rfl := Option.some.inj hce
    rename_i x1 b1 l1
    have hb1 := hob _ (List.mem_singleton.2 rfl)
    have hb2 := obl.1 hb1
    clear hb1 hob hce
    refine hb2.elim fun r hF => ?_
    clear hb2
    simp only [List.length_cons, List.length_nil, Nat.zero_add, Nat.reduceAdd] at hk
    have hr : F_drr_copied x1 b1 l1 = some r := by rw [lock_eq] at hF; exact hF
    unfold F_drr_copied at hr
    constructor
    (try cbv)
    have gg := guard_inv hr
    have g := gg.1
    replace hr := gg.2
    clear gg
    refine ⟨obl.2 (by first | (simp only [choice_lk, lock_eq, R.len, R.sub]; exact g) | exact g), ?_⟩
    apply Hidden.out
    have e := Option.some.inj hr
    constructor
    refine ⟨_, hF, ?_⟩
    (try cbv); (try simp only [choice_lk, lock_eq, and_self, and_true, true_and]); (try first | exact e | exact e.symm | (and_intros <;> first | assumption | rfl | exact Eq.symm (by assumption)))
end Go.Proofs.Ytmnloiadjaljdaa
end
section
/-
  The walk of (*tollbar/drr.Ring).State (printed by a program of ours).
-/
set_option linter.unusedVariables false
set_option linter.unusedSimpArgs false
namespace Go.Proofs.Ytmnloiadjaljdaa
open Go.RowKit

noncomputable def tab_drr_Ring_State : Nat → Option Con := look [(14, con_drr_copied)]
set_option maxHeartbeats 4000000 in
set_option maxRecDepth 100000 in
theorem vc_drr_Ring_State (P : Program) (T : Tab P tab_drr_Ring_State) (hm : P.follows .mixedOrders = true) : FnVC P tab_drr_Ring_State ic_9 [.c 2 3 true] 11 con_drr_Ring_State := by
  intro cargs ccks ce hce hob C hk
  apply Hidden.out
  replace hce : con_drr_Ring_State_1 cargs ccks = some ce := hce
  · unfold con_drr_Ring_State_1 at hce
    split at hce
    rotate_left
    · cases hce
    obtain rfl := Option.some.inj hce
    rename_i x1 b1 l1 l2
    have hb1 := hob _ (List.mem_singleton.2 rfl)
    have hb2 := obl.1 hb1
    clear hb1 hob hce
    refine hb2.elim fun r hF => ?_
    clear hb2
    simp only [List.length_cons, List.length_nil, Nat.zero_add, Nat.reduceAdd] at hk
    have hr : F_drr_Ring_State x1 b1 l1 l2 = some r := by rw [lock_eq] at hF; exact hF
    unfold F_drr_Ring_State at hr
    constructor
    (try cbv)
    have hqe : ∃ qq, F_drr_copied x1 b1 l2 = some qq := by
      cases hq : F_drr_copied x1 b1 l2 with
      | none => rw [hq] at hr; cases hr
      | some qq => exact ⟨qq, rfl⟩
    refine ⟨obl.2 (by simp only [choice_lk, lock_eq]; exact hqe), (by rintro (_) _ <;> cbv), ?_⟩
    clear hqe
    intro m1 hx1
    apply Hidden.out
    simp only [choice_lk, lock_eq] at hx1
    all_goals (rw [hx1] at hr; dsimp only at hr; constructor; (try cbv))
    apply Hidden.out
    have e := Option.some.inj hr
    constructor
    refine ⟨_, hF, ?_⟩
    (try cbv); (try simp only [choice_lk, lock_eq, and_self, and_true, true_and]); (try first | exact e | exact e.symm | (and_intros <;> first | assumption | rfl | exact Eq.symm (by assumption)))
end Go.Proofs.Ytmnloiadjaljdaa
end
section
/-
  The walk of (*tollbar/drr.Ring).Restore (printed by a program of ours).
-/
set_option linter.unusedVariables false
set_option linter.unusedSimpArgs false
namespace Go.Proofs.Ytmnloiadjaljdaa
open Go.RowKit

noncomputable def tab_drr_Ring_Restore : Nat → Option Con := look [(14, con_drr_copied)]
set_option maxHeartbeats 4000000 in
set_option maxRecDepth 100000 in
theorem vc_drr_Ring_Restore (P : Program) (T : Tab P tab_drr_Ring_Restore) (hm : P.follows .mixedOrders = true) : FnVC P tab_drr_Ring_Restore ic_10 [.t 4] 37 con_drr_Ring_Restore := by
  intro cargs ccks ce hce hob C hk
  apply Hidden.out
  replace hce : altC (con_drr_Ring_Restore_1 cargs ccks) (con_drr_Ring_Restore_2 cargs ccks) = some ce := hce
  replace hce := altC_inv hce
  rcases hce with hce | hce
  · unfold con_drr_Ring_Restore_1 at hce
    split at hce
    rotate_left
    · cases hce
    obtain rfl := Option.some.inj hce
    rename_i x1 b1 x2 b2 l1 l2 l3
    have hb1 := hob _ (List.mem_singleton.2 rfl)
    have hb2 := obl.1 hb1
    clear hb1 hob hce
    refine hb2.elim fun r hF => ?_
    clear hb2
    simp only [List.length_cons, List.length_nil, Nat.zero_add, Nat.reduceAdd] at hk
    have hr : F_drr_Ring_Restore x1 b1 x2 b2 l1 l2 l3 = some r := by rw [lock_eq] at hF; exact hF
    unfold F_drr_Ring_Restore at hr
    constructor
    (try cbv)
    rcases Bool.eq_false_or_eq_true (ieq (ofN (xlen l1)) (ofN (xlen l2))) with h1 | h1
    · rw [if_pos h1] at hr
      have h2 : (lock ieq (lock ofN (lock (@xlen Int) l1)) (lock ofN (lock (@xlen Int) l2))) = true := by simp only [lock_eq]; exact h1
      simp only [relock, h2]
      (try cbv)
      rcases Bool.eq_false_or_eq_true (ilt x1 (0 : Int)) with h1 | h1
      · rw [if_pos h1] at hr
        have h2 : (lock ilt x1 (0 : Int)) = true := by simp only [lock_eq]; exact h1
        simp only [relock, h2]
        (try cbv)
        apply Hidden.out
        have e := Option.some.inj hr
        revert e
        rcases r with _ | _ <;> intro e
        · replace e := Sum.inl.inj e
          constructor
          refine ⟨_, hF, ?_⟩
          (try cbv); (try simp only [choice_lk, lock_eq, and_self, and_true, true_and]); (try first | exact e | exact e.symm | (and_intros <;> first | assumption | rfl | exact Eq.symm (by assumption)))
        · cases e
      · rw [if_neg (by rw [h1]; exact Bool.false_ne_true)] at hr
        have h2 : (lock ilt x1 (0 : Int)) = false := by simp only [lock_eq]; exact h1
        simp only [relock, h2]
        (try cbv)
        refine sel_intro (fun h => ?_) (fun h => ?_)
        · have h1 : (ile (imax (ofN (xlen l1)) (1 : Int)) x1) = true := by first | exact h | (have h2 := h; simp only [choice_lk, lock_eq] at h2; exact h2) | (simp only [choice_lk, lock_eq] at h; exact h)
          rw [if_pos h1] at hr
          (try cbv)
          apply Hidden.out
          have e := Option.some.inj hr
          revert e
          rcases r with _ | _ <;> intro e
          · replace e := Sum.inl.inj e
            constructor
            refine ⟨_, hF, ?_⟩
            (try cbv); (try simp only [choice_lk, lock_eq, and_self, and_true, true_and]); (try first | exact e | exact e.symm | (and_intros <;> first | assumption | rfl | exact Eq.symm (by assumption)))
          · cases e
        · have h1 : (ile (imax (ofN (xlen l1)) (1 : Int)) x1) = false := by first | exact h | (have h2 := h; simp only [choice_lk, lock_eq] at h2; exact h2) | (simp only [choice_lk, lock_eq] at h; exact h)
          rw [if_neg (by rw [h1]; exact Bool.false_ne_true)] at hr
          (try cbv)
          have hqe : ∃ qq, F_drr_copied x1 b1 l1 = some qq := by
            cases hq : F_drr_copied x1 b1 l1 with
            | none => rw [hq] at hr; cases hr
            | some qq => exact ⟨qq, rfl⟩
          refine ⟨obl.2 (by simp only [choice_lk, lock_eq]; exact hqe), (by rintro (_) _ <;> cbv), ?_⟩
          clear hqe
          intro m1 hx1
          apply Hidden.out
          simp only [choice_lk, lock_eq] at hx1
          all_goals (rw [hx1] at hr; dsimp only at hr; constructor; (try cbv))
          apply Hidden.out
          have e := Option.some.inj hr
          revert e
          rcases r with _ | u0 <;> intro e
          · cases e
          · replace e := Sum.inr.inj e
            constructor
            refine ⟨_, hF, ?_⟩
            (try cbv); (try simp only [choice_lk, lock_eq, and_self, and_true, true_and]); (try first | exact e | exact e.symm | (and_intros <;> first | assumption | rfl | exact Eq.symm (by assumption)))
    · rw [if_neg (by rw [h1]; exact Bool.false_ne_true)] at hr
      have h2 : (lock ieq (lock ofN (lock (@xlen Int) l1)) (lock ofN (lock (@xlen Int) l2))) = false := by simp only [lock_eq]; exact h1
      simp only [relock, h2]
      (try cbv)
      apply Hidden.out
      have e := Option.some.inj hr
      revert e
      rcases r with _ | _ <;> intro e
      · replace e := Sum.inl.inj e
        constructor
        refine ⟨_, hF, ?_⟩
        (try cbv); (try simp only [choice_lk, lock_eq, and_self, and_true, true_and]); (try first | exact e | exact e.symm | (and_intros <;> first | assumption | rfl | exact Eq.symm (by assumption)))
      · cases e
  · unfold con_drr_Ring_Restore_2 at hce
    split at hce
    rotate_left
    · cases hce
    obtain rfl := Option.some.inj hce
    rename_i x1 b1 x2 b2 l1 l2
    have hb1 := hob _ (List.mem_singleton.2 rfl)
    have hb2 := obl.1 hb1
    clear hb1 hob hce
    refine hb2.elim fun r hF => ?_
    clear hb2
    simp only [List.length_cons, List.length_nil, Nat.zero_add, Nat.reduceAdd] at hk
    have hr : F_drr_Ring_Restore_2 x1 b1 x2 b2 l1 l2 = some r := by rw [lock_eq] at hF; exact hF
    unfold F_drr_Ring_Restore_2 at hr
    constructor
    (try cbv)
    rcases Bool.eq_false_or_eq_true (ieq (ofN 0) (ofN (xlen l1))) with h1 | h1
    · rw [if_pos h1] at hr
      have h2 : (lock ieq (lock ofN 0) (lock ofN (lock (@xlen Int) l1))) = true := by simp only [lock_eq]; exact h1
      simp only [relock, h2]
      (try cbv)
      rcases Bool.eq_false_or_eq_true (ilt x1 (0 : Int)) with h1 | h1
      · rw [if_pos h1] at hr
        have h2 : (lock ilt x1 (0 : Int)) = true := by simp only [lock_eq]; exact h1
        simp only [relock, h2]
        (try cbv)
        apply Hidden.out
        have e := Option.some.inj hr
        constructor
        refine ⟨_, hF, ?_⟩
        (try cbv); (try simp only [choice_lk, lock_eq, and_self, and_true, true_and]); (try first | exact e | exact e.symm | (and_intros <;> first | assumption | rfl | exact Eq.symm (by assumption)))
      · rw [if_neg (by rw [h1]; exact Bool.false_ne_true)] at hr
        have h2 : (lock ilt x1 (0 : Int)) = false := by simp only [lock_eq]; exact h1
        simp only [relock, h2]
        (try cbv)
        refine sel_intro (fun h => ?_) (fun h => ?_)
        · have h1 : (ile (imax (ofN 0) (1 : Int)) x1) = true := by first | exact h | (have h2 := h; simp only [choice_lk, lock_eq] at h2; exact h2) | (simp only [choice_lk, lock_eq] at h; exact h)
          rw [if_pos h1] at hr
          (try cbv)
          apply Hidden.out
          have e := Option.some.inj hr
          constructor
          refine ⟨_, hF, ?_⟩
          (try cbv); (try simp only [choice_lk, lock_eq, and_self, and_true, true_and]); (try first | exact e | exact e.symm | (and_intros <;> first | assumption | rfl | exact Eq.symm (by assumption)))
        · have h1 : (ile (imax (ofN 0) (1 : Int)) x1) = false := by first | exact h | (have h2 := h; simp only [choice_lk, lock_eq] at h2; exact h2) | (simp only [choice_lk, lock_eq] at h; exact h)
          rw [if_neg (by rw [h1]; exact Bool.false_ne_true)] at hr
          (try cbv)
          cases hr
    · rw [if_neg (by rw [h1]; exact Bool.false_ne_true)] at hr
      have h2 : (lock ieq (lock ofN 0) (lock ofN (lock (@xlen Int) l1))) = false := by simp only [lock_eq]; exact h1
      simp only [relock, h2]
      (try cbv)
      apply Hidden.out
      have e := Option.some.inj hr
      constructor
      refine ⟨_, hF, ?_⟩
      (try cbv); (try simp only [choice_lk, lock_eq, and_self, and_true, true_and]); (try first | exact e | exact e.symm | (and_intros <;> first | assumption | rfl | exact Eq.symm (by assumption)))
end Go.Proofs.Ytmnloiadjaljdaa
end
section
/-
  The walk of tollbar/tollbarlaw24.awake (printed by a program of ours).
-/
set_option linter.unusedVariables false
set_option linter.unusedSimpArgs false
namespace Go.Proofs.Ytmnloiadjaljdaa
open Go.RowKit

noncomputable def tab_tollbarlaw24_awake : Nat → Option Con := look [(7, con_drr_New), (8, con_drr_Ring_Next), (9, con_drr_Ring_State), (10, con_drr_Ring_Restore)]
set_option maxHeartbeats 4000000 in
set_option maxRecDepth 100000 in
theorem vc_tollbarlaw24_awake (P : Program) (T : Tab P tab_tollbarlaw24_awake) (hm : P.follows .mixedOrders = true) : FnVC P tab_tollbarlaw24_awake ic_6 [.t 0] 77 con_tollbarlaw24_awake := by
  intro cargs ccks ce hce hob C hk
  apply Hidden.out
  replace hce : con_tollbarlaw24_awake_1 cargs ccks = some ce := hce
  · unfold con_tollbarlaw24_awake_1 at hce
    split at hce
    rotate_left
    · cases hce
    obtain rfl := Option.some.inj hce
    have hb1 := hob _ (List.mem_singleton.2 rfl)
    have hb2 := obl.1 hb1
    clear hb1 hob hce
    refine hb2.elim fun r hF => ?_
    clear hb2
    simp only [List.length_cons, List.length_nil, Nat.zero_add, Nat.reduceAdd] at hk
    have hr : F_tollbarlaw24_awake = some r := by rw [lock_eq] at hF; exact hF
    unfold F_tollbarlaw24_awake at hr
    constructor
    (try cbv)
    have hqe : ∃ qq, F_drr_New ([(10 : Int), (20 : Int)] : List Int) = some qq := by
      cases hq : F_drr_New ([(10 : Int), (20 : Int)] : List Int) with
      | none => rw [hq] at hr; cases hr
      | some qq => exact ⟨qq, rfl⟩
    refine ⟨obl.2 (by simp only [choice_lk, lock_eq]; exact hqe), (by rintro (⟨_, _⟩) _ <;> cbv), ?_⟩
    clear hqe
    intro qq hx1
    apply Hidden.out
    simp only [choice_lk, lock_eq] at hx1
    rcases qq with ⟨m1, m2⟩
    all_goals (rw [hx1] at hr; dsimp only at hr; constructor; (try cbv))
    have hqe : ∃ qq, F_drr_Ring_Next ([(D.l [(D.i (10 : Int)), (D.b true)]), (D.l [(D.i (10 : Int)), (D.b true)])] : List D) (0 : Int) false m1 m2 = some qq := by
      cases hq : F_drr_Ring_Next ([(D.l [(D.i (10 : Int)), (D.b true)]), (D.l [(D.i (10 : Int)), (D.b true)])] : List D) (0 : Int) false m1 m2 with
      | none => rw [hq] at hr; cases hr
      | some qq => exact ⟨qq, rfl⟩
    refine ⟨obl.2 (by simp only [choice_lk, lock_eq]; exact hqe), (by rintro (⟨_, _, _, _⟩) _ <;> cbv), ?_⟩
    clear hqe
    intro qq hx2
    apply Hidden.out
    simp only [choice_lk, lock_eq] at hx2
    rcases qq with ⟨y1, y2, c1, m3⟩
    all_goals (rw [hx2] at hr; dsimp only at hr; constructor; (try cbv))
    have hqe : ∃ qq, F_drr_Ring_Next ([(D.l [(D.i (10 : Int)), (D.b true)]), (D.l [(D.i (10 : Int)), (D.b true)])] : List D) y2 c1 m1 m3 = some qq := by
      cases hq : F_drr_Ring_Next ([(D.l [(D.i (10 : Int)), (D.b true)]), (D.l [(D.i (10 : Int)), (D.b true)])] : List D) y2 c1 m1 m3 with
      | none => rw [hq] at hr; cases hr
      | some qq => exact ⟨qq, rfl⟩
    refine ⟨obl.2 (by simp only [choice_lk, lock_eq]; exact hqe), (by rintro (⟨_, _, _, _⟩) _ <;> cbv), ?_⟩
    clear hqe
    intro qq hx3
    apply Hidden.out
    simp only [choice_lk, lock_eq] at hx3
    rcases qq with ⟨y3, y4, c2, m4⟩
    all_goals (rw [hx3] at hr; dsimp only at hr; constructor; (try cbv))
    have hqe : ∃ qq, F_drr_Ring_Next ([(D.l [(D.i (10 : Int)), (D.b true)]), (D.l [(D.i (10 : Int)), (D.b true)])] : List D) y4 c2 m1 m4 = some qq := by
      cases hq : F_drr_Ring_Next ([(D.l [(D.i (10 : Int)), (D.b true)]), (D.l [(D.i (10 : Int)), (D.b true)])] : List D) y4 c2 m1 m4 with
      | none => rw [hq] at hr; cases hr
      | some qq => exact ⟨qq, rfl⟩
    refine ⟨obl.2 (by simp only [choice_lk, lock_eq]; exact hqe), (by rintro (⟨_, _, _, _⟩) _ <;> cbv), ?_⟩
    clear hqe
    intro qq hx4
    apply Hidden.out
    simp only [choice_lk, lock_eq] at hx4
    rcases qq with ⟨y5, y6, c3, m5⟩
    all_goals (rw [hx4] at hr; dsimp only at hr; constructor; (try cbv))
    have hqe : ∃ qq, F_drr_Ring_Next ([(D.l [(D.i (10 : Int)), (D.b true)]), (D.l [(D.i (10 : Int)), (D.b true)])] : List D) y6 c3 m1 m5 = some qq := by
      cases hq : F_drr_Ring_Next ([(D.l [(D.i (10 : Int)), (D.b true)]), (D.l [(D.i (10 : Int)), (D.b true)])] : List D) y6 c3 m1 m5 with
      | none => rw [hq] at hr; cases hr
      | some qq => exact ⟨qq, rfl⟩
    refine ⟨obl.2 (by simp only [choice_lk, lock_eq]; exact hqe), (by rintro (⟨_, _, _, _⟩) _ <;> cbv), ?_⟩
    clear hqe
    intro qq hx5
    apply Hidden.out
    simp only [choice_lk, lock_eq] at hx5
    rcases qq with ⟨y7, y8, c4, m6⟩
    all_goals (rw [hx5] at hr; dsimp only at hr; constructor; (try cbv))
    have hqe : ∃ qq, F_drr_Ring_State y8 c4 m1 m6 = some qq := by
      cases hq : F_drr_Ring_State y8 c4 m1 m6 with
      | none => rw [hq] at hr; cases hr
      | some qq => exact ⟨qq, rfl⟩
    refine ⟨obl.2 (by simp only [choice_lk, lock_eq]; exact hqe), (by rintro (_) _ <;> cbv), ?_⟩
    clear hqe
    intro m7 hx6
    apply Hidden.out
    simp only [choice_lk, lock_eq] at hx6
    all_goals (rw [hx6] at hr; dsimp only at hr; constructor; (try cbv))
    refine sel_intro (fun h => ?_) (fun h => ?_)
    · have h1 : (ieq y1 (0 : Int)) = true := by first | exact h | (have h2 := h; simp only [choice_lk, lock_eq] at h2; exact h2) | (simp only [choice_lk, lock_eq] at h; exact h)
      rw [if_pos h1] at hr
      (try cbv)
      refine sel_intro (fun h => ?_) (fun h => ?_)
      · have h1 : (ieq y3 (1 : Int)) = true := by first | exact h | (have h2 := h; simp only [choice_lk, lock_eq] at h2; exact h2) | (simp only [choice_lk, lock_eq] at h; exact h)
        rw [if_pos h1] at hr
        (try cbv)
        refine sel_intro (fun h => ?_) (fun h => ?_)
        · have h1 : (ieq y5 (1 : Int)) = true := by first | exact h | (have h2 := h; simp only [choice_lk, lock_eq] at h2; exact h2) | (simp only [choice_lk, lock_eq] at h; exact h)
          rw [if_pos h1] at hr
          (try cbv)
          refine sel_intro (fun h => ?_) (fun h => ?_)
          · have h1 : (ieq y7 (0 : Int)) = true := by first | exact h | (have h2 := h; simp only [choice_lk, lock_eq] at h2; exact h2) | (simp only [choice_lk, lock_eq] at h; exact h)
            rw [if_pos h1] at hr
            (try cbv)
            refine sel_intro (fun h => ?_) (fun h => ?_)
            · have h1 : (ieq y8 (0 : Int)) = true := by first | exact h | (have h2 := h; simp only [choice_lk, lock_eq] at h2; exact h2) | (simp only [choice_lk, lock_eq] at h; exact h)
              rw [if_pos h1] at hr
              (try cbv)
              refine sel_intro (fun h => ?_) (fun h => ?_)
              · have h1 : c4 = true := by first | exact h | (have h2 := h; simp only [choice_lk, lock_eq] at h2; exact h2) | (simp only [choice_lk, lock_eq] at h; exact h)
                rw [if_pos h1] at hr
                (try cbv)
                refine sel_intro (fun h => ?_) (fun h => ?_)
                · have h1 : (ieq (ofN (xlen m7)) (2 : Int)) = true := by first | exact h | (have h2 := h; simp only [choice_lk, lock_eq] at h2; exact h2) | (simp only [choice_lk, lock_eq] at h; exact h)
                  rw [if_pos h1] at hr
                  (try cbv)
                  have hqe : ∃ qq, F_drr_Ring_Next ([(D.l [(D.i (0 : Int)), (D.b false)]), (D.l [(D.i (5 : Int)), (D.b false)])] : List D) y8 c4 m1 m6 = some qq := by
                    cases hq : F_drr_Ring_Next ([(D.l [(D.i (0 : Int)), (D.b false)]), (D.l [(D.i (5 : Int)), (D.b false)])] : List D) y8 c4 m1 m6 with
                    | none => rw [hq] at hr; cases hr
                    | some qq => exact ⟨qq, rfl⟩
                  refine ⟨obl.2 (by simp only [choice_lk, lock_eq]; exact hqe), (by rintro (⟨_, _, _, _⟩) _ <;> cbv), ?_⟩
                  clear hqe
                  intro qq hx7
                  apply Hidden.out
                  simp only [choice_lk, lock_eq] at hx7
                  rcases qq with ⟨y9, y10, c5, m8⟩
                  all_goals (rw [hx7] at hr; dsimp only at hr; constructor; (try cbv))
                  refine sel_intro (fun h => ?_) (fun h => ?_)
                  · have h1 : (ieq y9 (-1 : Int)) = true := by first | exact h | (have h2 := h; simp only [choice_lk, lock_eq] at h2; exact h2) | (simp only [choice_lk, lock_eq] at h; exact h)
                    rw [if_pos h1] at hr
                    (try cbv)
                    have hqe : ∃ qq, F_drr_Ring_Restore y8 c4 y10 c5 m7 m1 m8 = some qq := by
                      cases hq : F_drr_Ring_Restore y8 c4 y10 c5 m7 m1 m8 with
                      | none => rw [hq] at hr; cases hr
                      | some qq => exact ⟨qq, rfl⟩
                    refine ⟨obl.2 (by simp only [choice_lk, lock_eq]; exact hqe), (by rintro (_ | _) _ <;> cbv), ?_⟩
                    clear hqe
                    intro qq hx8
                    apply Hidden.out
                    simp only [choice_lk, lock_eq] at hx8
                    rcases qq with _ | m9
                    all_goals (rw [hx8] at hr; dsimp only at hr; constructor; (try cbv))
                    · apply Hidden.out
                      have e := Option.some.inj hr
                      constructor
                      refine ⟨_, hF, ?_⟩
                      (try cbv); (try simp only [choice_lk, lock_eq, and_self, and_true, true_and]); (try first | exact e | exact e.symm | (and_intros <;> first | assumption | rfl | exact Eq.symm (by assumption)))
                    · have hqe : ∃ qq, F_drr_Ring_Restore_2 (0 : Int) false y8 c4 m1 m9 = some qq := by
                        cases hq : F_drr_Ring_Restore_2 (0 : Int) false y8 c4 m1 m9 with
                        | none => rw [hq] at hr; cases hr
                        | some qq => exact ⟨qq, rfl⟩
                      refine ⟨obl.2 (by simp only [choice_lk, lock_eq]; exact hqe), (by rintro (_) _ <;> cbv), ?_⟩
                      clear hqe
                      intro qq hx9
                      apply Hidden.out
                      simp only [choice_lk, lock_eq] at hx9
                      rcases qq with _
                      all_goals (rw [hx9] at hr; dsimp only at hr; constructor; (try cbv))
                      apply Hidden.out
                      have e := Option.some.inj hr
                      constructor
                      refine ⟨_, hF, ?_⟩
                      (try cbv); (try simp only [choice_lk, lock_eq, and_self, and_true, true_and]); (try first | exact e | exact e.symm | (and_intros <;> first | assumption | rfl | exact Eq.symm (by assumption)))
                  · have h1 : (ieq y9 (-1 : Int)) = false := by first | exact h | (have h2 := h; simp only [choice_lk, lock_eq] at h2; exact h2) | (simp only [choice_lk, lock_eq] at h; exact h)
                    rw [if_neg (by rw [h1]; exact Bool.false_ne_true)] at hr
                    (try cbv)
                    apply Hidden.out
                    have e := Option.some.inj hr
                    constructor
                    refine ⟨_, hF, ?_⟩
                    (try cbv); (try simp only [choice_lk, lock_eq, and_self, and_true, true_and]); (try first | exact e | exact e.symm | (and_intros <;> first | assumption | rfl | exact Eq.symm (by assumption)))
                · have h1 : (ieq (ofN (xlen m7)) (2 : Int)) = false := by first | exact h | (have h2 := h; simp only [choice_lk, lock_eq] at h2; exact h2) | (simp only [choice_lk, lock_eq] at h; exact h)
                  rw [if_neg (by rw [h1]; exact Bool.false_ne_true)] at hr
                  (try cbv)
                  apply Hidden.out
                  have e := Option.some.inj hr
                  constructor
                  refine ⟨_, hF, ?_⟩
                  (try cbv); (try simp only [choice_lk, lock_eq, and_self, and_true, true_and]); (try first | exact e | exact e.symm | (and_intros <;> first | assumption | rfl | exact Eq.symm (by assumption)))
              · have h1 : c4 = false := by first | exact h | (have h2 := h; simp only [choice_lk, lock_eq] at h2; exact h2) | (simp only [choice_lk, lock_eq] at h; exact h)
                rw [if_neg (by rw [h1]; exact Bool.false_ne_true)] at hr
                (try cbv)
                apply Hidden.out
                have e := Option.some.inj hr
                constructor
                refine ⟨_, hF, ?_⟩
                (try cbv); (try simp only [choice_lk, lock_eq, and_self, and_true, true_and]); (try first | exact e | exact e.symm | (and_intros <;> first | assumption | rfl | exact Eq.symm (by assumption)))
            · have h1 : (ieq y8 (0 : Int)) = false := by first | exact h | (have h2 := h; simp only [choice_lk, lock_eq] at h2; exact h2) | (simp only [choice_lk, lock_eq] at h; exact h)
              rw [if_neg (by rw [h1]; exact Bool.false_ne_true)] at hr
              (try cbv)
              apply Hidden.out
              have e := Option.some.inj hr
              constructor
              refine ⟨_, hF, ?_⟩
              (try cbv); (try simp only [choice_lk, lock_eq, and_self, and_true, true_and]); (try first | exact e | exact e.symm | (and_intros <;> first | assumption | rfl | exact Eq.symm (by assumption)))
          · have h1 : (ieq y7 (0 : Int)) = false := by first | exact h | (have h2 := h; simp only [choice_lk, lock_eq] at h2; exact h2) | (simp only [choice_lk, lock_eq] at h; exact h)
            rw [if_neg (by rw [h1]; exact Bool.false_ne_true)] at hr
            (try cbv)
            apply Hidden.out
            have e := Option.some.inj hr
            constructor
            refine ⟨_, hF, ?_⟩
            (try cbv); (try simp only [choice_lk, lock_eq, and_self, and_true, true_and]); (try first | exact e | exact e.symm | (and_intros <;> first | assumption | rfl | exact Eq.symm (by assumption)))
        · have h1 : (ieq y5 (1 : Int)) = false := by first | exact h | (have h2 := h; simp only [choice_lk, lock_eq] at h2; exact h2) | (simp only [choice_lk, lock_eq] at h; exact h)
          rw [if_neg (by rw [h1]; exact Bool.false_ne_true)] at hr
          (try cbv)
          apply Hidden.out
          have e := Option.some.inj hr
          constructor
          refine ⟨_, hF, ?_⟩
          (try cbv); (try simp only [choice_lk, lock_eq, and_self, and_true, true_and]); (try first | exact e | exact e.symm | (and_intros <;> first | assumption | rfl | exact Eq.symm (by assumption)))
      · have h1 : (ieq y3 (1 : Int)) = false := by first | exact h | (have h2 := h; simp only [choice_lk, lock_eq] at h2; exact h2) | (simp only [choice_lk, lock_eq] at h; exact h)
        rw [if_neg (by rw [h1]; exact Bool.false_ne_true)] at hr
        (try cbv)
        apply Hidden.out
        have e := Option.some.inj hr
        constructor
        refine ⟨_, hF, ?_⟩
        (try cbv); (try simp only [choice_lk, lock_eq, and_self, and_true, true_and]); (try first | exact e | exact e.symm | (and_intros <;> first | assumption | rfl | exact Eq.symm (by assumption)))
    · have h1 : (ieq y1 (0 : Int)) = false := by first | exact h | (have h2 := h; simp only [choice_lk, lock_eq] at h2; exact h2) | (simp only [choice_lk, lock_eq] at h; exact h)
      rw [if_neg (by rw [h1]; exact Bool.false_ne_true)] at hr
      (try cbv)
      apply Hidden.out
      have e := Option.some.inj hr
      constructor
      refine ⟨_, hF, ?_⟩
      (try cbv); (try simp only [choice_lk, lock_eq, and_self, and_true, true_and]); (try first | exact e | exact e.symm | (and_intros <;> first | assumption | rfl | exact Eq.symm (by assumption)))
end Go.Proofs.Ytmnloiadjaljdaa
end
section
/-
  The walk of tollbar/tollbarlaw24.DrrFair (printed by a program of ours).
-/
set_option linter.unusedVariables false
set_option linter.unusedSimpArgs false
namespace Go.Proofs.Ytmnloiadjaljdaa
open Go.RowKit

noncomputable def tab_tollbarlaw24_DrrFair : Nat → Option Con := look [(6, con_tollbarlaw24_awake), (7, con_drr_New), (8, con_drr_Ring_Next)]
set_option maxHeartbeats 4000000 in
set_option maxRecDepth 100000 in
theorem vc_tollbarlaw24_DrrFair (P : Program) (T : Tab P tab_tollbarlaw24_DrrFair) (hm : P.follows .mixedOrders = true) : FnVC P tab_tollbarlaw24_DrrFair ic_4 [.t 6] 242 con_tollbarlaw24_DrrFair := by
  intro cargs ccks ce hce hob C hk
  apply Hidden.out
  replace hce : con_tollbarlaw24_DrrFair_1 cargs ccks = some ce := hce
  · unfold con_tollbarlaw24_DrrFair_1 at hce
    split at hce
    rotate_left
    · cases hce
    obtain rfl := Option.some.inj hce
    rename_i l1 r1 r2
    have hb1 := hob _ (List.mem_singleton.2 rfl)
    have hb2 := obl.1 hb1
    clear hb1 hob hce
    refine hb2.elim fun r hF => ?_
    clear hb2
    simp only [List.length_cons, List.length_nil, Nat.zero_add, Nat.reduceAdd] at hk
    have hr : F_tollbarlaw24_DrrFair l1 r1 r2 = some r := by rw [lock_eq] at hF; exact hF
    unfold F_tollbarlaw24_DrrFair at hr
    constructor
    (try cbv)
    have hqe : ∃ qq, F_tollbarlaw24_awake = some qq := by
      cases hq : F_tollbarlaw24_awake with
      | none => rw [hq] at hr; cases hr
      | some qq => exact ⟨qq, rfl⟩
    refine ⟨obl.2 (by simp only [choice_lk, lock_eq]; exact hqe), (by rintro (_) _ <;> cbv), ?_⟩
    clear hqe
    intro c1 hx1
    apply Hidden.out
    simp only [choice_lk, lock_eq] at hx1
    all_goals (rw [hx1] at hr; dsimp only at hr; constructor; (try cbv))
    refine sel_intro (fun h => ?_) (fun h => ?_)
    · have h1 : c1 = false := by first | exact (bnot_t.1 h) | (have h2 := (bnot_t.1 h); simp only [choice_lk, lock_eq] at h2; exact h2) | (simp only [choice_lk, lock_eq] at h; exact (bnot_t.1 h))
      rw [if_neg (by rw [h1]; exact Bool.false_ne_true)] at hr
      (try cbv)
      apply Hidden.out
      have e := Option.some.inj hr
      constructor
      refine ⟨_, hF, ?_⟩
      (try cbv); (try simp only [choice_lk, lock_eq, and_self, and_true, true_and]); (try first | exact e | exact e.symm | (and_intros <;> first | assumption | rfl | exact Eq.symm (by assumption)))
    · have h1 : c1 = true := by first | exact (bnot_f.1 h) | (have h2 := (bnot_f.1 h); simp only [choice_lk, lock_eq] at h2; exact h2) | (simp only [choice_lk, lock_eq] at h; exact (bnot_f.1 h))
      rw [if_pos h1] at hr
      (try cbv)
      refine sel_intro (fun h => ?_) (fun h => ?_)
      · have h1 : (ilt (ofN (xlen l1)) (2 : Int)) = true := by first | exact h | (have h2 := h; simp only [choice_lk, lock_eq] at h2; exact h2) | (simp only [choice_lk, lock_eq] at h; exact h)
        rw [if_pos h1] at hr
        (try cbv)
        apply Hidden.out
        have e := Option.some.inj hr
        constructor
        refine ⟨_, hF, ?_⟩
        (try cbv); (try simp only [choice_lk, lock_eq, and_self, and_true, true_and]); (try first | exact e | exact e.symm | (and_intros <;> first | assumption | rfl | exact Eq.symm (by assumption)))
      · have h1 : (ilt (ofN (xlen l1)) (2 : Int)) = false := by first | exact h | (have h2 := h; simp only [choice_lk, lock_eq] at h2; exact h2) | (simp only [choice_lk, lock_eq] at h; exact h)
        rw [if_neg (by rw [h1]; exact Bool.false_ne_true)] at hr
        (try cbv)
        refine sel_intro (fun h => ?_) (fun h => ?_)
        · have h1 : (ilt (5 : Int) (ofN (xlen l1))) = true := by first | exact h | (have h2 := h; simp only [choice_lk, lock_eq] at h2; exact h2) | (simp only [choice_lk, lock_eq] at h; exact h)
          rw [if_pos h1] at hr
          (try cbv)
          apply Hidden.out
          have e := Option.some.inj hr
          constructor
          refine ⟨_, hF, ?_⟩
          (try cbv); (try simp only [choice_lk, lock_eq, and_self, and_true, true_and]); (try first | exact e | exact e.symm | (and_intros <;> first | assumption | rfl | exact Eq.symm (by assumption)))
        · have h1 : (ilt (5 : Int) (ofN (xlen l1))) = false := by first | exact h | (have h2 := h; simp only [choice_lk, lock_eq] at h2; exact h2) | (simp only [choice_lk, lock_eq] at h; exact h)
          rw [if_neg (by rw [h1]; exact Bool.false_ne_true)] at hr
          (try cbv)
          refine sel_intro (fun h => ?_) (fun h => ?_)
          · have h1 : (ilt (60 : Int) (ofN (xlen r1))) = true := by first | exact h | (have h2 := h; simp only [choice_lk, lock_eq] at h2; exact h2) | (simp only [choice_lk, lock_eq] at h; exact h)
            rw [if_pos h1] at hr
            (try cbv)
            apply Hidden.out
            have e := Option.some.inj hr
            constructor
            refine ⟨_, hF, ?_⟩
            (try cbv); (try simp only [choice_lk, lock_eq, and_self, and_true, true_and]); (try first | exact e | exact e.symm | (and_intros <;> first | assumption | rfl | exact Eq.symm (by assumption)))
          · have h1 : (ilt (60 : Int) (ofN (xlen r1))) = false := by first | exact h | (have h2 := h; simp only [choice_lk, lock_eq] at h2; exact h2) | (simp only [choice_lk, lock_eq] at h; exact h)
            rw [if_neg (by rw [h1]; exact Bool.false_ne_true)] at hr
            (try cbv)
            refine sel_intro (fun h => ?_) (fun h => ?_)
            · have h1 : (ilt (ofN (xlen r2)) (ofN (xlen r1))) = true := by first | exact h | (have h2 := h; simp only [choice_lk, lock_eq] at h2; exact h2) | (simp only [choice_lk, lock_eq] at h; exact h)
              rw [if_pos h1] at hr
              (try cbv)
              apply Hidden.out
              have e := Option.some.inj hr
              constructor
              refine ⟨_, hF, ?_⟩
              (try cbv); (try simp only [choice_lk, lock_eq, and_self, and_true, true_and]); (try first | exact e | exact e.symm | (and_intros <;> first | assumption | rfl | exact Eq.symm (by assumption)))
            · have h1 : (ilt (ofN (xlen r2)) (ofN (xlen r1))) = false := by first | exact h | (have h2 := h; simp only [choice_lk, lock_eq] at h2; exact h2) | (simp only [choice_lk, lock_eq] at h; exact h)
              rw [if_neg (by rw [h1]; exact Bool.false_ne_true)] at hr
              (try cbv)
              refine LoopOK.iter T (drawOK T hm) (B := (F_tollbarlaw24_DrrFair_L1 l1 r1 r2)) hr (fun | (i1, l2) => ⟨mkFr [(0, (.rsl (.ints 36 .u16 l1))), (1, (.rsl (.row 33 (.ints 36 .u16) r1))), (2, (.rsl (.row 38 (.row 4 .bool) r2))), (8, (.v (.int .u64 (1500 : Int)))), (9, (.wsl 0)), (10, (.v (.int .i64 i1)))] 242 0, [(0, .row (.ints 28 .u64 l2))], 1⟩) ?_ ?_
              · rintro ⟨u0, u1⟩ e
                simp only [Prod.mk.injEq] at e
                obtain ⟨e0, e1⟩ := e
                refine le_auto hk ?_
                (try cbv); (try simp only [choice_lk, lock_eq, and_self, and_true, true_and]); (try first | exact e | exact e.symm | (and_intros <;> first | assumption | rfl | exact Eq.symm (by assumption)))
              · clear hr
                intro x bb1 hr ht1
                apply Hidden.out
                obtain ⟨i1, l2⟩ := x
                constructor
                unfold F_tollbarlaw24_DrrFair_L1 at hr
                (try dsimp only at hr)
                (try cbv)
                refine sel_intro (fun h => ?_) (fun h => ?_)
                · have h1 : (ilt i1 (ofN (xlen l1))) = true := by first | exact h | (have h2 := h; simp only [choice_lk, lock_eq] at h2; exact h2) | (simp only [choice_lk, lock_eq] at h; exact h)
                  rw [if_pos h1] at hr
                  (try cbv)
                  have gg := guard_inv hr
                  have g := gg.1
                  replace hr := gg.2
                  clear gg
                  refine ⟨obl.2 (by first | (simp only [choice_lk, lock_eq, R.len, R.sub]; exact g) | exact g), ?_⟩
                  have gg := guard_inv hr
                  have g := gg.1
                  replace hr := gg.2
                  clear gg
                  refine ⟨obl.2 (by first | (simp only [choice_lk, lock_eq, R.len, R.sub]; exact g) | exact g), ?_⟩
                  apply Hidden.out
                  obtain rfl := Option.some.inj hr
                  constructor
                  refine ⟨⟨_, rfl⟩, ?_⟩
                  rintro ⟨u0, u1⟩ e
                  replace e := Sum.inl.inj e
                  simp only [Prod.mk.injEq] at e
                  obtain ⟨e0, e1⟩ := e
                  refine le_auto hk ?_
                  (try cbv); (try simp only [choice_lk, lock_eq, and_self, and_true, true_and]); (try first | exact e | exact e.symm | (and_intros <;> first | assumption | rfl | exact Eq.symm (by assumption)))
                · have h1 : (ilt i1 (ofN (xlen l1))) = false := by first | exact h | (have h2 := h; simp only [choice_lk, lock_eq] at h2; exact h2) | (simp only [choice_lk, lock_eq] at h; exact h)
                  rw [if_neg (by rw [h1]; exact Bool.false_ne_true)] at hr
                  (try cbv)
                  have hqe : ∃ qq, F_drr_New l2 = some qq := by
                    cases hq : F_drr_New l2 with
                    | none => rw [hq] at hr; cases hr
                    | some qq => exact ⟨qq, rfl⟩
                  refine ⟨obl.2 (by simp only [choice_lk, lock_eq]; exact hqe), (by rintro (⟨_, _⟩) _ <;> cbv), ?_⟩
                  clear hqe
                  intro qq hx2
                  apply Hidden.out
                  simp only [choice_lk, lock_eq] at hx2
                  rcases qq with ⟨m1, m2⟩
                  all_goals (rw [hx2] at hr; dsimp only at hr; constructor; (try cbv))
                  have gg := guard_inv hr
                  have g := gg.1
                  replace hr := gg.2
                  clear gg
                  refine ⟨obl.2 (by first | (simp only [choice_lk, lock_eq, R.len, R.sub]; exact g) | exact g), ?_⟩
                  apply Hidden.out
                  obtain ⟨t, hr2, hw⟩ := map_inv hr
                  clear hr
                  subst hw
                  have e := ht1 _ rfl
                  subst e
                  have hr := hr2
                  clear hr2
                  constructor
                  refine LoopOK.iter T (drawOK T hm) (B := (F_tollbarlaw24_DrrFair_L2 r1 l2 r2 m1)) hr (fun | (i4, i5, b1, l5, l6, l7, l8) => ⟨mkFr [(1, (.rsl (.row 33 (.ints 36 .u16) r1))), (2, (.rsl (.row 38 (.row 4 .bool) r2))), (8, (.v (.int .u64 (1500 : Int)))), (9, (.wsl 0)), (11, (.ptr 1 0)), (12, (.wsl 2)), (13, (.wsl 3)), (14, (.wsl 4)), (15, (.v (.int .i64 i4)))] 242 0, [(0, .row (.ints 28 .u64 l2)), (1, .blk 48 [(.wsl 5), (.v (.int .i64 i5)), (.v (.bool b1)), (.wsl 6)]), (2, .row (.ints 28 .u64 l5)), (3, .row (.ints 3 .i64 l6)), (4, .row (.ints 28 .u64 l7)), (5, .row (.ints 28 .u64 m1)), (6, .row (.ints 28 .u64 l8))], 7⟩) ?_ ?_
                  · rintro ⟨u0, u1, u2, u3, u4, u5, u6⟩ e
                    simp only [Prod.mk.injEq] at e
                    obtain ⟨e0, e1, e2, e3, e4, e5, e6⟩ := e
                    refine le_auto hk ?_
                    (try cbv); (try simp only [choice_lk, lock_eq, and_self, and_true, true_and]); (try first | exact e | exact e.symm | (and_intros <;> first | assumption | rfl | exact Eq.symm (by assumption)))
                  · clear hr
                    intro x bb1 hr ht1
                    apply Hidden.out
                    obtain ⟨i4, i5, b1, l5, l6, l7, l8⟩ := x
                    constructor
                    unfold F_tollbarlaw24_DrrFair_L2 at hr
                    (try dsimp only at hr)
                    (try cbv)
                    refine sel_intro (fun h => ?_) (fun h => ?_)
                    · have h1 : (ilt i4 (ofN (xlen r1))) = true := by first | exact h | (have h2 := h; simp only [choice_lk, lock_eq] at h2; exact h2) | (simp only [choice_lk, lock_eq] at h; exact h)
                      rw [if_pos h1] at hr
                      (try cbv)
                      refine LoopOK.iter T (drawOK T hm) (B := (F_tollbarlaw24_DrrFair_L3 l2 i4 r1 r2 i5 b1 m1 l8 l6 l7)) hr (fun | (i7, l10, r6) => ⟨mkFr [(1, (.rsl (.row 33 (.ints 36 .u16) r1))), (2, (.rsl (.row 38 (.row 4 .bool) r2))), (8, (.v (.int .u64 (1500 : Int)))), (9, (.wsl 0)), (11, (.ptr 1 0)), (12, (.wsl 2)), (13, (.wsl 3)), (14, (.wsl 4)), (15, (.v (.int .i64 i4))), (16, (.wsl 5)), (17, (.v (.int .i64 i7)))] 242 0, [(0, .row (.ints 28 .u64 l2)), (1, .blk 48 [(.wsl 6), (.v (.int .i64 i5)), (.v (.bool b1)), (.wsl 7)]), (2, .row (.ints 28 .u64 l10)), (3, .row (.ints 3 .i64 l6)), (4, .row (.ints 28 .u64 l7)), (5, .row (.row 30 (.st [(.int .u64), .bool]) r6)), (6, .row (.ints 28 .u64 m1)), (7, .row (.ints 28 .u64 l8))], 8⟩) ?_ ?_
                      · rintro ⟨u0, u1, u2⟩ e
                        simp only [Prod.mk.injEq] at e
                        obtain ⟨e0, e1, e2⟩ := e
                        refine le_auto hk ?_
                        (try cbv); (try simp only [choice_lk, lock_eq, and_self, and_true, true_and]); (try first | exact e | exact e.symm | (and_intros <;> first | assumption | rfl | exact Eq.symm (by assumption)))
                      · clear hr
                        intro x bb2 hr ht2
                        apply Hidden.out
                        obtain ⟨i7, l10, r6⟩ := x
                        constructor
                        unfold F_tollbarlaw24_DrrFair_L3 at hr
                        (try dsimp only at hr)
                        (try cbv)
                        refine sel_intro (fun h => ?_) (fun h => ?_)
                        · have h1 : (ilt i7 (ofN (xlen l2))) = true := by first | exact h | (have h2 := h; simp only [choice_lk, lock_eq] at h2; exact h2) | (simp only [choice_lk, lock_eq] at h; exact h)
                          rw [if_pos h1] at hr
                          (try cbv)
                          have gg := guard_inv hr
                          have g := gg.1
                          replace hr := gg.2
                          clear gg
                          refine ⟨obl.2 (by first | (simp only [choice_lk, lock_eq, R.len, R.sub]; exact g) | exact g), ?_⟩
                          refine sel_intro (fun h => ?_) (fun h => ?_)
                          · have h1 : (ieq (getI l10 (toN i7)) (0 : Int)) = true := by first | exact h | (have h2 := h; simp only [choice_lk, lock_eq] at h2; exact h2) | (simp only [choice_lk, lock_eq] at h; exact h)
                            rw [if_pos h1] at hr
                            (try cbv)
                            have gg := guard_inv hr
                            have g := gg.1
                            replace hr := gg.2
                            clear gg
                            refine ⟨obl.2 (by first | (simp only [choice_lk, lock_eq, R.len, R.sub]; exact g) | exact g), ?_⟩
                            refine sel_intro (fun h => ?_) (fun h => ?_)
                            · have h1 : (ilt i7 (ofN (xlen (D.toIs (getD r1 (toN i4)))))) = true := by first | exact h | (have h2 := h; simp only [choice_lk, lock_eq] at h2; exact h2) | (simp only [choice_lk, lock_eq] at h; exact h)
                              rw [if_pos h1] at hr
                              (try cbv)
                              have gg := guard_inv hr
                              have g := gg.1
                              replace hr := gg.2
                              clear gg
                              refine ⟨obl.2 (by first | (simp only [choice_lk, lock_eq, R.len, R.sub]; exact g) | exact g), ?_⟩
                              have gg := guard_inv hr
                              have g := gg.1
                              replace hr := gg.2
                              clear gg
                              refine ⟨obl.2 (by first | (simp only [choice_lk, lock_eq, R.len, R.sub]; exact g) | exact g), ?_⟩
                              have gg := guard_inv hr
                              have g := gg.1
                              replace hr := gg.2
                              clear gg
                              refine ⟨obl.2 (by first | (simp only [choice_lk, lock_eq, R.len, R.sub]; exact g) | exact g), ?_⟩
                              have gg := guard_inv hr
                              have g := gg.1
                              replace hr := gg.2
                              clear gg
                              refine ⟨obl.2 (by first | (simp only [choice_lk, lock_eq, R.len, R.sub]; exact g) | exact g), ?_⟩
                              refine sel_intro (fun h => ?_) (fun h => ?_)
                              · have h1 : (ieq (getI (setI l10 (toN i7) (iadd .u64 (irem (iconv .u64 (getI (D.toIs (getD r1 (toN i4))) (toN i7))) (1500 : Int)) (1 : Int))) (toN i7)) (0 : Int)) = true := by first | exact h | (have h2 := h; simp only [choice_lk, lock_eq] at h2; exact h2) | (simp only [choice_lk, lock_eq] at h; exact h)
                                rw [if_pos h1] at hr
                                (try cbv)
                                have gg := guard_inv hr
                                have g := gg.1
                                replace hr := gg.2
                                clear gg
                                refine ⟨obl.2 (by first | (simp only [choice_lk, lock_eq, R.len, R.sub]; exact g) | exact g), ?_⟩
                                refine sel_intro (fun h => ?_) (fun h => ?_)
                                · have h1 : (ilt i7 (2 : Int)) = true := by first | exact h | (have h2 := h; simp only [choice_lk, lock_eq] at h2; exact h2) | (simp only [choice_lk, lock_eq] at h; exact h)
                                  rw [if_pos h1] at hr
                                  (try cbv)
                                  have gg := guard_inv hr
                                  have g := gg.1
                                  replace hr := gg.2
                                  clear gg
                                  refine ⟨obl.2 (by first | (simp only [choice_lk, lock_eq, R.len, R.sub]; exact g) | exact g), ?_⟩
                                  have gg := guard_inv hr
                                  have g := gg.1
                                  replace hr := gg.2
                                  clear gg
                                  refine ⟨obl.2 (by first | (simp only [choice_lk, lock_eq, R.len, R.sub]; exact g) | exact g), ?_⟩
                                  apply Hidden.out
                                  obtain rfl := Option.some.inj hr
                                  constructor
                                  refine ⟨⟨_, rfl⟩, ?_⟩
                                  rintro ⟨u0, u1, u2⟩ e
                                  replace e := Sum.inl.inj e
                                  simp only [Prod.mk.injEq] at e
                                  obtain ⟨e0, e1, e2⟩ := e
                                  refine le_auto hk ?_
                                  (try cbv); (try simp only [choice_lk, lock_eq, and_self, and_true, true_and]); (try first | exact e | exact e.symm | (and_intros <;> first | assumption | rfl | exact Eq.symm (by assumption)))
                                · have h1 : (ilt i7 (2 : Int)) = false := by first | exact h | (have h2 := h; simp only [choice_lk, lock_eq] at h2; exact h2) | (simp only [choice_lk, lock_eq] at h; exact h)
                                  rw [if_neg (by rw [h1]; exact Bool.false_ne_true)] at hr
                                  (try cbv)
                                  have gg := guard_inv hr
                                  have g := gg.1
                                  replace hr := gg.2
                                  clear gg
                                  refine ⟨obl.2 (by first | (simp only [choice_lk, lock_eq, R.len, R.sub]; exact g) | exact g), ?_⟩
                                  refine sel_intro (fun h => ?_) (fun h => ?_)
                                  · have h1 : (ilt i7 (ofN (xlen (D.toL (getD r2 (toN i4)))))) = true := by first | exact h | (have h2 := h; simp only [choice_lk, lock_eq] at h2; exact h2) | (simp only [choice_lk, lock_eq] at h; exact h)
                                    rw [if_pos h1] at hr
                                    (try cbv)
                                    have gg := guard_inv hr
                                    have g := gg.1
                                    replace hr := gg.2
                                    clear gg
                                    refine ⟨obl.2 (by first | (simp only [choice_lk, lock_eq, R.len, R.sub]; exact g) | exact g), ?_⟩
                                    have gg := guard_inv hr
                                    have g := gg.1
                                    replace hr := gg.2
                                    clear gg
                                    refine ⟨obl.2 (by first | (simp only [choice_lk, lock_eq, R.len, R.sub]; exact g) | exact g), ?_⟩
                                    have gg := guard_inv hr
                                    have g := gg.1
                                    replace hr := gg.2
                                    clear gg
                                    refine ⟨obl.2 (by first | (simp only [choice_lk, lock_eq, R.len, R.sub]; exact g) | exact g), ?_⟩
                                    have gg := guard_inv hr
                                    have g := gg.1
                                    replace hr := gg.2
                                    clear gg
                                    refine ⟨obl.2 (by first | (simp only [choice_lk, lock_eq, R.len, R.sub]; exact g) | exact g), ?_⟩
                                    apply Hidden.out
                                    obtain rfl := Option.some.inj hr
                                    constructor
                                    refine ⟨⟨_, rfl⟩, ?_⟩
                                    rintro ⟨u0, u1, u2⟩ e
                                    replace e := Sum.inl.inj e
                                    simp only [Prod.mk.injEq] at e
                                    obtain ⟨e0, e1, e2⟩ := e
                                    refine le_auto hk ?_
                                    (try cbv); (try simp only [choice_lk, lock_eq, and_self, and_true, true_and]); (try first | exact e | exact e.symm | (and_intros <;> first | assumption | rfl | exact Eq.symm (by assumption)))
                                  · have h1 : (ilt i7 (ofN (xlen (D.toL (getD r2 (toN i4)))))) = false := by first | exact h | (have h2 := h; simp only [choice_lk, lock_eq] at h2; exact h2) | (simp only [choice_lk, lock_eq] at h; exact h)
                                    rw [if_neg (by rw [h1]; exact Bool.false_ne_true)] at hr
                                    (try cbv)
                                    have gg := guard_inv hr
                                    have g := gg.1
                                    replace hr := gg.2
                                    clear gg
                                    refine ⟨obl.2 (by first | (simp only [choice_lk, lock_eq, R.len, R.sub]; exact g) | exact g), ?_⟩
                                    have gg := guard_inv hr
                                    have g := gg.1
                                    replace hr := gg.2
                                    clear gg
                                    refine ⟨obl.2 (by first | (simp only [choice_lk, lock_eq, R.len, R.sub]; exact g) | exact g), ?_⟩
                                    apply Hidden.out
                                    obtain rfl := Option.some.inj hr
                                    constructor
                                    refine ⟨⟨_, rfl⟩, ?_⟩
                                    rintro ⟨u0, u1, u2⟩ e
                                    replace e := Sum.inl.inj e
                                    simp only [Prod.mk.injEq] at e
                                    obtain ⟨e0, e1, e2⟩ := e
                                    refine le_auto hk ?_
                                    (try cbv); (try simp only [choice_lk, lock_eq, and_self, and_true, true_and]); (try first | exact e | exact e.symm | (and_intros <;> first | assumption | rfl | exact Eq.symm (by assumption)))
                              · have h1 : (ieq (getI (setI l10 (toN i7) (iadd .u64 (irem (iconv .u64 (getI (D.toIs (getD r1 (toN i4))) (toN i7))) (1500 : Int)) (1 : Int))) (toN i7)) (0 : Int)) = false := by first | exact h | (have h2 := h; simp only [choice_lk, lock_eq] at h2; exact h2) | (simp only [choice_lk, lock_eq] at h; exact h)
                                rw [if_neg (by rw [h1]; exact Bool.false_ne_true)] at hr
                                (try cbv)
                                refine sel_intro (fun h => ?_) (fun h => ?_)
                                · have h1 : (ilt i7 (2 : Int)) = true := by first | exact h | (have h2 := h; simp only [choice_lk, lock_eq] at h2; exact h2) | (simp only [choice_lk, lock_eq] at h; exact h)
                                  rw [if_pos h1] at hr
                                  (try cbv)
                                  have gg := guard_inv hr
                                  have g := gg.1
                                  replace hr := gg.2
                                  clear gg
                                  refine ⟨obl.2 (by first | (simp only [choice_lk, lock_eq, R.len, R.sub]; exact g) | exact g), ?_⟩
                                  have gg := guard_inv hr
                                  have g := gg.1
                                  replace hr := gg.2
                                  clear gg
                                  refine ⟨obl.2 (by first | (simp only [choice_lk, lock_eq, R.len, R.sub]; exact g) | exact g), ?_⟩
                                  apply Hidden.out
                                  obtain rfl := Option.some.inj hr
                                  constructor
                                  refine ⟨⟨_, rfl⟩, ?_⟩
                                  rintro ⟨u0, u1, u2⟩ e
                                  replace e := Sum.inl.inj e
                                  simp only [Prod.mk.injEq] at e
                                  obtain ⟨e0, e1, e2⟩ := e
                                  refine le_auto hk ?_
                                  (try cbv); (try simp only [choice_lk, lock_eq, and_self, and_true, true_and]); (try first | exact e | exact e.symm | (and_intros <;> first | assumption | rfl | exact Eq.symm (by assumption)))
                                · have h1 : (ilt i7 (2 : Int)) = false := by first | exact h | (have h2 := h; simp only [choice_lk, lock_eq] at h2; exact h2) | (simp only [choice_lk, lock_eq] at h; exact h)
                                  rw [if_neg (by rw [h1]; exact Bool.false_ne_true)] at hr
                                  (try cbv)
                                  have gg := guard_inv hr
                                  have g := gg.1
                                  replace hr := gg.2
                                  clear gg
                                  refine ⟨obl.2 (by first | (simp only [choice_lk, lock_eq, R.len, R.sub]; exact g) | exact g), ?_⟩
                                  refine sel_intro (fun h => ?_) (fun h => ?_)
                                  · have h1 : (ilt i7 (ofN (xlen (D.toL (getD r2 (toN i4)))))) = true := by first | exact h | (have h2 := h; simp only [choice_lk, lock_eq] at h2; exact h2) | (simp only [choice_lk, lock_eq] at h; exact h)
                                    rw [if_pos h1] at hr
                                    (try cbv)
                                    have gg := guard_inv hr
                                    have g := gg.1
                                    replace hr := gg.2
                                    clear gg
                                    refine ⟨obl.2 (by first | (simp only [choice_lk, lock_eq, R.len, R.sub]; exact g) | exact g), ?_⟩
                                    have gg := guard_inv hr
                                    have g := gg.1
                                    replace hr := gg.2
                                    clear gg
                                    refine ⟨obl.2 (by first | (simp only [choice_lk, lock_eq, R.len, R.sub]; exact g) | exact g), ?_⟩
                                    have gg := guard_inv hr
                                    have g := gg.1
                                    replace hr := gg.2
                                    clear gg
                                    refine ⟨obl.2 (by first | (simp only [choice_lk, lock_eq, R.len, R.sub]; exact g) | exact g), ?_⟩
                                    have gg := guard_inv hr
                                    have g := gg.1
                                    replace hr := gg.2
                                    clear gg
                                    refine ⟨obl.2 (by first | (simp only [choice_lk, lock_eq, R.len, R.sub]; exact g) | exact g), ?_⟩
                                    apply Hidden.out
                                    obtain rfl := Option.some.inj hr
                                    constructor
                                    refine ⟨⟨_, rfl⟩, ?_⟩
                                    rintro ⟨u0, u1, u2⟩ e
                                    replace e := Sum.inl.inj e
                                    simp only [Prod.mk.injEq] at e
                                    obtain ⟨e0, e1, e2⟩ := e
                                    refine le_auto hk ?_
                                    (try cbv); (try simp only [choice_lk, lock_eq, and_self, and_true, true_and]); (try first | exact e | exact e.symm | (and_intros <;> first | assumption | rfl | exact Eq.symm (by assumption)))
                                  · have h1 : (ilt i7 (ofN (xlen (D.toL (getD r2 (toN i4)))))) = false := by first | exact h | (have h2 := h; simp only [choice_lk, lock_eq] at h2; exact h2) | (simp only [choice_lk, lock_eq] at h; exact h)
                                    rw [if_neg (by rw [h1]; exact Bool.false_ne_true)] at hr
                                    (try cbv)
                                    have gg := guard_inv hr
                                    have g := gg.1
                                    replace hr := gg.2
                                    clear gg
                                    refine ⟨obl.2 (by first | (simp only [choice_lk, lock_eq, R.len, R.sub]; exact g) | exact g), ?_⟩
                                    have gg := guard_inv hr
                                    have g := gg.1
                                    replace hr := gg.2
                                    clear gg
                                    refine ⟨obl.2 (by first | (simp only [choice_lk, lock_eq, R.len, R.sub]; exact g) | exact g), ?_⟩
                                    apply Hidden.out
                                    obtain rfl := Option.some.inj hr
                                    constructor
                                    refine ⟨⟨_, rfl⟩, ?_⟩
                                    rintro ⟨u0, u1, u2⟩ e
                                    replace e := Sum.inl.inj e
                                    simp only [Prod.mk.injEq] at e
                                    obtain ⟨e0, e1, e2⟩ := e
                                    refine le_auto hk ?_
                                    (try cbv); (try simp only [choice_lk, lock_eq, and_self, and_true, true_and]); (try first | exact e | exact e.symm | (and_intros <;> first | assumption | rfl | exact Eq.symm (by assumption)))
                            · have h1 : (ilt i7 (ofN (xlen (D.toIs (getD r1 (toN i4)))))) = false := by first | exact h | (have h2 := h; simp only [choice_lk, lock_eq] at h2; exact h2) | (simp only [choice_lk, lock_eq] at h; exact h)
                              rw [if_neg (by rw [h1]; exact Bool.false_ne_true)] at hr
                              (try cbv)
                              have gg := guard_inv hr
                              have g := gg.1
                              replace hr := gg.2
                              clear gg
                              refine ⟨obl.2 (by first | (simp only [choice_lk, lock_eq, R.len, R.sub]; exact g) | exact g), ?_⟩
                              refine sel_intro (fun h => ?_) (fun h => ?_)
                              · have h1 : (ieq (getI l10 (toN i7)) (0 : Int)) = true := by first | exact h | (have h2 := h; simp only [choice_lk, lock_eq] at h2; exact h2) | (simp only [choice_lk, lock_eq] at h; exact h)
                                rw [if_pos h1] at hr
                                (try cbv)
                                have gg := guard_inv hr
                                have g := gg.1
                                replace hr := gg.2
                                clear gg
                                refine ⟨obl.2 (by first | (simp only [choice_lk, lock_eq, R.len, R.sub]; exact g) | exact g), ?_⟩
                                refine sel_intro (fun h => ?_) (fun h => ?_)
                                · have h1 : (ilt i7 (2 : Int)) = true := by first | exact h | (have h2 := h; simp only [choice_lk, lock_eq] at h2; exact h2) | (simp only [choice_lk, lock_eq] at h; exact h)
                                  rw [if_pos h1] at hr
                                  (try cbv)
                                  have gg := guard_inv hr
                                  have g := gg.1
                                  replace hr := gg.2
                                  clear gg
                                  refine ⟨obl.2 (by first | (simp only [choice_lk, lock_eq, R.len, R.sub]; exact g) | exact g), ?_⟩
                                  have gg := guard_inv hr
                                  have g := gg.1
                                  replace hr := gg.2
                                  clear gg
                                  refine ⟨obl.2 (by first | (simp only [choice_lk, lock_eq, R.len, R.sub]; exact g) | exact g), ?_⟩
                                  apply Hidden.out
                                  obtain rfl := Option.some.inj hr
                                  constructor
                                  refine ⟨⟨_, rfl⟩, ?_⟩
                                  rintro ⟨u0, u1, u2⟩ e
                                  replace e := Sum.inl.inj e
                                  simp only [Prod.mk.injEq] at e
                                  obtain ⟨e0, e1, e2⟩ := e
                                  refine le_auto hk ?_
                                  (try cbv); (try simp only [choice_lk, lock_eq, and_self, and_true, true_and]); (try first | exact e | exact e.symm | (and_intros <;> first | assumption | rfl | exact Eq.symm (by assumption)))
                                · have h1 : (ilt i7 (2 : Int)) = false := by first | exact h | (have h2 := h; simp only [choice_lk, lock_eq] at h2; exact h2) | (simp only [choice_lk, lock_eq] at h; exact h)
                                  rw [if_neg (by rw [h1]; exact Bool.false_ne_true)] at hr
                                  (try cbv)
                                  have gg := guard_inv hr
                                  have g := gg.1
                                  replace hr := gg.2
                                  clear gg
                                  refine ⟨obl.2 (by first | (simp only [choice_lk, lock_eq, R.len, R.sub]; exact g) | exact g), ?_⟩
                                  refine sel_intro (fun h => ?_) (fun h => ?_)
                                  · have h1 : (ilt i7 (ofN (xlen (D.toL (getD r2 (toN i4)))))) = true := by first | exact h | (have h2 := h; simp only [choice_lk, lock_eq] at h2; exact h2) | (simp only [choice_lk, lock_eq] at h; exact h)
                                    rw [if_pos h1] at hr
                                    (try cbv)
                                    have gg := guard_inv hr
                                    have g := gg.1
                                    replace hr := gg.2
                                    clear gg
                                    refine ⟨obl.2 (by first | (simp only [choice_lk, lock_eq, R.len, R.sub]; exact g) | exact g), ?_⟩
                                    have gg := guard_inv hr
                                    have g := gg.1
                                    replace hr := gg.2
                                    clear gg
                                    refine ⟨obl.2 (by first | (simp only [choice_lk, lock_eq, R.len, R.sub]; exact g) | exact g), ?_⟩
                                    have gg := guard_inv hr
                                    have g := gg.1
                                    replace hr := gg.2
                                    clear gg
                                    refine ⟨obl.2 (by first | (simp only [choice_lk, lock_eq, R.len, R.sub]; exact g) | exact g), ?_⟩
                                    have gg := guard_inv hr
                                    have g := gg.1
                                    replace hr := gg.2
                                    clear gg
                                    refine ⟨obl.2 (by first | (simp only [choice_lk, lock_eq, R.len, R.sub]; exact g) | exact g), ?_⟩
                                    apply Hidden.out
                                    obtain rfl := Option.some.inj hr
                                    constructor
                                    refine ⟨⟨_, rfl⟩, ?_⟩
                                    rintro ⟨u0, u1, u2⟩ e
                                    replace e := Sum.inl.inj e
                                    simp only [Prod.mk.injEq] at e
                                    obtain ⟨e0, e1, e2⟩ := e
                                    refine le_auto hk ?_
                                    (try cbv); (try simp only [choice_lk, lock_eq, and_self, and_true, true_and]); (try first | exact e | exact e.symm | (and_intros <;> first | assumption | rfl | exact Eq.symm (by assumption)))
                                  · have h1 : (ilt i7 (ofN (xlen (D.toL (getD r2 (toN i4)))))) = false := by first | exact h | (have h2 := h; simp only [choice_lk, lock_eq] at h2; exact h2) | (simp only [choice_lk, lock_eq] at h; exact h)
                                    rw [if_neg (by rw [h1]; exact Bool.false_ne_true)] at hr
                                    (try cbv)
                                    have gg := guard_inv hr
                                    have g := gg.1
                                    replace hr := gg.2
                                    clear gg
                                    refine ⟨obl.2 (by first | (simp only [choice_lk, lock_eq, R.len, R.sub]; exact g) | exact g), ?_⟩
                                    have gg := guard_inv hr
                                    have g := gg.1
                                    replace hr := gg.2
                                    clear gg
                                    refine ⟨obl.2 (by first | (simp only [choice_lk, lock_eq, R.len, R.sub]; exact g) | exact g), ?_⟩
                                    apply Hidden.out
                                    obtain rfl := Option.some.inj hr
                                    constructor
                                    refine ⟨⟨_, rfl⟩, ?_⟩
                                    rintro ⟨u0, u1, u2⟩ e
                                    replace e := Sum.inl.inj e
                                    simp only [Prod.mk.injEq] at e
                                    obtain ⟨e0, e1, e2⟩ := e
                                    refine le_auto hk ?_
                                    (try cbv); (try simp only [choice_lk, lock_eq, and_self, and_true, true_and]); (try first | exact e | exact e.symm | (and_intros <;> first | assumption | rfl | exact Eq.symm (by assumption)))
                              · have h1 : (ieq (getI l10 (toN i7)) (0 : Int)) = false := by first | exact h | (have h2 := h; simp only [choice_lk, lock_eq] at h2; exact h2) | (simp only [choice_lk, lock_eq] at h; exact h)
                                rw [if_neg (by rw [h1]; exact Bool.false_ne_true)] at hr
                                (try cbv)
                                refine sel_intro (fun h => ?_) (fun h => ?_)
                                · have h1 : (ilt i7 (2 : Int)) = true := by first | exact h | (have h2 := h; simp only [choice_lk, lock_eq] at h2; exact h2) | (simp only [choice_lk, lock_eq] at h; exact h)
                                  rw [if_pos h1] at hr
                                  (try cbv)
                                  have gg := guard_inv hr
                                  have g := gg.1
                                  replace hr := gg.2
                                  clear gg
                                  refine ⟨obl.2 (by first | (simp only [choice_lk, lock_eq, R.len, R.sub]; exact g) | exact g), ?_⟩
                                  have gg := guard_inv hr
                                  have g := gg.1
                                  replace hr := gg.2
                                  clear gg
                                  refine ⟨obl.2 (by first | (simp only [choice_lk, lock_eq, R.len, R.sub]; exact g) | exact g), ?_⟩
                                  apply Hidden.out
                                  obtain rfl := Option.some.inj hr
                                  constructor
                                  refine ⟨⟨_, rfl⟩, ?_⟩
                                  rintro ⟨u0, u1, u2⟩ e
                                  replace e := Sum.inl.inj e
                                  simp only [Prod.mk.injEq] at e
                                  obtain ⟨e0, e1, e2⟩ := e
                                  refine le_auto hk ?_
                                  (try cbv); (try simp only [choice_lk, lock_eq, and_self, and_true, true_and]); (try first | exact e | exact e.symm | (and_intros <;> first | assumption | rfl | exact Eq.symm (by assumption)))
                                · have h1 : (ilt i7 (2 : Int)) = false := by first | exact h | (have h2 := h; simp only [choice_lk, lock_eq] at h2; exact h2) | (simp only [choice_lk, lock_eq] at h; exact h)
                                  rw [if_neg (by rw [h1]; exact Bool.false_ne_true)] at hr
                                  (try cbv)
                                  have gg := guard_inv hr
                                  have g := gg.1
                                  replace hr := gg.2
                                  clear gg
                                  refine ⟨obl.2 (by first | (simp only [choice_lk, lock_eq, R.len, R.sub]; exact g) | exact g), ?_⟩
                                  refine sel_intro (fun h => ?_) (fun h => ?_)
                                  · have h1 : (ilt i7 (ofN (xlen (D.toL (getD r2 (toN i4)))))) = true := by first | exact h | (have h2 := h; simp only [choice_lk, lock_eq] at h2; exact h2) | (simp only [choice_lk, lock_eq] at h; exact h)
                                    rw [if_pos h1] at hr
                                    (try cbv)
                                    have gg := guard_inv hr
                                    have g := gg.1
                                    replace hr := gg.2
                                    clear gg
                                    refine ⟨obl.2 (by first | (simp only [choice_lk, lock_eq, R.len, R.sub]; exact g) | exact g), ?_⟩
                                    have gg := guard_inv hr
                                    have g := gg.1
                                    replace hr := gg.2
                                    clear gg
                                    refine ⟨obl.2 (by first | (simp only [choice_lk, lock_eq, R.len, R.sub]; exact g) | exact g), ?_⟩
                                    have gg := guard_inv hr
                                    have g := gg.1
                                    replace hr := gg.2
                                    clear gg
                                    refine ⟨obl.2 (by first | (simp only [choice_lk, lock_eq, R.len, R.sub]; exact g) | exact g), ?_⟩
                                    have gg := guard_inv hr
                                    have g := gg.1
                                    replace hr := gg.2
                                    clear gg
                                    refine ⟨obl.2 (by first | (simp only [choice_lk, lock_eq, R.len, R.sub]; exact g) | exact g), ?_⟩
                                    apply Hidden.out
                                    obtain rfl := Option.some.inj hr
                                    constructor
                                    refine ⟨⟨_, rfl⟩, ?_⟩
                                    rintro ⟨u0, u1, u2⟩ e
                                    replace e := Sum.inl.inj e
                                    simp only [Prod.mk.injEq] at e
                                    obtain ⟨e0, e1, e2⟩ := e
                                    refine le_auto hk ?_
                                    (try cbv); (try simp only [choice_lk, lock_eq, and_self, and_true, true_and]); (try first | exact e | exact e.symm | (and_intros <;> first | assumption | rfl | exact Eq.symm (by assumption)))
                                  · have h1 : (ilt i7 (ofN (xlen (D.toL (getD r2 (toN i4)))))) = false := by first | exact h | (have h2 := h; simp only [choice_lk, lock_eq] at h2; exact h2) | (simp only [choice_lk, lock_eq] at h; exact h)
                                    rw [if_neg (by rw [h1]; exact Bool.false_ne_true)] at hr
                                    (try cbv)
                                    have gg := guard_inv hr
                                    have g := gg.1
                                    replace hr := gg.2
                                    clear gg
                                    refine ⟨obl.2 (by first | (simp only [choice_lk, lock_eq, R.len, R.sub]; exact g) | exact g), ?_⟩
                                    have gg := guard_inv hr
                                    have g := gg.1
                                    replace hr := gg.2
                                    clear gg
                                    refine ⟨obl.2 (by first | (simp only [choice_lk, lock_eq, R.len, R.sub]; exact g) | exact g), ?_⟩
                                    apply Hidden.out
                                    obtain rfl := Option.some.inj hr
                                    constructor
                                    refine ⟨⟨_, rfl⟩, ?_⟩
                                    rintro ⟨u0, u1, u2⟩ e
                                    replace e := Sum.inl.inj e
                                    simp only [Prod.mk.injEq] at e
                                    obtain ⟨e0, e1, e2⟩ := e
                                    refine le_auto hk ?_
                                    (try cbv); (try simp only [choice_lk, lock_eq, and_self, and_true, true_and]); (try first | exact e | exact e.symm | (and_intros <;> first | assumption | rfl | exact Eq.symm (by assumption)))
                          · have h1 : (ieq (getI l10 (toN i7)) (0 : Int)) = false := by first | exact h | (have h2 := h; simp only [choice_lk, lock_eq] at h2; exact h2) | (simp only [choice_lk, lock_eq] at h; exact h)
                            rw [if_neg (by rw [h1]; exact Bool.false_ne_true)] at hr
                            (try cbv)
                            have gg := guard_inv hr
                            have g := gg.1
                            replace hr := gg.2
                            clear gg
                            refine ⟨obl.2 (by first | (simp only [choice_lk, lock_eq, R.len, R.sub]; exact g) | exact g), ?_⟩
                            refine sel_intro (fun h => ?_) (fun h => ?_)
                            · have h1 : (ieq (getI l10 (toN i7)) (0 : Int)) = true := by first | exact h | (have h2 := h; simp only [choice_lk, lock_eq] at h2; exact h2) | (simp only [choice_lk, lock_eq] at h; exact h)
                              rw [if_pos h1] at hr
                              (try cbv)
                              have gg := guard_inv hr
                              have g := gg.1
                              replace hr := gg.2
                              clear gg
                              refine ⟨obl.2 (by first | (simp only [choice_lk, lock_eq, R.len, R.sub]; exact g) | exact g), ?_⟩
                              refine sel_intro (fun h => ?_) (fun h => ?_)
                              · have h1 : (ilt i7 (2 : Int)) = true := by first | exact h | (have h2 := h; simp only [choice_lk, lock_eq] at h2; exact h2) | (simp only [choice_lk, lock_eq] at h; exact h)
                                rw [if_pos h1] at hr
                                (try cbv)
                                have gg := guard_inv hr
                                have g := gg.1
                                replace hr := gg.2
                                clear gg
                                refine ⟨obl.2 (by first | (simp only [choice_lk, lock_eq, R.len, R.sub]; exact g) | exact g), ?_⟩
                                have gg := guard_inv hr
                                have g := gg.1
                                replace hr := gg.2
                                clear gg
                                refine ⟨obl.2 (by first | (simp only [choice_lk, lock_eq, R.len, R.sub]; exact g) | exact g), ?_⟩
                                apply Hidden.out
                                obtain rfl := Option.some.inj hr
                                constructor
                                refine ⟨⟨_, rfl⟩, ?_⟩
                                rintro ⟨u0, u1, u2⟩ e
                                replace e := Sum.inl.inj e
                                simp only [Prod.mk.injEq] at e
                                obtain ⟨e0, e1, e2⟩ := e
                                refine le_auto hk ?_
                                (try cbv); (try simp only [choice_lk, lock_eq, and_self, and_true, true_and]); (try first | exact e | exact e.symm | (and_intros <;> first | assumption | rfl | exact Eq.symm (by assumption)))
                              · have h1 : (ilt i7 (2 : Int)) = false := by first | exact h | (have h2 := h; simp only [choice_lk, lock_eq] at h2; exact h2) | (simp only [choice_lk, lock_eq] at h; exact h)
                                rw [if_neg (by rw [h1]; exact Bool.false_ne_true)] at hr
                                (try cbv)
                                have gg := guard_inv hr
                                have g := gg.1
                                replace hr := gg.2
                                clear gg
                                refine ⟨obl.2 (by first | (simp only [choice_lk, lock_eq, R.len, R.sub]; exact g) | exact g), ?_⟩
                                refine sel_intro (fun h => ?_) (fun h => ?_)
                                · have h1 : (ilt i7 (ofN (xlen (D.toL (getD r2 (toN i4)))))) = true := by first | exact h | (have h2 := h; simp only [choice_lk, lock_eq] at h2; exact h2) | (simp only [choice_lk, lock_eq] at h; exact h)
                                  rw [if_pos h1] at hr
                                  (try cbv)
                                  have gg := guard_inv hr
                                  have g := gg.1
                                  replace hr := gg.2
                                  clear gg
                                  refine ⟨obl.2 (by first | (simp only [choice_lk, lock_eq, R.len, R.sub]; exact g) | exact g), ?_⟩
                                  have gg := guard_inv hr
                                  have g := gg.1
                                  replace hr := gg.2
                                  clear gg
                                  refine ⟨obl.2 (by first | (simp only [choice_lk, lock_eq, R.len, R.sub]; exact g) | exact g), ?_⟩
                                  have gg := guard_inv hr
                                  have g := gg.1
                                  replace hr := gg.2
                                  clear gg
                                  refine ⟨obl.2 (by first | (simp only [choice_lk, lock_eq, R.len, R.sub]; exact g) | exact g), ?_⟩
                                  have gg := guard_inv hr
                                  have g := gg.1
                                  replace hr := gg.2
                                  clear gg
                                  refine ⟨obl.2 (by first | (simp only [choice_lk, lock_eq, R.len, R.sub]; exact g) | exact g), ?_⟩
                                  apply Hidden.out
                                  obtain rfl := Option.some.inj hr
                                  constructor
                                  refine ⟨⟨_, rfl⟩, ?_⟩
                                  rintro ⟨u0, u1, u2⟩ e
                                  replace e := Sum.inl.inj e
                                  simp only [Prod.mk.injEq] at e
                                  obtain ⟨e0, e1, e2⟩ := e
                                  refine le_auto hk ?_
                                  (try cbv); (try simp only [choice_lk, lock_eq, and_self, and_true, true_and]); (try first | exact e | exact e.symm | (and_intros <;> first | assumption | rfl | exact Eq.symm (by assumption)))
                                · have h1 : (ilt i7 (ofN (xlen (D.toL (getD r2 (toN i4)))))) = false := by first | exact h | (have h2 := h; simp only [choice_lk, lock_eq] at h2; exact h2) | (simp only [choice_lk, lock_eq] at h; exact h)
                                  rw [if_neg (by rw [h1]; exact Bool.false_ne_true)] at hr
                                  (try cbv)
                                  have gg := guard_inv hr
                                  have g := gg.1
                                  replace hr := gg.2
                                  clear gg
                                  refine ⟨obl.2 (by first | (simp only [choice_lk, lock_eq, R.len, R.sub]; exact g) | exact g), ?_⟩
                                  have gg := guard_inv hr
                                  have g := gg.1
                                  replace hr := gg.2
                                  clear gg
                                  refine ⟨obl.2 (by first | (simp only [choice_lk, lock_eq, R.len, R.sub]; exact g) | exact g), ?_⟩
                                  apply Hidden.out
                                  obtain rfl := Option.some.inj hr
                                  constructor
                                  refine ⟨⟨_, rfl⟩, ?_⟩
                                  rintro ⟨u0, u1, u2⟩ e
                                  replace e := Sum.inl.inj e
                                  simp only [Prod.mk.injEq] at e
                                  obtain ⟨e0, e1, e2⟩ := e
                                  refine le_auto hk ?_
                                  (try cbv); (try simp only [choice_lk, lock_eq, and_self, and_true, true_and]); (try first | exact e | exact e.symm | (and_intros <;> first | assumption | rfl | exact Eq.symm (by assumption)))
                            · have h1 : (ieq (getI l10 (toN i7)) (0 : Int)) = false := by first | exact h | (have h2 := h; simp only [choice_lk, lock_eq] at h2; exact h2) | (simp only [choice_lk, lock_eq] at h; exact h)
                              rw [if_neg (by rw [h1]; exact Bool.false_ne_true)] at hr
                              (try cbv)
                              refine sel_intro (fun h => ?_) (fun h => ?_)
                              · have h1 : (ilt i7 (2 : Int)) = true := by first | exact h | (have h2 := h; simp only [choice_lk, lock_eq] at h2; exact h2) | (simp only [choice_lk, lock_eq] at h; exact h)
                                rw [if_pos h1] at hr
                                (try cbv)
                                have gg := guard_inv hr
                                have g := gg.1
                                replace hr := gg.2
                                clear gg
                                refine ⟨obl.2 (by first | (simp only [choice_lk, lock_eq, R.len, R.sub]; exact g) | exact g), ?_⟩
                                have gg := guard_inv hr
                                have g := gg.1
                                replace hr := gg.2
                                clear gg
                                refine ⟨obl.2 (by first | (simp only [choice_lk, lock_eq, R.len, R.sub]; exact g) | exact g), ?_⟩
                                apply Hidden.out
                                obtain rfl := Option.some.inj hr
                                constructor
                                refine ⟨⟨_, rfl⟩, ?_⟩
                                rintro ⟨u0, u1, u2⟩ e
                                replace e := Sum.inl.inj e
                                simp only [Prod.mk.injEq] at e
                                obtain ⟨e0, e1, e2⟩ := e
                                refine le_auto hk ?_
                                (try cbv); (try simp only [choice_lk, lock_eq, and_self, and_true, true_and]); (try first | exact e | exact e.symm | (and_intros <;> first | assumption | rfl | exact Eq.symm (by assumption)))
                              · have h1 : (ilt i7 (2 : Int)) = false := by first | exact h | (have h2 := h; simp only [choice_lk, lock_eq] at h2; exact h2) | (simp only [choice_lk, lock_eq] at h; exact h)
                                rw [if_neg (by rw [h1]; exact Bool.false_ne_true)] at hr
                                (try cbv)
                                have gg := guard_inv hr
                                have g := gg.1
                                replace hr := gg.2
                                clear gg
                                refine ⟨obl.2 (by first | (simp only [choice_lk, lock_eq, R.len, R.sub]; exact g) | exact g), ?_⟩
                                refine sel_intro (fun h => ?_) (fun h => ?_)
                                · have h1 : (ilt i7 (ofN (xlen (D.toL (getD r2 (toN i4)))))) = true := by first | exact h | (have h2 := h; simp only [choice_lk, lock_eq] at h2; exact h2) | (simp only [choice_lk, lock_eq] at h; exact h)
                                  rw [if_pos h1] at hr
                                  (try cbv)
                                  have gg := guard_inv hr
                                  have g := gg.1
                                  replace hr := gg.2
                                  clear gg
                                  refine ⟨obl.2 (by first | (simp only [choice_lk, lock_eq, R.len, R.sub]; exact g) | exact g), ?_⟩
                                  have gg := guard_inv hr
                                  have g := gg.1
                                  replace hr := gg.2
                                  clear gg
                                  refine ⟨obl.2 (by first | (simp only [choice_lk, lock_eq, R.len, R.sub]; exact g) | exact g), ?_⟩
                                  have gg := guard_inv hr
                                  have g := gg.1
                                  replace hr := gg.2
                                  clear gg
                                  refine ⟨obl.2 (by first | (simp only [choice_lk, lock_eq, R.len, R.sub]; exact g) | exact g), ?_⟩
                                  have gg := guard_inv hr
                                  have g := gg.1
                                  replace hr := gg.2
                                  clear gg
                                  refine ⟨obl.2 (by first | (simp only [choice_lk, lock_eq, R.len, R.sub]; exact g) | exact g), ?_⟩
                                  apply Hidden.out
                                  obtain rfl := Option.some.inj hr
                                  constructor
                                  refine ⟨⟨_, rfl⟩, ?_⟩
                                  rintro ⟨u0, u1, u2⟩ e
                                  replace e := Sum.inl.inj e
                                  simp only [Prod.mk.injEq] at e
                                  obtain ⟨e0, e1, e2⟩ := e
                                  refine le_auto hk ?_
                                  (try cbv); (try simp only [choice_lk, lock_eq, and_self, and_true, true_and]); (try first | exact e | exact e.symm | (and_intros <;> first | assumption | rfl | exact Eq.symm (by assumption)))
                                · have h1 : (ilt i7 (ofN (xlen (D.toL (getD r2 (toN i4)))))) = false := by first | exact h | (have h2 := h; simp only [choice_lk, lock_eq] at h2; exact h2) | (simp only [choice_lk, lock_eq] at h; exact h)
                                  rw [if_neg (by rw [h1]; exact Bool.false_ne_true)] at hr
                                  (try cbv)
                                  have gg := guard_inv hr
                                  have g := gg.1
                                  replace hr := gg.2
                                  clear gg
                                  refine ⟨obl.2 (by first | (simp only [choice_lk, lock_eq, R.len, R.sub]; exact g) | exact g), ?_⟩
                                  have gg := guard_inv hr
                                  have g := gg.1
                                  replace hr := gg.2
                                  clear gg
                                  refine ⟨obl.2 (by first | (simp only [choice_lk, lock_eq, R.len, R.sub]; exact g) | exact g), ?_⟩
                                  apply Hidden.out
                                  obtain rfl := Option.some.inj hr
                                  constructor
                                  refine ⟨⟨_, rfl⟩, ?_⟩
                                  rintro ⟨u0, u1, u2⟩ e
                                  replace e := Sum.inl.inj e
                                  simp only [Prod.mk.injEq] at e
                                  obtain ⟨e0, e1, e2⟩ := e
                                  refine le_auto hk ?_
                                  (try cbv); (try simp only [choice_lk, lock_eq, and_self, and_true, true_and]); (try first | exact e | exact e.symm | (and_intros <;> first | assumption | rfl | exact Eq.symm (by assumption)))
                        · have h1 : (ilt i7 (ofN (xlen l2))) = false := by first | exact h | (have h2 := h; simp only [choice_lk, lock_eq] at h2; exact h2) | (simp only [choice_lk, lock_eq] at h; exact h)
                          rw [if_neg (by rw [h1]; exact Bool.false_ne_true)] at hr
                          (try cbv)
                          have hqe : ∃ qq, F_drr_Ring_Next r6 i5 b1 m1 l8 = some qq := by
                            cases hq : F_drr_Ring_Next r6 i5 b1 m1 l8 with
                            | none => rw [hq] at hr; cases hr
                            | some qq => exact ⟨qq, rfl⟩
                          refine ⟨obl.2 (by simp only [choice_lk, lock_eq]; exact hqe), (by rintro (⟨_, _, _, _⟩) _ <;> cbv), ?_⟩
                          clear hqe
                          intro qq hx6
                          apply Hidden.out
                          simp only [choice_lk, lock_eq] at hx6
                          rcases qq with ⟨y7, y8, c5, m6⟩
                          all_goals (rw [hx6] at hr; dsimp only at hr; constructor; (try cbv))
                          refine sel_intro (fun h => ?_) (fun h => ?_)
                          · have h1 : (ilt y7 (0 : Int)) = true := by first | exact h | (have h2 := h; simp only [choice_lk, lock_eq] at h2; exact h2) | (simp only [choice_lk, lock_eq] at h; exact h)
                            rw [if_pos h1] at hr
                            (try cbv)
                            apply Hidden.out
                            obtain rfl := Option.some.inj hr
                            have e := ht2 _ rfl
                            subst e
                            have e := ht1 _ rfl
                            constructor
                            refine ⟨_, hF, ?_⟩
                            (try cbv); (try simp only [choice_lk, lock_eq, and_self, and_true, true_and]); (try first | exact e | exact e.symm | (and_intros <;> first | assumption | rfl | exact Eq.symm (by assumption)))
                          · have h1 : (ilt y7 (0 : Int)) = false := by first | exact h | (have h2 := h; simp only [choice_lk, lock_eq] at h2; exact h2) | (simp only [choice_lk, lock_eq] at h; exact h)
                            rw [if_neg (by rw [h1]; exact Bool.false_ne_true)] at hr
                            (try cbv)
                            refine sel_intro (fun h => ?_) (fun h => ?_)
                            · have h1 : (ile (ofN (xlen l2)) y7) = true := by first | exact h | (have h2 := h; simp only [choice_lk, lock_eq] at h2; exact h2) | (simp only [choice_lk, lock_eq] at h; exact h)
                              rw [if_pos h1] at hr
                              (try cbv)
                              apply Hidden.out
                              obtain rfl := Option.some.inj hr
                              have e := ht2 _ rfl
                              subst e
                              have e := ht1 _ rfl
                              constructor
                              refine ⟨_, hF, ?_⟩
                              (try cbv); (try simp only [choice_lk, lock_eq, and_self, and_true, true_and]); (try first | exact e | exact e.symm | (and_intros <;> first | assumption | rfl | exact Eq.symm (by assumption)))
                            · have h1 : (ile (ofN (xlen l2)) y7) = false := by first | exact h | (have h2 := h; simp only [choice_lk, lock_eq] at h2; exact h2) | (simp only [choice_lk, lock_eq] at h; exact h)
                              rw [if_neg (by rw [h1]; exact Bool.false_ne_true)] at hr
                              (try cbv)
                              have gg := guard_inv hr
                              have g := gg.1
                              replace hr := gg.2
                              clear gg
                              refine ⟨obl.2 (by first | (simp only [choice_lk, lock_eq, R.len, R.sub]; exact g) | exact g), ?_⟩
                              have gg := guard_inv hr
                              have g := gg.1
                              replace hr := gg.2
                              clear gg
                              refine ⟨obl.2 (by first | (simp only [choice_lk, lock_eq, R.len, R.sub]; exact g) | exact g), ?_⟩
                              have gg := guard_inv hr
                              have g := gg.1
                              replace hr := gg.2
                              clear gg
                              refine ⟨obl.2 (by first | (simp only [choice_lk, lock_eq, R.len, R.sub]; exact g) | exact g), ?_⟩
                              have gg := guard_inv hr
                              have g := gg.1
                              replace hr := gg.2
                              clear gg
                              refine ⟨obl.2 (by first | (simp only [choice_lk, lock_eq, R.len, R.sub]; exact g) | exact g), ?_⟩
                              apply Hidden.out
                              obtain rfl := Option.some.inj hr
                              have e := ht2 _ rfl
                              subst e
                              constructor
                              refine ⟨⟨_, rfl⟩, ?_⟩
                              rintro ⟨u0, u1, u2, u3, u4, u5, u6⟩ e
                              replace e := Sum.inl.inj e
                              simp only [Prod.mk.injEq] at e
                              obtain ⟨e0, e1, e2, e3, e4, e5, e6⟩ := e
                              refine le_auto hk ?_
                              (try cbv); (try simp only [choice_lk, lock_eq, and_self, and_true, true_and]); (try first | exact e | exact e.symm | (and_intros <;> first | assumption | rfl | exact Eq.symm (by assumption)))
                    · have h1 : (ilt i4 (ofN (xlen r1))) = false := by first | exact h | (have h2 := h; simp only [choice_lk, lock_eq] at h2; exact h2) | (simp only [choice_lk, lock_eq] at h; exact h)
                      rw [if_neg (by rw [h1]; exact Bool.false_ne_true)] at hr
                      (try cbv)
                      apply Hidden.out
                      obtain ⟨t, hr2, hw⟩ := map_inv hr
                      clear hr
                      subst hw
                      have e := ht1 _ rfl
                      subst e
                      have hr := hr2
                      clear hr2
                      constructor
                      refine LoopOK.iter T (drawOK T hm) (B := (F_tollbarlaw24_DrrFair_L4 l6 l7 l2)) hr (fun | i11 => ⟨mkFr [(8, (.v (.int .u64 (1500 : Int)))), (9, (.wsl 0)), (13, (.wsl 1)), (14, (.wsl 2)), (20, (.v (.int .i64 i11)))] 242 0, [(0, .row (.ints 28 .u64 l2)), (1, .row (.ints 3 .i64 l6)), (2, .row (.ints 28 .u64 l7))], 3⟩) ?_ ?_
                      · rintro u0 e
                        refine le_auto hk ?_
                        (try cbv); (try simp only [choice_lk, lock_eq, and_self, and_true, true_and]); (try first | exact e | exact e.symm | (and_intros <;> first | assumption | rfl | exact Eq.symm (by assumption)))
                      · clear hr
                        intro x bb1 hr ht1
                        apply Hidden.out
                        obtain ⟨i11, hz⟩ : ∃ z, z = x := ⟨x, rfl⟩
                        subst hz
                        constructor
                        unfold F_tollbarlaw24_DrrFair_L4 at hr
                        (try dsimp only at hr)
                        (try cbv)
                        refine sel_intro (fun h => ?_) (fun h => ?_)
                        · have h1 : (ilt i11 (ofN (xlen l6))) = true := by first | exact h | (have h2 := h; simp only [choice_lk, lock_eq] at h2; exact h2) | (simp only [choice_lk, lock_eq] at h; exact h)
                          rw [if_pos h1] at hr
                          (try cbv)
                          refine LoopOK.iter T (drawOK T hm) (B := (F_tollbarlaw24_DrrFair_L5 l6 l7 l2 i11)) hr (fun | (i15, i16, i17) => ⟨mkFr [(8, (.v (.int .u64 (1500 : Int)))), (9, (.wsl 0)), (13, (.wsl 1)), (14, (.wsl 2)), (20, (.v (.int .i64 i11))), (21, (.v (.int .u64 i15))), (22, (.v (.int .u64 i16))), (23, (.v (.int .i64 i17)))] 242 0, [(0, .row (.ints 28 .u64 l2)), (1, .row (.ints 3 .i64 l6)), (2, .row (.ints 28 .u64 l7))], 3⟩) ?_ ?_
                          · rintro ⟨u0, u1, u2⟩ e
                            simp only [Prod.mk.injEq] at e
                            obtain ⟨e0, e1, e2⟩ := e
                            refine le_auto hk ?_
                            (try cbv); (try simp only [choice_lk, lock_eq, and_self, and_true, true_and]); (try first | exact e | exact e.symm | (and_intros <;> first | assumption | rfl | exact Eq.symm (by assumption)))
                          · clear hr
                            intro x bb2 hr ht2
                            apply Hidden.out
                            obtain ⟨i15, i16, i17⟩ := x
                            constructor
                            unfold F_tollbarlaw24_DrrFair_L5 at hr
                            (try dsimp only at hr)
                            (try cbv)
                            refine sel_intro (fun h => ?_) (fun h => ?_)
                            · have h1 : (ilt i17 (ofN (xlen l6))) = true := by first | exact h | (have h2 := h; simp only [choice_lk, lock_eq] at h2; exact h2) | (simp only [choice_lk, lock_eq] at h; exact h)
                              rw [if_pos h1] at hr
                              (try cbv)
                              have gg := guard_inv hr
                              have g := gg.1
                              replace hr := gg.2
                              clear gg
                              refine ⟨obl.2 (by first | (simp only [choice_lk, lock_eq, R.len, R.sub]; exact g) | exact g), ?_⟩
                              refine sel_intro (fun h => ?_) (fun h => ?_)
                              · have h1 : (ieq (getI l6 (toN i17)) (0 : Int)) = true := by first | exact h | (have h2 := h; simp only [choice_lk, lock_eq] at h2; exact h2) | (simp only [choice_lk, lock_eq] at h; exact h)
                                rw [if_pos h1] at hr
                                (try cbv)
                                have gg := guard_inv hr
                                have g := gg.1
                                replace hr := gg.2
                                clear gg
                                refine ⟨obl.2 (by first | (simp only [choice_lk, lock_eq, R.len, R.sub]; exact g) | exact g), ?_⟩
                                have gg := guard_inv hr
                                have g := gg.1
                                replace hr := gg.2
                                clear gg
                                refine ⟨obl.2 (by first | (simp only [choice_lk, lock_eq, R.len, R.sub]; exact g) | exact g), ?_⟩
                                refine sel_intro (fun h => ?_) (fun h => ?_)
                                · have h1 : (ieq (getI l6 (toN i17)) (1 : Int)) = true := by first | exact h | (have h2 := h; simp only [choice_lk, lock_eq] at h2; exact h2) | (simp only [choice_lk, lock_eq] at h; exact h)
                                  rw [if_pos h1] at hr
                                  (try cbv)
                                  have gg := guard_inv hr
                                  have g := gg.1
                                  replace hr := gg.2
                                  clear gg
                                  refine ⟨obl.2 (by first | (simp only [choice_lk, lock_eq, R.len, R.sub]; exact g) | exact g), ?_⟩
                                  have gg := guard_inv hr
                                  have g := gg.1
                                  replace hr := gg.2
                                  clear gg
                                  refine ⟨obl.2 (by first | (simp only [choice_lk, lock_eq, R.len, R.sub]; exact g) | exact g), ?_⟩
                                  have gg := guard_inv hr
                                  have g := gg.1
                                  replace hr := gg.2
                                  clear gg
                                  refine ⟨obl.2 (by first | (simp only [choice_lk, lock_eq, R.len, R.sub]; exact g) | exact g), ?_⟩
                                  have gg := guard_inv hr
                                  have g := gg.1
                                  replace hr := gg.2
                                  clear gg
                                  refine ⟨obl.2 (by first | (simp only [choice_lk, lock_eq, R.len, R.sub]; exact g) | exact g), ?_⟩
                                  have gg := guard_inv hr
                                  have g := gg.1
                                  replace hr := gg.2
                                  clear gg
                                  refine ⟨obl.2 (by first | (simp only [choice_lk, lock_eq, R.len, R.sub]; exact g) | exact g), ?_⟩
                                  have gg := guard_inv hr
                                  have g := gg.1
                                  replace hr := gg.2
                                  clear gg
                                  refine ⟨obl.2 (by first | (simp only [choice_lk, lock_eq, R.len, R.sub]; exact g) | exact g), ?_⟩
                                  have gg := guard_inv hr
                                  have g := gg.1
                                  replace hr := gg.2
                                  clear gg
                                  refine ⟨obl.2 (by first | (simp only [choice_lk, lock_eq, R.len, R.sub]; exact g) | exact g), ?_⟩
                                  refine sel_intro (fun h => ?_) (fun h => ?_)
                                  · have h1 : (ile (iadd .u64 (imul .u64 (getI l2 (toN (0 : Int))) (getI l2 (toN (1 : Int)))) (imul .u64 (1500 : Int) (iadd .u64 (getI l2 (toN (0 : Int))) (getI l2 (toN (1 : Int)))))) (isub .u64 (imax (imul .u64 (iadd .u64 i15 (getI l7 (toN i17))) (getI l2 (toN (1 : Int)))) (imul .u64 (iadd .u64 i16 (getI l7 (toN i17))) (getI l2 (toN (0 : Int))))) (imin (imul .u64 (iadd .u64 i15 (getI l7 (toN i17))) (getI l2 (toN (1 : Int)))) (imul .u64 (iadd .u64 i16 (getI l7 (toN i17))) (getI l2 (toN (0 : Int))))))) = true := by first | exact h | (have h2 := h; simp only [choice_lk, lock_eq] at h2; exact h2) | (simp only [choice_lk, lock_eq] at h; exact h)
                                    rw [if_pos h1] at hr
                                    (try cbv)
                                    apply Hidden.out
                                    obtain rfl := Option.some.inj hr
                                    have e := ht2 _ rfl
                                    subst e
                                    have e := ht1 _ rfl
                                    constructor
                                    refine ⟨_, hF, ?_⟩
                                    (try cbv); (try simp only [choice_lk, lock_eq, and_self, and_true, true_and]); (try first | exact e | exact e.symm | (and_intros <;> first | assumption | rfl | exact Eq.symm (by assumption)))
                                  · have h1 : (ile (iadd .u64 (imul .u64 (getI l2 (toN (0 : Int))) (getI l2 (toN (1 : Int)))) (imul .u64 (1500 : Int) (iadd .u64 (getI l2 (toN (0 : Int))) (getI l2 (toN (1 : Int)))))) (isub .u64 (imax (imul .u64 (iadd .u64 i15 (getI l7 (toN i17))) (getI l2 (toN (1 : Int)))) (imul .u64 (iadd .u64 i16 (getI l7 (toN i17))) (getI l2 (toN (0 : Int))))) (imin (imul .u64 (iadd .u64 i15 (getI l7 (toN i17))) (getI l2 (toN (1 : Int)))) (imul .u64 (iadd .u64 i16 (getI l7 (toN i17))) (getI l2 (toN (0 : Int))))))) = false := by first | exact h | (have h2 := h; simp only [choice_lk, lock_eq] at h2; exact h2) | (simp only [choice_lk, lock_eq] at h; exact h)
                                    rw [if_neg (by rw [h1]; exact Bool.false_ne_true)] at hr
                                    (try cbv)
                                    apply Hidden.out
                                    obtain rfl := Option.some.inj hr
                                    constructor
                                    refine ⟨⟨_, rfl⟩, ?_⟩
                                    rintro ⟨u0, u1, u2⟩ e
                                    replace e := Sum.inl.inj e
                                    simp only [Prod.mk.injEq] at e
                                    obtain ⟨e0, e1, e2⟩ := e
                                    refine le_auto hk ?_
                                    (try cbv); (try simp only [choice_lk, lock_eq, and_self, and_true, true_and]); (try first | exact e | exact e.symm | (and_intros <;> first | assumption | rfl | exact Eq.symm (by assumption)))
                                · have h1 : (ieq (getI l6 (toN i17)) (1 : Int)) = false := by first | exact h | (have h2 := h; simp only [choice_lk, lock_eq] at h2; exact h2) | (simp only [choice_lk, lock_eq] at h; exact h)
                                  rw [if_neg (by rw [h1]; exact Bool.false_ne_true)] at hr
                                  (try cbv)
                                  have gg := guard_inv hr
                                  have g := gg.1
                                  replace hr := gg.2
                                  clear gg
                                  refine ⟨obl.2 (by first | (simp only [choice_lk, lock_eq, R.len, R.sub]; exact g) | exact g), ?_⟩
                                  have gg := guard_inv hr
                                  have g := gg.1
                                  replace hr := gg.2
                                  clear gg
                                  refine ⟨obl.2 (by first | (simp only [choice_lk, lock_eq, R.len, R.sub]; exact g) | exact g), ?_⟩
                                  have gg := guard_inv hr
                                  have g := gg.1
                                  replace hr := gg.2
                                  clear gg
                                  refine ⟨obl.2 (by first | (simp only [choice_lk, lock_eq, R.len, R.sub]; exact g) | exact g), ?_⟩
                                  have gg := guard_inv hr
                                  have g := gg.1
                                  replace hr := gg.2
                                  clear gg
                                  refine ⟨obl.2 (by first | (simp only [choice_lk, lock_eq, R.len, R.sub]; exact g) | exact g), ?_⟩
                                  have gg := guard_inv hr
                                  have g := gg.1
                                  replace hr := gg.2
                                  clear gg
                                  refine ⟨obl.2 (by first | (simp only [choice_lk, lock_eq, R.len, R.sub]; exact g) | exact g), ?_⟩
                                  have gg := guard_inv hr
                                  have g := gg.1
                                  replace hr := gg.2
                                  clear gg
                                  refine ⟨obl.2 (by first | (simp only [choice_lk, lock_eq, R.len, R.sub]; exact g) | exact g), ?_⟩
                                  refine sel_intro (fun h => ?_) (fun h => ?_)
                                  · have h1 : (ile (iadd .u64 (imul .u64 (getI l2 (toN (0 : Int))) (getI l2 (toN (1 : Int)))) (imul .u64 (1500 : Int) (iadd .u64 (getI l2 (toN (0 : Int))) (getI l2 (toN (1 : Int)))))) (isub .u64 (imax (imul .u64 (iadd .u64 i15 (getI l7 (toN i17))) (getI l2 (toN (1 : Int)))) (imul .u64 i16 (getI l2 (toN (0 : Int))))) (imin (imul .u64 (iadd .u64 i15 (getI l7 (toN i17))) (getI l2 (toN (1 : Int)))) (imul .u64 i16 (getI l2 (toN (0 : Int))))))) = true := by first | exact h | (have h2 := h; simp only [choice_lk, lock_eq] at h2; exact h2) | (simp only [choice_lk, lock_eq] at h; exact h)
                                    rw [if_pos h1] at hr
                                    (try cbv)
                                    apply Hidden.out
                                    obtain rfl := Option.some.inj hr
                                    have e := ht2 _ rfl
                                    subst e
                                    have e := ht1 _ rfl
                                    constructor
                                    refine ⟨_, hF, ?_⟩
                                    (try cbv); (try simp only [choice_lk, lock_eq, and_self, and_true, true_and]); (try first | exact e | exact e.symm | (and_intros <;> first | assumption | rfl | exact Eq.symm (by assumption)))
                                  · have h1 : (ile (iadd .u64 (imul .u64 (getI l2 (toN (0 : Int))) (getI l2 (toN (1 : Int)))) (imul .u64 (1500 : Int) (iadd .u64 (getI l2 (toN (0 : Int))) (getI l2 (toN (1 : Int)))))) (isub .u64 (imax (imul .u64 (iadd .u64 i15 (getI l7 (toN i17))) (getI l2 (toN (1 : Int)))) (imul .u64 i16 (getI l2 (toN (0 : Int))))) (imin (imul .u64 (iadd .u64 i15 (getI l7 (toN i17))) (getI l2 (toN (1 : Int)))) (imul .u64 i16 (getI l2 (toN (0 : Int))))))) = false := by first | exact h | (have h2 := h; simp only [choice_lk, lock_eq] at h2; exact h2) | (simp only [choice_lk, lock_eq] at h; exact h)
                                    rw [if_neg (by rw [h1]; exact Bool.false_ne_true)] at hr
                                    (try cbv)
                                    apply Hidden.out
                                    obtain rfl := Option.some.inj hr
                                    constructor
                                    refine ⟨⟨_, rfl⟩, ?_⟩
                                    rintro ⟨u0, u1, u2⟩ e
                                    replace e := Sum.inl.inj e
                                    simp only [Prod.mk.injEq] at e
                                    obtain ⟨e0, e1, e2⟩ := e
                                    refine le_auto hk ?_
                                    (try cbv); (try simp only [choice_lk, lock_eq, and_self, and_true, true_and]); (try first | exact e | exact e.symm | (and_intros <;> first | assumption | rfl | exact Eq.symm (by assumption)))
                              · have h1 : (ieq (getI l6 (toN i17)) (0 : Int)) = false := by first | exact h | (have h2 := h; simp only [choice_lk, lock_eq] at h2; exact h2) | (simp only [choice_lk, lock_eq] at h; exact h)
                                rw [if_neg (by rw [h1]; exact Bool.false_ne_true)] at hr
                                (try cbv)
                                have gg := guard_inv hr
                                have g := gg.1
                                replace hr := gg.2
                                clear gg
                                refine ⟨obl.2 (by first | (simp only [choice_lk, lock_eq, R.len, R.sub]; exact g) | exact g), ?_⟩
                                refine sel_intro (fun h => ?_) (fun h => ?_)
                                · have h1 : (ieq (getI l6 (toN i17)) (1 : Int)) = true := by first | exact h | (have h2 := h; simp only [choice_lk, lock_eq] at h2; exact h2) | (simp only [choice_lk, lock_eq] at h; exact h)
                                  rw [if_pos h1] at hr
                                  (try cbv)
                                  have gg := guard_inv hr
                                  have g := gg.1
                                  replace hr := gg.2
                                  clear gg
                                  refine ⟨obl.2 (by first | (simp only [choice_lk, lock_eq, R.len, R.sub]; exact g) | exact g), ?_⟩
                                  have gg := guard_inv hr
                                  have g := gg.1
                                  replace hr := gg.2
                                  clear gg
                                  refine ⟨obl.2 (by first | (simp only [choice_lk, lock_eq, R.len, R.sub]; exact g) | exact g), ?_⟩
                                  have gg := guard_inv hr
                                  have g := gg.1
                                  replace hr := gg.2
                                  clear gg
                                  refine ⟨obl.2 (by first | (simp only [choice_lk, lock_eq, R.len, R.sub]; exact g) | exact g), ?_⟩
                                  have gg := guard_inv hr
                                  have g := gg.1
                                  replace hr := gg.2
                                  clear gg
                                  refine ⟨obl.2 (by first | (simp only [choice_lk, lock_eq, R.len, R.sub]; exact g) | exact g), ?_⟩
                                  have gg := guard_inv hr
                                  have g := gg.1
                                  replace hr := gg.2
                                  clear gg
                                  refine ⟨obl.2 (by first | (simp only [choice_lk, lock_eq, R.len, R.sub]; exact g) | exact g), ?_⟩
                                  have gg := guard_inv hr
                                  have g := gg.1
                                  replace hr := gg.2
                                  clear gg
                                  refine ⟨obl.2 (by first | (simp only [choice_lk, lock_eq, R.len, R.sub]; exact g) | exact g), ?_⟩
                                  have gg := guard_inv hr
                                  have g := gg.1
                                  replace hr := gg.2
                                  clear gg
                                  refine ⟨obl.2 (by first | (simp only [choice_lk, lock_eq, R.len, R.sub]; exact g) | exact g), ?_⟩
                                  refine sel_intro (fun h => ?_) (fun h => ?_)
                                  · have h1 : (ile (iadd .u64 (imul .u64 (getI l2 (toN (0 : Int))) (getI l2 (toN (1 : Int)))) (imul .u64 (1500 : Int) (iadd .u64 (getI l2 (toN (0 : Int))) (getI l2 (toN (1 : Int)))))) (isub .u64 (imax (imul .u64 i15 (getI l2 (toN (1 : Int)))) (imul .u64 (iadd .u64 i16 (getI l7 (toN i17))) (getI l2 (toN (0 : Int))))) (imin (imul .u64 i15 (getI l2 (toN (1 : Int)))) (imul .u64 (iadd .u64 i16 (getI l7 (toN i17))) (getI l2 (toN (0 : Int))))))) = true := by first | exact h | (have h2 := h; simp only [choice_lk, lock_eq] at h2; exact h2) | (simp only [choice_lk, lock_eq] at h; exact h)
                                    rw [if_pos h1] at hr
                                    (try cbv)
                                    apply Hidden.out
                                    obtain rfl := Option.some.inj hr
                                    have e := ht2 _ rfl
                                    subst e
                                    have e := ht1 _ rfl
                                    constructor
                                    refine ⟨_, hF, ?_⟩
                                    (try cbv); (try simp only [choice_lk, lock_eq, and_self, and_true, true_and]); (try first | exact e | exact e.symm | (and_intros <;> first | assumption | rfl | exact Eq.symm (by assumption)))
                                  · have h1 : (ile (iadd .u64 (imul .u64 (getI l2 (toN (0 : Int))) (getI l2 (toN (1 : Int)))) (imul .u64 (1500 : Int) (iadd .u64 (getI l2 (toN (0 : Int))) (getI l2 (toN (1 : Int)))))) (isub .u64 (imax (imul .u64 i15 (getI l2 (toN (1 : Int)))) (imul .u64 (iadd .u64 i16 (getI l7 (toN i17))) (getI l2 (toN (0 : Int))))) (imin (imul .u64 i15 (getI l2 (toN (1 : Int)))) (imul .u64 (iadd .u64 i16 (getI l7 (toN i17))) (getI l2 (toN (0 : Int))))))) = false := by first | exact h | (have h2 := h; simp only [choice_lk, lock_eq] at h2; exact h2) | (simp only [choice_lk, lock_eq] at h; exact h)
                                    rw [if_neg (by rw [h1]; exact Bool.false_ne_true)] at hr
                                    (try cbv)
                                    apply Hidden.out
                                    obtain rfl := Option.some.inj hr
                                    constructor
                                    refine ⟨⟨_, rfl⟩, ?_⟩
                                    rintro ⟨u0, u1, u2⟩ e
                                    replace e := Sum.inl.inj e
                                    simp only [Prod.mk.injEq] at e
                                    obtain ⟨e0, e1, e2⟩ := e
                                    refine le_auto hk ?_
                                    (try cbv); (try simp only [choice_lk, lock_eq, and_self, and_true, true_and]); (try first | exact e | exact e.symm | (and_intros <;> first | assumption | rfl | exact Eq.symm (by assumption)))
                                · have h1 : (ieq (getI l6 (toN i17)) (1 : Int)) = false := by first | exact h | (have h2 := h; simp only [choice_lk, lock_eq] at h2; exact h2) | (simp only [choice_lk, lock_eq] at h; exact h)
                                  rw [if_neg (by rw [h1]; exact Bool.false_ne_true)] at hr
                                  (try cbv)
                                  have gg := guard_inv hr
                                  have g := gg.1
                                  replace hr := gg.2
                                  clear gg
                                  refine ⟨obl.2 (by first | (simp only [choice_lk, lock_eq, R.len, R.sub]; exact g) | exact g), ?_⟩
                                  have gg := guard_inv hr
                                  have g := gg.1
                                  replace hr := gg.2
                                  clear gg
                                  refine ⟨obl.2 (by first | (simp only [choice_lk, lock_eq, R.len, R.sub]; exact g) | exact g), ?_⟩
                                  have gg := guard_inv hr
                                  have g := gg.1
                                  replace hr := gg.2
                                  clear gg
                                  refine ⟨obl.2 (by first | (simp only [choice_lk, lock_eq, R.len, R.sub]; exact g) | exact g), ?_⟩
                                  have gg := guard_inv hr
                                  have g := gg.1
                                  replace hr := gg.2
                                  clear gg
                                  refine ⟨obl.2 (by first | (simp only [choice_lk, lock_eq, R.len, R.sub]; exact g) | exact g), ?_⟩
                                  have gg := guard_inv hr
                                  have g := gg.1
                                  replace hr := gg.2
                                  clear gg
                                  refine ⟨obl.2 (by first | (simp only [choice_lk, lock_eq, R.len, R.sub]; exact g) | exact g), ?_⟩
                                  have gg := guard_inv hr
                                  have g := gg.1
                                  replace hr := gg.2
                                  clear gg
                                  refine ⟨obl.2 (by first | (simp only [choice_lk, lock_eq, R.len, R.sub]; exact g) | exact g), ?_⟩
                                  refine sel_intro (fun h => ?_) (fun h => ?_)
                                  · have h1 : (ile (iadd .u64 (imul .u64 (getI l2 (toN (0 : Int))) (getI l2 (toN (1 : Int)))) (imul .u64 (1500 : Int) (iadd .u64 (getI l2 (toN (0 : Int))) (getI l2 (toN (1 : Int)))))) (isub .u64 (imax (imul .u64 i15 (getI l2 (toN (1 : Int)))) (imul .u64 i16 (getI l2 (toN (0 : Int))))) (imin (imul .u64 i15 (getI l2 (toN (1 : Int)))) (imul .u64 i16 (getI l2 (toN (0 : Int))))))) = true := by first | exact h | (have h2 := h; simp only [choice_lk, lock_eq] at h2; exact h2) | (simp only [choice_lk, lock_eq] at h; exact h)
                                    rw [if_pos h1] at hr
                                    (try cbv)
                                    apply Hidden.out
                                    obtain rfl := Option.some.inj hr
                                    have e := ht2 _ rfl
                                    subst e
                                    have e := ht1 _ rfl
                                    constructor
                                    refine ⟨_, hF, ?_⟩
                                    (try cbv); (try simp only [choice_lk, lock_eq, and_self, and_true, true_and]); (try first | exact e | exact e.symm | (and_intros <;> first | assumption | rfl | exact Eq.symm (by assumption)))
                                  · have h1 : (ile (iadd .u64 (imul .u64 (getI l2 (toN (0 : Int))) (getI l2 (toN (1 : Int)))) (imul .u64 (1500 : Int) (iadd .u64 (getI l2 (toN (0 : Int))) (getI l2 (toN (1 : Int)))))) (isub .u64 (imax (imul .u64 i15 (getI l2 (toN (1 : Int)))) (imul .u64 i16 (getI l2 (toN (0 : Int))))) (imin (imul .u64 i15 (getI l2 (toN (1 : Int)))) (imul .u64 i16 (getI l2 (toN (0 : Int))))))) = false := by first | exact h | (have h2 := h; simp only [choice_lk, lock_eq] at h2; exact h2) | (simp only [choice_lk, lock_eq] at h; exact h)
                                    rw [if_neg (by rw [h1]; exact Bool.false_ne_true)] at hr
                                    (try cbv)
                                    apply Hidden.out
                                    obtain rfl := Option.some.inj hr
                                    constructor
                                    refine ⟨⟨_, rfl⟩, ?_⟩
                                    rintro ⟨u0, u1, u2⟩ e
                                    replace e := Sum.inl.inj e
                                    simp only [Prod.mk.injEq] at e
                                    obtain ⟨e0, e1, e2⟩ := e
                                    refine le_auto hk ?_
                                    (try cbv); (try simp only [choice_lk, lock_eq, and_self, and_true, true_and]); (try first | exact e | exact e.symm | (and_intros <;> first | assumption | rfl | exact Eq.symm (by assumption)))
                            · have h1 : (ilt i17 (ofN (xlen l6))) = false := by first | exact h | (have h2 := h; simp only [choice_lk, lock_eq] at h2; exact h2) | (simp only [choice_lk, lock_eq] at h; exact h)
                              rw [if_neg (by rw [h1]; exact Bool.false_ne_true)] at hr
                              (try cbv)
                              apply Hidden.out
                              obtain rfl := Option.some.inj hr
                              have e := ht2 _ rfl
                              subst e
                              constructor
                              refine ⟨⟨_, rfl⟩, ?_⟩
                              rintro u0 e
                              replace e := Sum.inl.inj e
                              refine le_auto hk ?_
                              (try cbv); (try simp only [choice_lk, lock_eq, and_self, and_true, true_and]); (try first | exact e | exact e.symm | (and_intros <;> first | assumption | rfl | exact Eq.symm (by assumption)))
                        · have h1 : (ilt i11 (ofN (xlen l6))) = false := by first | exact h | (have h2 := h; simp only [choice_lk, lock_eq] at h2; exact h2) | (simp only [choice_lk, lock_eq] at h; exact h)
                          rw [if_neg (by rw [h1]; exact Bool.false_ne_true)] at hr
                          (try cbv)
                          apply Hidden.out
                          obtain rfl := Option.some.inj hr
                          have e := ht1 _ rfl
                          constructor
                          refine ⟨_, hF, ?_⟩
                          (try cbv); (try simp only [choice_lk, lock_eq, and_self, and_true, true_and]); (try first | exact e | exact e.symm | (and_intros <;> first | assumption | rfl | exact Eq.symm (by assumption)))
end Go.Proofs.Ytmnloiadjaljdaa
end
section
/-
  A walk that reckons: from a contract to what a row asks for.
-/
set_option linter.unusedVariables false
set_option linter.unusedSimpArgs false
namespace Go.Proofs.Ytmnloiadjaljdaa
open Go.RowKit

/-- A function that but reads what it is given, and answers true. -/
theorem law_calls {P : Program} {f : FuncId} {con : Con} (h : FnOK P f con) {cargs : List SV} {obs : List Prop} (hc : con.f cargs [] = some ⟨obs, .one (.v (.bool true)) []⟩) (hob : ∀ p ∈ obs, p) {W : World} {args : List Value} (hd : DensA (fun _ => none) W (fun _ => False) cargs args) :
    Calls P f args.toArray W fun e W' => e = .returned (.bool true) ∧ Below W.heap.size W W' := by
  have hO : ∀ b, ¬ Own (fun _ => none) (canon 0 ([] : List Ck)) b := by
    rintro b ⟨id, c, p, h1, h2, h3⟩
    cases h2
  have hS : HSat (ctxOf W (fun _ => False) (fun _ => none) []) (fun _ => none) (canon 0 []) (fun i => ([] : List Ck).length ≤ i) W := by
    refine ⟨fun id c hc => by simp [canon, hget] at hc, fun i j c d p q b h1 => by simp [canon, hget] at h1, fun b hb => absurd hb (hO b), rfl, rfl, rfl, Nat.le_refl _, fun _ _ _ => rfl, fun b hb => hb.elim, fun _ _ => rfl, fun id hid => rfl⟩
  have hA : Avo (ctxOf W (fun _ => False) (fun _ => none) []) (fun _ => none) (canon 0 []) = fun _ => False := by
    funext b
    simp only [Avo, ctxOf, false_or, eq_iff_iff, iff_false]
    exact hO b
  have key := h cargs [] _ hc hob (fun _ => False) (fun _ => none) W args hS (by rw [hA]; exact hd)
  refine key.mono ?_
  rintro e W' ⟨u, PL', rfl, H, D⟩
  cases D
  refine ⟨rfl, ?_⟩
  exact ⟨H.os, H.tape, H.output, H.size, fun k hk => H.old k hk (hO k)⟩

/-- The same, by a contract that leaves open what it yields. -/
theorem law_many {P : Program} {f : FuncId} {con : Con} (h : FnOK P f con) {cargs : List SV} {obs : List Prop} {X : Type} {Pr : X → Prop} {v : X → SV} {post : X → List PostC} (hc : con.f cargs [] = some ⟨obs, .many X Pr v post⟩) (hob : ∀ p ∈ obs, p) (hv : ∀ x, Pr x → v x = .v (.bool true) ∧ post x = []) {W : World} {args : List Value} (hd : DensA (fun _ => none) W (fun _ => False) cargs args) :
    Calls P f args.toArray W fun e W' => e = .returned (.bool true) ∧ Below W.heap.size W W' := by
  have hO : ∀ b, ¬ Own (fun _ => none) (canon 0 ([] : List Ck)) b := by
    rintro b ⟨id, c, p, h1, h2, h3⟩
    cases h2
  have hS : HSat (ctxOf W (fun _ => False) (fun _ => none) []) (fun _ => none) (canon 0 []) (fun i => ([] : List Ck).length ≤ i) W := by
    refine ⟨fun id c hc => by simp [canon, hget] at hc, fun i j c d p q b h1 => by simp [canon, hget] at h1, fun b hb => absurd hb (hO b), rfl, rfl, rfl, Nat.le_refl _, fun _ _ _ => rfl, fun b hb => hb.elim, fun _ _ => rfl, fun id hid => rfl⟩
  have hA : Avo (ctxOf W (fun _ => False) (fun _ => none) []) (fun _ => none) (canon 0 []) = fun _ => False := by
    funext b
    simp only [Avo, ctxOf, false_or, eq_iff_iff, iff_false]
    exact hO b
  have key := h cargs [] _ hc hob (fun _ => False) (fun _ => none) W args hS (by rw [hA]; exact hd)
  refine key.mono ?_
  rintro e W' ⟨u, PL', rfl, x, hx, H, D⟩
  obtain ⟨e1, e2⟩ := hv x hx
  rw [e1] at D
  cases D
  refine ⟨rfl, ?_⟩
  exact ⟨H.os, H.tape, H.output, H.size, fun k hk => H.old k hk (hO k)⟩
theorem densA_nil {PL : Nat → Option Pl} {w : World} {Av : Nat → Prop} : DensA PL w Av [] [] := ⟨rfl, fun j h1 _ => absurd h1 (by simp)⟩
theorem densA_cons {PL : Nat → Option Pl} {w : World} {Av : Nat → Prop} {x : SV} {l : List SV} {c : Value} {cs : List Value} (h : Den PL w Av x c) (k : DensA PL w Av l cs) : DensA PL w Av (x :: l) (c :: cs) :=
  ⟨by simp [k.1], fun j h1 h2 => by
    cases j with
    | zero => exact h
    | succ j => exact k.2 j (by simpa using h1) (by simpa using h2)⟩
theorem den_str {PL : Nat → Option Pl} {w : World} {Av : Nat → Prop} (b : ByteArray) : Den PL w Av (.str b.data.toList) (.string b) := by
  have := Den.str (PL := PL) (w := w) (Av := Av) b.data.toList
  simpa using this
end Go.Proofs.Ytmnloiadjaljdaa
end
section
/-
  The walks of the functions that tollbar/tollbarlaw24.DrrFair reaches, tied to the program (printed by a program of ours).
-/
set_option linter.unusedVariables false
set_option linter.unusedSimpArgs false
namespace Go.Proofs.Ytmnloiadjaljdaa
open Go.RowKit

theorem mixed : Try.prog.follows .mixedOrders = true := by kernel_rfl
theorem tabok_slices_Clone : Tab Try.prog tab_slices_Clone := Tab.nil _
theorem ok_slices_Clone : FnOK Try.prog 12 con_slices_Clone := FnOK.of tabok_slices_Clone mixed Try.func12 comp_12 (vc_slices_Clone _ tabok_slices_Clone mixed)
theorem tabok_drr_New : Tab Try.prog tab_drr_New := Tab.cons (Tab.nil _) ok_slices_Clone Try.func12 rfl rfl
theorem ok_drr_New : FnOK Try.prog 7 con_drr_New := FnOK.of tabok_drr_New mixed Try.func7 comp_7 (vc_drr_New _ tabok_drr_New mixed)
theorem tabok_drr_Ring_on : Tab Try.prog tab_drr_Ring_on := Tab.nil _
theorem ok_drr_Ring_on : FnOK Try.prog 15 con_drr_Ring_on := FnOK.of tabok_drr_Ring_on mixed Try.func15 comp_15 (vc_drr_Ring_on _ tabok_drr_Ring_on mixed)
theorem tabok_sat_Add : Tab Try.prog tab_sat_Add := Tab.nil _
theorem ok_sat_Add : FnOK Try.prog 16 con_sat_Add := FnOK.of tabok_sat_Add mixed Try.func16 comp_16 (vc_sat_Add _ tabok_sat_Add mixed)
theorem tabok_drr_Ring_visit : Tab Try.prog tab_drr_Ring_visit := Tab.cons (Tab.cons (Tab.nil _) ok_sat_Add Try.func16 rfl rfl) ok_drr_Ring_on Try.func15 rfl rfl
theorem ok_drr_Ring_visit : FnOK Try.prog 13 con_drr_Ring_visit := FnOK.of tabok_drr_Ring_visit mixed Try.func13 comp_13 (vc_drr_Ring_visit _ tabok_drr_Ring_visit mixed)
theorem tabok_drr_Ring_Next : Tab Try.prog tab_drr_Ring_Next := Tab.cons (Tab.nil _) ok_drr_Ring_visit Try.func13 rfl rfl
theorem ok_drr_Ring_Next : FnOK Try.prog 8 con_drr_Ring_Next := FnOK.of tabok_drr_Ring_Next mixed Try.func8 comp_8 (vc_drr_Ring_Next _ tabok_drr_Ring_Next mixed)
theorem tabok_drr_copied : Tab Try.prog tab_drr_copied := Tab.nil _
theorem ok_drr_copied : FnOK Try.prog 14 con_drr_copied := FnOK.of tabok_drr_copied mixed Try.func14 comp_14 (vc_drr_copied _ tabok_drr_copied mixed)
theorem tabok_drr_Ring_State : Tab Try.prog tab_drr_Ring_State := Tab.cons (Tab.nil _) ok_drr_copied Try.func14 rfl rfl
theorem ok_drr_Ring_State : FnOK Try.prog 9 con_drr_Ring_State := FnOK.of tabok_drr_Ring_State mixed Try.func9 comp_9 (vc_drr_Ring_State _ tabok_drr_Ring_State mixed)
theorem tabok_drr_Ring_Restore : Tab Try.prog tab_drr_Ring_Restore := Tab.cons (Tab.nil _) ok_drr_copied Try.func14 rfl rfl
theorem ok_drr_Ring_Restore : FnOK Try.prog 10 con_drr_Ring_Restore := FnOK.of tabok_drr_Ring_Restore mixed Try.func10 comp_10 (vc_drr_Ring_Restore _ tabok_drr_Ring_Restore mixed)
theorem tabok_tollbarlaw24_awake : Tab Try.prog tab_tollbarlaw24_awake := Tab.cons (Tab.cons (Tab.cons (Tab.cons (Tab.nil _) ok_drr_Ring_Restore Try.func10 rfl rfl) ok_drr_Ring_State Try.func9 rfl rfl) ok_drr_Ring_Next Try.func8 rfl rfl) ok_drr_New Try.func7 rfl rfl
theorem ok_tollbarlaw24_awake : FnOK Try.prog 6 con_tollbarlaw24_awake := FnOK.of tabok_tollbarlaw24_awake mixed Try.func6 comp_6 (vc_tollbarlaw24_awake _ tabok_tollbarlaw24_awake mixed)
theorem tabok_tollbarlaw24_DrrFair : Tab Try.prog tab_tollbarlaw24_DrrFair := Tab.cons (Tab.cons (Tab.cons (Tab.nil _) ok_drr_Ring_Next Try.func8 rfl rfl) ok_drr_New Try.func7 rfl rfl) ok_tollbarlaw24_awake Try.func6 rfl rfl
theorem ok_tollbarlaw24_DrrFair : FnOK Try.prog 4 con_tollbarlaw24_DrrFair := FnOK.of tabok_tollbarlaw24_DrrFair mixed Try.func4 comp_4 (vc_tollbarlaw24_DrrFair _ tabok_tollbarlaw24_DrrFair mixed)

end Go.Proofs.Ytmnloiadjaljdaa
end
