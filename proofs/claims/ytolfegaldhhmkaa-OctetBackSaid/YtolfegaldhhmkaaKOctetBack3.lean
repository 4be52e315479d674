/-
  Texts that the row of this claim stands on, one behind the other.
-/
import Derived.Test.YtolfegaldhhmkaaProg
import Derived.Below
import Derived.Test.YtolfegaldhhmkaaKOctetBack1
import Derived.Test.YtolfegaldhhmkaaKOctetBack2
section
/-
  What the functions do, told plainly (printed by a program of ours).
-/
set_option linter.unusedVariables false
set_option linter.unusedSimpArgs false
namespace Go.Proofs.Ytolfegaldhhmkaa

noncomputable def cloneB (l : List UInt8) : Option (List UInt8) := if ((xlen l : Nat) : Int) * ((1 : Nat) : Int) ≤ 140737488355328 then some l else none

noncomputable def F_octet_Open (s1 : List UInt8) : Option ((List UInt8)) :=
  match cloneB s1 with
  | none => none
  | some t1 =>
    some t1

noncomputable def F_octet_Window_fail (x1 : Int) (x2 : Int) (s1 : List UInt8) : Option (Int) :=
  if (ieq x2 (0 : Int)) = true then
    some x1
  else
    some x2

noncomputable def F_octet_Window_Bytes (x1 : Int) (x2 : Int) (s1 : List UInt8) : Option (Nat × Nat × Int × (List UInt8)) :=
  if (ilt x1 (0 : Int)) = true then
    match F_octet_Window_fail (1 : Int) x2 s1 with
    | none => none
    | some y1 =>
      if (ieq y1 (0 : Int)) = true then
        if 0 ≤ x1 ∧ x1 ≤ x1 ∧ x1 * ((1 : Nat) : Int) ≤ 140737488355328 ∧ x1 ≤ 9223372036854775807 then
          if 0 ≤ (ofN (nmin (xlen (@lrep UInt8 (toN x1) (0 : UInt8))) (xlen s1))) ∧ (ofN (nmin (xlen (@lrep UInt8 (toN x1) (0 : UInt8))) (xlen s1))) ≤ (ofN (xlen s1)) then
            some ((toN (ofN (nmin (xlen (@lrep UInt8 (toN x1) (0 : UInt8))) (xlen s1)))), (ndec (xlen s1) (toN (ofN (nmin (xlen (@lrep UInt8 (toN x1) (0 : UInt8))) (xlen s1))))), y1, (lspl (@lrep UInt8 (toN x1) (0 : UInt8)) 0 (lsub s1 0 (nmin (xlen (@lrep UInt8 (toN x1) (0 : UInt8))) (xlen s1)))))
          else none
        else none
      else
        some (0, (xlen s1), y1, ([] : List UInt8))
  else
    if (ilt (ofN (xlen s1)) x1) = true then
      match F_octet_Window_fail (10 : Int) x2 s1 with
      | none => none
      | some y2 =>
        if (ieq y2 (0 : Int)) = true then
          if 0 ≤ x1 ∧ x1 ≤ x1 ∧ x1 * ((1 : Nat) : Int) ≤ 140737488355328 ∧ x1 ≤ 9223372036854775807 then
            if 0 ≤ (ofN (nmin (xlen (@lrep UInt8 (toN x1) (0 : UInt8))) (xlen s1))) ∧ (ofN (nmin (xlen (@lrep UInt8 (toN x1) (0 : UInt8))) (xlen s1))) ≤ (ofN (xlen s1)) then
              some ((toN (ofN (nmin (xlen (@lrep UInt8 (toN x1) (0 : UInt8))) (xlen s1)))), (ndec (xlen s1) (toN (ofN (nmin (xlen (@lrep UInt8 (toN x1) (0 : UInt8))) (xlen s1))))), y2, (lspl (@lrep UInt8 (toN x1) (0 : UInt8)) 0 (lsub s1 0 (nmin (xlen (@lrep UInt8 (toN x1) (0 : UInt8))) (xlen s1)))))
            else none
          else none
        else
          some (0, (xlen s1), y2, ([] : List UInt8))
    else
      if (ieq x2 (0 : Int)) = true then
        if 0 ≤ x1 ∧ x1 ≤ x1 ∧ x1 * ((1 : Nat) : Int) ≤ 140737488355328 ∧ x1 ≤ 9223372036854775807 then
          if 0 ≤ (ofN (nmin (xlen (@lrep UInt8 (toN x1) (0 : UInt8))) (xlen s1))) ∧ (ofN (nmin (xlen (@lrep UInt8 (toN x1) (0 : UInt8))) (xlen s1))) ≤ (ofN (xlen s1)) then
            some ((toN (ofN (nmin (xlen (@lrep UInt8 (toN x1) (0 : UInt8))) (xlen s1)))), (ndec (xlen s1) (toN (ofN (nmin (xlen (@lrep UInt8 (toN x1) (0 : UInt8))) (xlen s1))))), x2, (lspl (@lrep UInt8 (toN x1) (0 : UInt8)) 0 (lsub s1 0 (nmin (xlen (@lrep UInt8 (toN x1) (0 : UInt8))) (xlen s1)))))
          else none
        else none
      else
        some (0, (xlen s1), x2, ([] : List UInt8))

noncomputable def F_octet_Window_Err (n1 : Nat) (n2 : Nat) (x1 : Int) (s1 : List UInt8) : Option (Unit) :=
  some ()

noncomputable def F_octet_Window_Sub (x1 : Int) (x2 : Int) (s1 : List UInt8) : Option (Nat × Nat × Int × Int × (List UInt8)) :=
  match F_octet_Window_Bytes x1 x2 s1 with
  | none => none
  | some (k1, k2, y1, t1) =>
    match F_octet_Window_Err k1 k2 y1 s1 with
    | none => none
    | some () =>
      some (k1, k2, y1, y1, t1)

noncomputable def F_octet_Value_L1 (s1 : List UInt8) : Int × Int → Option ((Int × Int) ⊕ (Int × Bool))
  | (i1, i2) =>
    if (ilt i2 (ofN (xlen s1))) = true then
      if 0 ≤ i2 ∧ i2 < (ofN (xlen s1)) then
        if 0 ≤ (56 : Int) then
          if (ilt (0 : Int) (ishr .u64 i1 (56 : Int))) = true then
            some (.inr ((0 : Int), false))
          else
            if 0 ≤ (8 : Int) then
              some (.inl ((ior .u64 (ishl .u64 i1 (8 : Int)) (iconv .u64 (getB s1 (toN i2)))), (iadd .i64 i2 (1 : Int))))
            else none
        else none
      else none
    else
      some (.inr (i1, true))
noncomputable def F_octet_Value (s1 : List UInt8) : Option (Int × Bool) :=
  iter (F_octet_Value_L1 s1) ((0 : Int), (0 : Int))

noncomputable def F_octet_Big_L1 (x1 : Int) : Int × (List UInt8) → Option ((Int × (List UInt8)) ⊕ ((List UInt8)))
  | (i1, s1) =>
    if (ile (0 : Int) i1) = true then
      if 0 ≤ (imul .i64 (8 : Int) i1) then
        if 0 ≤ (iconv .u8 (ishr .u64 x1 (imul .i64 (8 : Int) i1))) ∧ (iconv .u8 (ishr .u64 x1 (imul .i64 (8 : Int) i1))) < 256 then
          if ((((xlen s1) : Nat) : Int) + (((xlen (byteOf (iconv .u8 (ishr .u64 x1 (imul .i64 (8 : Int) i1))) :: ([] : List UInt8))) : Nat) : Int)) * ((1 : Nat) : Int) ≤ 140737488355328 then
            some (.inl ((isub .i64 i1 (1 : Int)), (cat s1 (byteOf (iconv .u8 (ishr .u64 x1 (imul .i64 (8 : Int) i1))) :: ([] : List UInt8)))))
          else none
        else none
      else none
    else
      some (.inr s1)
noncomputable def F_octet_Big (x1 : Int) (x2 : Int) : Option ((List UInt8)) :=
  if (ilt x2 (1 : Int)) = true then
    some ([] : List UInt8)
  else
    if (ilt (8 : Int) x2) = true then
      some ([] : List UInt8)
    else
      iter (F_octet_Big_L1 x1) ((isub .i64 x2 (1 : Int)), ([] : List UInt8))

noncomputable def F_octet_Least_L1 (x1 : Int) : Int × Int → Option ((Int × Int) ⊕ ((List UInt8)))
  | (i1, i2) =>
    if (ilt (0 : Int) i2) = true then
      if 0 ≤ (8 : Int) then
        some (.inl ((iadd .i64 i1 (1 : Int)), (ishr .u64 i2 (8 : Int))))
      else none
    else
      match F_octet_Big x1 i1 with
      | none => none
      | some t1 =>
        some (.inr t1)
noncomputable def F_octet_Least (x1 : Int) : Option ((List UInt8)) :=
  iter (F_octet_Least_L1 x1) ((0 : Int), x1)

noncomputable def F_octet_Window_Num (x1 : Int) (x2 : Int) (s1 : List UInt8) : Option (Int × Nat × Nat × Int) :=
  if (ilt x1 (1 : Int)) = true then
    match F_octet_Window_fail (1 : Int) x2 s1 with
    | none => none
    | some y1 =>
      some ((0 : Int), 0, (xlen s1), y1)
  else
    if (ilt (8 : Int) x1) = true then
      match F_octet_Window_fail (1 : Int) x2 s1 with
      | none => none
      | some y2 =>
        some ((0 : Int), 0, (xlen s1), y2)
    else
      match F_octet_Window_Bytes x1 x2 s1 with
      | none => none
      | some (k1, k2, y3, t1) =>
        match F_octet_Value t1 with
        | none => none
        | some (y4, c1) =>
          some (y4, k1, k2, y3)

noncomputable def F_octet_Window_Left (n1 : Nat) (n2 : Nat) (x1 : Int) (s1 : List UInt8) : Option (Int) :=
  some (ofN n2)

noncomputable def F_octet_Window_End (n1 : Nat) (n2 : Nat) (x1 : Int) (s1 : List UInt8) : Option (Int) :=
  match F_octet_Window_Err n1 n2 x1 s1 with
  | none => none
  | some () =>
    if (ieq x1 (0 : Int)) = true then
      if (ieq (ofN n2) (0 : Int)) = true then
        some x1
      else
        some (11 : Int)
    else
      some x1

noncomputable def F_octet_Window_fail_2 (x1 : Int) (n1 : Nat) (n2 : Nat) (x2 : Int) (s1 : List UInt8) : Option (Int) :=
  if (ieq x2 (0 : Int)) = true then
    some x1
  else
    some x2

noncomputable def F_octet_Window_Bytes_2 (x1 : Int) (n1 : Nat) (n2 : Nat) (x2 : Int) (s1 : List UInt8) : Option (Nat × Nat × Int × (List UInt8)) :=
  if (ilt x1 (0 : Int)) = true then
    match F_octet_Window_fail_2 (1 : Int) n1 n2 x2 s1 with
    | none => none
    | some y1 =>
      if (ieq y1 (0 : Int)) = true then
        if 0 ≤ x1 ∧ x1 ≤ x1 ∧ x1 * ((1 : Nat) : Int) ≤ 140737488355328 ∧ x1 ≤ 9223372036854775807 then
          if 0 ≤ (ofN (nmin (xlen (@lrep UInt8 (toN x1) (0 : UInt8))) (xlen (lsub s1 n1 n2)))) ∧ (ofN (nmin (xlen (@lrep UInt8 (toN x1) (0 : UInt8))) (xlen (lsub s1 n1 n2)))) ≤ (ofN n2) then
            some ((nadd n1 (toN (ofN (nmin (xlen (@lrep UInt8 (toN x1) (0 : UInt8))) (xlen (lsub s1 n1 n2)))))), (ndec n2 (toN (ofN (nmin (xlen (@lrep UInt8 (toN x1) (0 : UInt8))) (xlen (lsub s1 n1 n2)))))), y1, (lspl (@lrep UInt8 (toN x1) (0 : UInt8)) 0 (lsub (lsub s1 n1 n2) 0 (nmin (xlen (@lrep UInt8 (toN x1) (0 : UInt8))) (xlen (lsub s1 n1 n2))))))
          else none
        else none
      else
        some (n1, n2, y1, ([] : List UInt8))
  else
    if (ilt (ofN n2) x1) = true then
      match F_octet_Window_fail_2 (10 : Int) n1 n2 x2 s1 with
      | none => none
      | some y2 =>
        if (ieq y2 (0 : Int)) = true then
          if 0 ≤ x1 ∧ x1 ≤ x1 ∧ x1 * ((1 : Nat) : Int) ≤ 140737488355328 ∧ x1 ≤ 9223372036854775807 then
            if 0 ≤ (ofN (nmin (xlen (@lrep UInt8 (toN x1) (0 : UInt8))) (xlen (lsub s1 n1 n2)))) ∧ (ofN (nmin (xlen (@lrep UInt8 (toN x1) (0 : UInt8))) (xlen (lsub s1 n1 n2)))) ≤ (ofN n2) then
              some ((nadd n1 (toN (ofN (nmin (xlen (@lrep UInt8 (toN x1) (0 : UInt8))) (xlen (lsub s1 n1 n2)))))), (ndec n2 (toN (ofN (nmin (xlen (@lrep UInt8 (toN x1) (0 : UInt8))) (xlen (lsub s1 n1 n2)))))), y2, (lspl (@lrep UInt8 (toN x1) (0 : UInt8)) 0 (lsub (lsub s1 n1 n2) 0 (nmin (xlen (@lrep UInt8 (toN x1) (0 : UInt8))) (xlen (lsub s1 n1 n2))))))
            else none
          else none
        else
          some (n1, n2, y2, ([] : List UInt8))
    else
      if (ieq x2 (0 : Int)) = true then
        if 0 ≤ x1 ∧ x1 ≤ x1 ∧ x1 * ((1 : Nat) : Int) ≤ 140737488355328 ∧ x1 ≤ 9223372036854775807 then
          if 0 ≤ (ofN (nmin (xlen (@lrep UInt8 (toN x1) (0 : UInt8))) (xlen (lsub s1 n1 n2)))) ∧ (ofN (nmin (xlen (@lrep UInt8 (toN x1) (0 : UInt8))) (xlen (lsub s1 n1 n2)))) ≤ (ofN n2) then
            some ((nadd n1 (toN (ofN (nmin (xlen (@lrep UInt8 (toN x1) (0 : UInt8))) (xlen (lsub s1 n1 n2)))))), (ndec n2 (toN (ofN (nmin (xlen (@lrep UInt8 (toN x1) (0 : UInt8))) (xlen (lsub s1 n1 n2)))))), x2, (lspl (@lrep UInt8 (toN x1) (0 : UInt8)) 0 (lsub (lsub s1 n1 n2) 0 (nmin (xlen (@lrep UInt8 (toN x1) (0 : UInt8))) (xlen (lsub s1 n1 n2))))))
          else none
        else none
      else
        some (n1, n2, x2, ([] : List UInt8))

noncomputable def F_octet_Window_Num_2 (x1 : Int) (n1 : Nat) (n2 : Nat) (x2 : Int) (s1 : List UInt8) : Option (Int × Nat × Nat × Int) :=
  if (ilt x1 (1 : Int)) = true then
    match F_octet_Window_fail_2 (1 : Int) n1 n2 x2 s1 with
    | none => none
    | some y1 =>
      some ((0 : Int), n1, n2, y1)
  else
    if (ilt (8 : Int) x1) = true then
      match F_octet_Window_fail_2 (1 : Int) n1 n2 x2 s1 with
      | none => none
      | some y2 =>
        some ((0 : Int), n1, n2, y2)
    else
      match F_octet_Window_Bytes_2 x1 n1 n2 x2 s1 with
      | none => none
      | some (k1, k2, y3, t1) =>
        match F_octet_Value t1 with
        | none => none
        | some (y4, c1) =>
          some (y4, k1, k2, y3)

noncomputable def F_octet_Window_Byte (n1 : Nat) (n2 : Nat) (x1 : Int) (s1 : List UInt8) : Option (Int × Nat × Nat × Int) :=
  match F_octet_Window_Num_2 (1 : Int) n1 n2 x1 s1 with
  | none => none
  | some (y1, k1, k2, y2) =>
    some ((iconv .u8 y1), k1, k2, y2)

noncomputable def F_tollbarlaw01_awake : Option (Bool) :=
  if 0 ≤ (1 : Int) ∧ (1 : Int) < 256 then
    if 0 ≤ (2 : Int) ∧ (2 : Int) < 256 then
      if 0 ≤ (3 : Int) ∧ (3 : Int) < 256 then
        match F_octet_Open (byteOf (1 : Int) :: (byteOf (2 : Int) :: (byteOf (3 : Int) :: ([] : List UInt8)))) with
        | none => none
        | some t1 =>
          match F_octet_Window_Sub (2 : Int) (0 : Int) t1 with
          | none => none
          | some (k1, k2, y1, y2, t2) =>
            if 0 ≤ (1 : Int) ∧ (1 : Int) < 256 then
              if 0 ≤ (0 : Int) ∧ (0 : Int) < 256 then
                match F_octet_Value (byteOf (1 : Int) :: (byteOf (0 : Int) :: ([] : List UInt8))) with
                | none => none
                | some (y3, c1) =>
                  match F_octet_Least (256 : Int) with
                  | none => none
                  | some t3 =>
                    if (seq t3 ([1, 0] : List UInt8)) = true then
                      match F_octet_Least (0 : Int) with
                      | none => none
                      | some t4 =>
                        if (ieq (ofN (xlen t4)) (0 : Int)) = true then
                          match F_octet_Big (5 : Int) (2 : Int) with
                          | none => none
                          | some t5 =>
                            if (seq t5 ([0, 5] : List UInt8)) = true then
                              if (ieq y3 (256 : Int)) = true then
                                if c1 = true then
                                  match F_octet_Window_Num (2 : Int) y2 t2 with
                                  | none => none
                                  | some (y4, k3, k4, y5) =>
                                    if (ieq y4 (258 : Int)) = true then
                                      match F_octet_Window_Left k1 k2 y1 t1 with
                                      | none => none
                                      | some y6 =>
                                        if (ieq y6 (1 : Int)) = true then
                                          match F_octet_Window_End k1 k2 y1 t1 with
                                          | none => none
                                          | some y7 =>
                                            if (ieq y7 (11 : Int)) = true then
                                              match F_octet_Window_Byte k1 k2 y1 t1 with
                                              | none => none
                                              | some (y8, k5, k6, y9) =>
                                                if (ieq y8 (3 : Int)) = true then
                                                  match F_octet_Window_End k5 k6 y9 t1 with
                                                  | none => none
                                                  | some y10 =>
                                                    if (ieq y10 (0 : Int)) = true then
                                                      match F_octet_Window_Byte k5 k6 y9 t1 with
                                                      | none => none
                                                      | some (y11, k7, k8, y12) =>
                                                        if (ieq y11 (0 : Int)) = true then
                                                          match F_octet_Window_Err k7 k8 y12 t1 with
                                                          | none => none
                                                          | some () =>
                                                            some (ieq y12 (10 : Int))
                                                        else
                                                          some false
                                                    else
                                                      some false
                                                else
                                                  some false
                                            else
                                              some false
                                        else
                                          some false
                                    else
                                      some false
                                else
                                  some false
                              else
                                some false
                            else
                              some false
                        else
                          some false
                    else
                      some false
              else none
            else none
      else none
    else none
  else none

noncomputable def F_tollbarref01_W_Bytes (x1 : Int) (s1 : List UInt8) (x2 : Int) : Option ((List UInt8) × (List UInt8) × Int) :=
  if (ieq x2 (0 : Int)) = true then
    if (ilt x1 (0 : Int)) = true then
      if (ieq (1 : Int) (0 : Int)) = true then
        if (ilt (ofN (xlen s1)) x1) = true then
          if (ieq (10 : Int) (0 : Int)) = true then
            if 0 ≤ x1 ∧ x1 ≤ (ofN (xlen s1)) then
              if 0 ≤ x1 ∧ x1 ≤ (ofN (xlen s1)) then
                some ((lsub s1 0 (toN x1)), (lsub s1 (toN x1) (ndec (xlen s1) (toN x1))), (10 : Int))
              else none
            else none
          else
            some (([] : List UInt8), s1, (10 : Int))
        else
          if (ieq (1 : Int) (0 : Int)) = true then
            if 0 ≤ x1 ∧ x1 ≤ (ofN (xlen s1)) then
              if 0 ≤ x1 ∧ x1 ≤ (ofN (xlen s1)) then
                some ((lsub s1 0 (toN x1)), (lsub s1 (toN x1) (ndec (xlen s1) (toN x1))), (1 : Int))
              else none
            else none
          else
            some (([] : List UInt8), s1, (1 : Int))
      else
        if (ieq (1 : Int) (0 : Int)) = true then
          if 0 ≤ x1 ∧ x1 ≤ (ofN (xlen s1)) then
            if 0 ≤ x1 ∧ x1 ≤ (ofN (xlen s1)) then
              some ((lsub s1 0 (toN x1)), (lsub s1 (toN x1) (ndec (xlen s1) (toN x1))), (1 : Int))
            else none
          else none
        else
          some (([] : List UInt8), s1, (1 : Int))
    else
      if (ieq x2 (0 : Int)) = true then
        if (ilt (ofN (xlen s1)) x1) = true then
          if (ieq (10 : Int) (0 : Int)) = true then
            if 0 ≤ x1 ∧ x1 ≤ (ofN (xlen s1)) then
              if 0 ≤ x1 ∧ x1 ≤ (ofN (xlen s1)) then
                some ((lsub s1 0 (toN x1)), (lsub s1 (toN x1) (ndec (xlen s1) (toN x1))), (10 : Int))
              else none
            else none
          else
            some (([] : List UInt8), s1, (10 : Int))
        else
          if (ieq x2 (0 : Int)) = true then
            if 0 ≤ x1 ∧ x1 ≤ (ofN (xlen s1)) then
              if 0 ≤ x1 ∧ x1 ≤ (ofN (xlen s1)) then
                some ((lsub s1 0 (toN x1)), (lsub s1 (toN x1) (ndec (xlen s1) (toN x1))), x2)
              else none
            else none
          else
            some (([] : List UInt8), s1, x2)
      else
        if (ieq x2 (0 : Int)) = true then
          if 0 ≤ x1 ∧ x1 ≤ (ofN (xlen s1)) then
            if 0 ≤ x1 ∧ x1 ≤ (ofN (xlen s1)) then
              some ((lsub s1 0 (toN x1)), (lsub s1 (toN x1) (ndec (xlen s1) (toN x1))), x2)
            else none
          else none
        else
          some (([] : List UInt8), s1, x2)
  else
    if (ieq x2 (0 : Int)) = true then
      if (ilt (ofN (xlen s1)) x1) = true then
        if (ieq (10 : Int) (0 : Int)) = true then
          if 0 ≤ x1 ∧ x1 ≤ (ofN (xlen s1)) then
            if 0 ≤ x1 ∧ x1 ≤ (ofN (xlen s1)) then
              some ((lsub s1 0 (toN x1)), (lsub s1 (toN x1) (ndec (xlen s1) (toN x1))), (10 : Int))
            else none
          else none
        else
          some (([] : List UInt8), s1, (10 : Int))
      else
        if (ieq x2 (0 : Int)) = true then
          if 0 ≤ x1 ∧ x1 ≤ (ofN (xlen s1)) then
            if 0 ≤ x1 ∧ x1 ≤ (ofN (xlen s1)) then
              some ((lsub s1 0 (toN x1)), (lsub s1 (toN x1) (ndec (xlen s1) (toN x1))), x2)
            else none
          else none
        else
          some (([] : List UInt8), s1, x2)
    else
      if (ieq x2 (0 : Int)) = true then
        if 0 ≤ x1 ∧ x1 ≤ (ofN (xlen s1)) then
          if 0 ≤ x1 ∧ x1 ≤ (ofN (xlen s1)) then
            some ((lsub s1 0 (toN x1)), (lsub s1 (toN x1) (ndec (xlen s1) (toN x1))), x2)
          else none
        else none
      else
        some (([] : List UInt8), s1, x2)

noncomputable def F_tollbarref01_Value_L3 (s2 : List UInt8) : Int × Int → Option ((Int × Int) ⊕ (Int × Bool))
  | (i3, i4) =>
    if (ilt i4 (ofN (xlen s2))) = true then
      if 0 ≤ i4 ∧ i4 < (ofN (xlen s2)) then
        some (.inl ((iadd .u64 (imul .u64 (256 : Int) i3) (iconv .u64 (getB s2 (toN i4)))), (iadd .i64 i4 (1 : Int))))
      else none
    else
      some (.inr (i3, true))
noncomputable def F_tollbarref01_Value_L2 (s2 : List UInt8) : Int × Int → Option ((Int × Int) ⊕ (Int × Bool))
  | (i1, i2) =>
    if (ilt i2 (ofN (xlen s2))) = true then
      if 0 ≤ i2 ∧ i2 < (ofN (xlen s2)) then
        some (.inl ((iadd .u64 (imul .u64 (256 : Int) i1) (iconv .u64 (getB s2 (toN i2)))), (iadd .i64 i2 (1 : Int))))
      else none
    else
      some (.inr (i1, true))
noncomputable def F_tollbarref01_Value_L1 : (List UInt8) → Option (((List UInt8)) ⊕ (Int × Bool))
  | s2 =>
    if (seq s2 ([] : List UInt8)) = true then
      if (ilt (8 : Int) (ofN (xlen s2))) = true then
        some (.inr ((0 : Int), false))
      else
        Option.map (fun t => (.inr t)) (iter (F_tollbarref01_Value_L3 s2) ((0 : Int), (0 : Int)))
    else
      if 0 ≤ (0 : Int) ∧ (0 : Int) < (ofN (xlen s2)) then
        if (ieq (getB s2 (toN (0 : Int))) (0 : Int)) = true then
          if 0 ≤ (1 : Int) ∧ (1 : Int) ≤ (ofN (xlen s2)) then
            some (.inl (lsub s2 (toN (1 : Int)) (ndec (xlen s2) (toN (1 : Int)))))
          else none
        else
          if (ilt (8 : Int) (ofN (xlen s2))) = true then
            some (.inr ((0 : Int), false))
          else
            Option.map (fun t => (.inr t)) (iter (F_tollbarref01_Value_L2 s2) ((0 : Int), (0 : Int)))
      else none
noncomputable def F_tollbarref01_Value (s1 : List UInt8) : Option (Int × Bool) :=
  iter F_tollbarref01_Value_L1 s1

noncomputable def F_tollbarref01_W_Num (x1 : Int) (s1 : List UInt8) (x2 : Int) : Option (Int × (List UInt8) × Int) :=
  if (ieq x2 (0 : Int)) = true then
    if (ilt x1 (1 : Int)) = true then
      if (ieq (1 : Int) (0 : Int)) = true then
        match F_tollbarref01_W_Bytes x1 s1 (1 : Int) with
        | none => none
        | some (t1, t2, y1) =>
          match F_tollbarref01_Value t1 with
          | none => none
          | some (y2, c1) =>
            some (y2, t2, y1)
      else
        some ((0 : Int), s1, (1 : Int))
    else
      if (ilt (8 : Int) x1) = true then
        if (ieq (1 : Int) (0 : Int)) = true then
          match F_tollbarref01_W_Bytes x1 s1 (1 : Int) with
          | none => none
          | some (t3, t4, y3) =>
            match F_tollbarref01_Value t3 with
            | none => none
            | some (y4, c2) =>
              some (y4, t4, y3)
        else
          some ((0 : Int), s1, (1 : Int))
      else
        if (ieq x2 (0 : Int)) = true then
          match F_tollbarref01_W_Bytes x1 s1 x2 with
          | none => none
          | some (t5, t6, y5) =>
            match F_tollbarref01_Value t5 with
            | none => none
            | some (y6, c3) =>
              some (y6, t6, y5)
        else
          some ((0 : Int), s1, x2)
  else
    if (ieq x2 (0 : Int)) = true then
      match F_tollbarref01_W_Bytes x1 s1 x2 with
      | none => none
      | some (t7, t8, y7) =>
        match F_tollbarref01_Value t7 with
        | none => none
        | some (y8, c4) =>
          some (y8, t8, y7)
    else
      some ((0 : Int), s1, x2)

noncomputable def F_tollbarref01_W_End (s1 : List UInt8) (x1 : Int) : Option (Int) :=
  if (ieq x1 (0 : Int)) = true then
    if (seq s1 ([] : List UInt8)) = true then
      some x1
    else
      some (11 : Int)
  else
    some x1

noncomputable def F_tollbarref01_W_Sub (x1 : Int) (s1 : List UInt8) (x2 : Int) : Option ((List UInt8) × Int × (List UInt8) × Int) :=
  match F_tollbarref01_W_Bytes x1 s1 x2 with
  | none => none
  | some (t1, t2, y1) =>
    some (t2, y1, t1, y1)

noncomputable def F_octet_Window_Sub_2 (x1 : Int) (n1 : Nat) (n2 : Nat) (x2 : Int) (s1 : List UInt8) : Option (Nat × Nat × Int × Int × (List UInt8)) :=
  match F_octet_Window_Bytes_2 x1 n1 n2 x2 s1 with
  | none => none
  | some (k1, k2, y1, t1) =>
    match F_octet_Window_Err k1 k2 y1 s1 with
    | none => none
    | some () =>
      some (k1, k2, y1, y1, t1)

noncomputable def F_octet_Window_Left_3 : Option (Unit) :=
  some ()

noncomputable def F_octet_Window_Num_3 (x1 : Int) : Option (Unit) :=
  some ()

noncomputable def F_octet_Window_Byte_3 : Option (Int) :=
  match F_octet_Window_Num_3 (1 : Int) with
  | none => none
  | some () =>
    some (iconv .u8 (0 : Int))

noncomputable def F_octet_Window_Bytes_3 (x1 : Int) : Option (Unit) :=
  some ()

noncomputable def F_octet_Window_Err_3 : Option (Unit) :=
  some ()

noncomputable def F_octet_Window_Sub_3 (x1 : Int) : Option (Unit) :=
  match F_octet_Window_Bytes_3 x1 with
  | none => none
  | some () =>
    match F_octet_Window_Err_3 with
    | none => none
    | some () =>
      some ()

noncomputable def F_octet_Window_Err_4 (x1 : Int) : Option (Unit) :=
  some ()

noncomputable def F_octet_Window_End_3 : Option (Unit) :=
  match F_octet_Window_Err_3 with
  | none => none
  | some () =>
    if (ieq (1 : Int) (0 : Int)) = true then
      none
    else
      some ()

noncomputable def F_tollbarlaw01_OctetReads_L1 (r1 : List D) (t1 : List UInt8) : Int × Nat × Nat × Int × (List UInt8) × Int → Option ((Int × Nat × Nat × Int × (List UInt8) × Int) ⊕ (Bool))
  | (i1, n1, n2, i2, s2, i3) =>
    if (ilt i1 (ofN (xlen r1))) = true then
      if 0 ≤ i1 ∧ i1 < (ofN (xlen r1)) then
        if 0 ≤ i1 ∧ i1 < (ofN (xlen r1)) then
          if (ieq (D.toI (D.fld (getD r1 (toN i1)) 0)) (0 : Int)) = true then
            match F_octet_Window_Byte n1 n2 i2 t1 with
            | none => none
            | some (y103, k31, k32, y104) =>
              match F_tollbarref01_W_Num (1 : Int) s2 i3 with
              | none => none
              | some (y105, t29, y106) =>
                if (ieq (iconv .u64 y103) y105) = true then
                  match F_octet_Window_Left k31 k32 y104 t1 with
                  | none => none
                  | some y107 =>
                    if (ieq y107 (ofN (xlen t29))) = true then
                      match F_octet_Window_Err k31 k32 y104 t1 with
                      | none => none
                      | some () =>
                        if (ieq y104 y106) = true then
                          match F_octet_Window_End k31 k32 y104 t1 with
                          | none => none
                          | some y108 =>
                            match F_tollbarref01_W_End t29 y106 with
                            | none => none
                            | some y109 =>
                              if (ieq y108 y109) = true then
                                some (.inl ((iadd .i64 i1 (1 : Int)), k31, k32, y104, t29, y106))
                              else
                                some (.inr false)
                        else
                          some (.inr false)
                    else
                      some (.inr false)
                else
                  some (.inr false)
          else
            if (ieq (D.toI (D.fld (getD r1 (toN i1)) 0)) (1 : Int)) = true then
              match F_octet_Window_Num_2 (D.toI (D.fld (getD r1 (toN i1)) 1)) n1 n2 i2 t1 with
              | none => none
              | some (y110, k33, k34, y111) =>
                match F_tollbarref01_W_Num (D.toI (D.fld (getD r1 (toN i1)) 1)) s2 i3 with
                | none => none
                | some (y112, t30, y113) =>
                  if (ieq y110 y112) = true then
                    match F_octet_Window_Left k33 k34 y111 t1 with
                    | none => none
                    | some y114 =>
                      if (ieq y114 (ofN (xlen t30))) = true then
                        match F_octet_Window_Err k33 k34 y111 t1 with
                        | none => none
                        | some () =>
                          if (ieq y111 y113) = true then
                            match F_octet_Window_End k33 k34 y111 t1 with
                            | none => none
                            | some y115 =>
                              match F_tollbarref01_W_End t30 y113 with
                              | none => none
                              | some y116 =>
                                if (ieq y115 y116) = true then
                                  some (.inl ((iadd .i64 i1 (1 : Int)), k33, k34, y111, t30, y113))
                                else
                                  some (.inr false)
                          else
                            some (.inr false)
                      else
                        some (.inr false)
                  else
                    some (.inr false)
            else
              if (ieq (D.toI (D.fld (getD r1 (toN i1)) 0)) (2 : Int)) = true then
                match F_octet_Window_Bytes_2 (D.toI (D.fld (getD r1 (toN i1)) 1)) n1 n2 i2 t1 with
                | none => none
                | some (k35, k36, y117, t31) =>
                  match F_tollbarref01_W_Bytes (D.toI (D.fld (getD r1 (toN i1)) 1)) s2 i3 with
                  | none => none
                  | some (t32, t33, y118) =>
                    if (seq t31 t32) = true then
                      match F_octet_Window_Left k35 k36 y117 t1 with
                      | none => none
                      | some y119 =>
                        if (ieq y119 (ofN (xlen t33))) = true then
                          match F_octet_Window_Err k35 k36 y117 t1 with
                          | none => none
                          | some () =>
                            if (ieq y117 y118) = true then
                              match F_octet_Window_End k35 k36 y117 t1 with
                              | none => none
                              | some y120 =>
                                match F_tollbarref01_W_End t33 y118 with
                                | none => none
                                | some y121 =>
                                  if (ieq y120 y121) = true then
                                    some (.inl ((iadd .i64 i1 (1 : Int)), k35, k36, y117, t33, y118))
                                  else
                                    some (.inr false)
                            else
                              some (.inr false)
                        else
                          some (.inr false)
                    else
                      some (.inr false)
              else
                if (ieq (D.toI (D.fld (getD r1 (toN i1)) 0)) (3 : Int)) = true then
                  match F_octet_Window_Sub_2 (D.toI (D.fld (getD r1 (toN i1)) 1)) n1 n2 i2 t1 with
                  | none => none
                  | some (k37, k38, y122, y123, t34) =>
                    match F_tollbarref01_W_Sub (D.toI (D.fld (getD r1 (toN i1)) 1)) s2 i3 with
                    | none => none
                    | some (t35, y124, t36, y125) =>
                      match F_octet_Window_Num (2 : Int) y123 t34 with
                      | none => none
                      | some (y126, k39, k40, y127) =>
                        match F_tollbarref01_W_Num (2 : Int) t36 y125 with
                        | none => none
                        | some (y128, t37, y129) =>
                          if (ieq y126 y128) = true then
                            match F_octet_Window_Left k39 k40 y127 t34 with
                            | none => none
                            | some y130 =>
                              if (ieq y130 (ofN (xlen t37))) = true then
                                match F_octet_Window_Err k39 k40 y127 t34 with
                                | none => none
                                | some () =>
                                  if (ieq y127 y129) = true then
                                    match F_octet_Window_Left k37 k38 y122 t1 with
                                    | none => none
                                    | some y131 =>
                                      if (ieq y131 (ofN (xlen t35))) = true then
                                        match F_octet_Window_Err k37 k38 y122 t1 with
                                        | none => none
                                        | some () =>
                                          if (ieq y122 y124) = true then
                                            match F_octet_Window_End k37 k38 y122 t1 with
                                            | none => none
                                            | some y132 =>
                                              match F_tollbarref01_W_End t35 y124 with
                                              | none => none
                                              | some y133 =>
                                                if (ieq y132 y133) = true then
                                                  some (.inl ((iadd .i64 i1 (1 : Int)), k37, k38, y122, t35, y124))
                                                else
                                                  some (.inr false)
                                          else
                                            some (.inr false)
                                      else
                                        some (.inr false)
                                  else
                                    some (.inr false)
                              else
                                some (.inr false)
                          else
                            some (.inr false)
                else
                  match F_octet_Window_Left n1 n2 i2 t1 with
                  | none => none
                  | some y134 =>
                    if (ieq y134 (ofN (xlen s2))) = true then
                      match F_octet_Window_Err n1 n2 i2 t1 with
                      | none => none
                      | some () =>
                        if (ieq i2 i3) = true then
                          match F_octet_Window_End n1 n2 i2 t1 with
                          | none => none
                          | some y135 =>
                            match F_tollbarref01_W_End s2 i3 with
                            | none => none
                            | some y136 =>
                              if (ieq y135 y136) = true then
                                some (.inl ((iadd .i64 i1 (1 : Int)), n1, n2, i2, s2, i3))
                              else
                                some (.inr false)
                        else
                          some (.inr false)
                    else
                      some (.inr false)
        else none
      else none
    else
      match F_octet_Window_Left_3 with
      | none => none
      | some () =>
        if (ieq (0 : Int) (0 : Int)) = true then
          match F_octet_Window_Byte_3 with
          | none => none
          | some y137 =>
            if (ieq y137 (0 : Int)) = true then
              match F_octet_Window_Num_3 (1 : Int) with
              | none => none
              | some () =>
                if (ieq (0 : Int) (0 : Int)) = true then
                  match F_octet_Window_Bytes_3 (1 : Int) with
                  | none => none
                  | some () =>
                    if (ieq (ofN 0) (0 : Int)) = true then
                      match F_octet_Window_Sub_3 (1 : Int) with
                      | none => none
                      | some () =>
                        match F_octet_Window_Err_4 (1 : Int) with
                        | none => none
                        | some () =>
                          if (ieq (1 : Int) (1 : Int)) = true then
                            match F_octet_Window_Err_3 with
                            | none => none
                            | some () =>
                              if (ieq (1 : Int) (1 : Int)) = true then
                                match F_octet_Window_End_3 with
                                | none => none
                                | some () =>
                                  some (.inr (ieq (1 : Int) (1 : Int)))
                              else
                                some (.inr false)
                          else
                            some (.inr false)
                    else
                      some (.inr false)
                else
                  some (.inr false)
            else
              some (.inr false)
        else
          some (.inr false)
noncomputable def F_tollbarlaw01_OctetReads (s1 : List UInt8) (r1 : List D) : Option (Bool) :=
  match F_tollbarlaw01_awake with
  | none => none
  | some c1 =>
    if c1 = true then
      if (ilt (1000 : Int) (ofN (xlen s1))) = true then
        some true
      else
        if (ilt (60 : Int) (ofN (xlen r1))) = true then
          some true
        else
          match F_octet_Open s1 with
          | none => none
          | some t1 =>
            iter (F_tollbarlaw01_OctetReads_L1 r1 t1) ((0 : Int), 0, (xlen t1), (0 : Int), s1, (0 : Int))
    else
      some false

noncomputable def F_tollbarlaw01_power_L1 (x1 : Int) : Int × Int → Option ((Int × Int) ⊕ (Int))
  | (i1, i2) =>
    if (ilt i2 x1) = true then
      some (.inl ((imul .u64 i1 (256 : Int)), (iadd .i64 i2 (1 : Int))))
    else
      some (.inr i1)
noncomputable def F_tollbarlaw01_power (x1 : Int) : Option (Int) :=
  iter (F_tollbarlaw01_power_L1 x1) ((1 : Int), (0 : Int))

noncomputable def F_tollbarlaw01_OctetBack_L3 (s1 : List UInt8) (i6 : Int) (n1 : Nat) (n2 : Nat) (i7 : Int) (t5 : List UInt8) : Int × Int → Option ((Int × Int) ⊕ ((Int × Nat × Nat × Int) ⊕ (Bool)))
  | (i10, i11) =>
    if (ile (iadd .i64 (iconv .i64 (irem (getB s1 (toN i6)) (8 : Int))) (1 : Int)) i11) = true then
      match F_tollbarlaw01_power i11 with
      | none => none
      | some y18 =>
        if y18 ≠ 0 then
          some (.inl ((irem i10 y18), (isub .i64 i11 (1 : Int))))
        else none
    else
      match F_octet_Window_Num_2 (iadd .i64 (iconv .i64 (irem (getB s1 (toN i6)) (8 : Int))) (1 : Int)) n1 n2 i7 t5 with
      | none => none
      | some (y19, k7, k8, y20) =>
        if (ieq y19 i10) = true then
          some (.inr (.inl ((iadd .i64 i6 (1 : Int)), k7, k8, y20)))
        else
          some (.inr (.inr false))
noncomputable def F_tollbarlaw01_OctetBack_L4 (l1 : List Int) (s1 : List UInt8) (t6 : List UInt8) : Int × Nat × Nat × Int → Option ((Int × Nat × Nat × Int) ⊕ (Bool))
  | (i12, n3, n4, i13) =>
    if (ilt i12 (ofN (xlen l1))) = true then
      if 0 ≤ i12 ∧ i12 < (ofN (xlen s1)) then
        match F_octet_Window_Num_2 (iadd .i64 (iconv .i64 (irem (getB s1 (toN i12)) (8 : Int))) (1 : Int)) n3 n4 i13 t6 with
        | none => none
        | some (y28, k15, k16, y29) =>
          some (.inl ((iadd .i64 i12 (1 : Int)), k15, k16, y29))
      else none
    else
      match F_octet_Window_End n3 n4 i13 t6 with
      | none => none
      | some y30 =>
        some (.inr (ieq y30 (10 : Int)))
noncomputable def F_tollbarlaw01_OctetBack_L2 (l1 : List Int) (s1 : List UInt8) (t5 : List UInt8) (s2 : List UInt8) : Int × Nat × Nat × Int → Option ((Int × Nat × Nat × Int) ⊕ (Bool))
  | (i6, n1, n2, i7) =>
    if (ilt i6 (ofN (xlen l1))) = true then
      if 0 ≤ i6 ∧ i6 < (ofN (xlen s1)) then
        if 0 ≤ i6 ∧ i6 < (ofN (xlen l1)) then
          iter (F_tollbarlaw01_OctetBack_L3 s1 i6 n1 n2 i7 t5) ((getI l1 (toN i6)), (7 : Int))
        else none
      else none
    else
      match F_octet_Window_End n1 n2 i7 t5 with
      | none => none
      | some y21 =>
        if (ieq y21 (0 : Int)) = true then
          if (ieq (ofN (xlen l1)) (0 : Int)) = true then
            some (.inr (ieq y21 (0 : Int)))
          else
            if 0 ≤ (isub .i64 (ofN (xlen s2)) (1 : Int)) ∧ (isub .i64 (ofN (xlen s2)) (1 : Int)) ≤ (ofN (xlen s2)) then
              match F_octet_Open (lsub s2 0 (toN (isub .i64 (ofN (xlen s2)) (1 : Int)))) with
              | none => none
              | some t6 =>
                Option.map (fun t => (.inr t)) (iter (F_tollbarlaw01_OctetBack_L4 l1 s1 t6) ((0 : Int), 0, (xlen t6), (0 : Int)))
            else none
        else
          some (.inr (ieq y21 (0 : Int)))
noncomputable def F_tollbarlaw01_OctetBack_L1 (l1 : List Int) (s1 : List UInt8) : Int × (List UInt8) → Option ((Int × (List UInt8)) ⊕ (Bool))
  | (i1, s2) =>
    if (ilt i1 (ofN (xlen l1))) = true then
      if 0 ≤ i1 ∧ i1 < (ofN (xlen l1)) then
        if 0 ≤ i1 ∧ i1 < (ofN (xlen s1)) then
          match F_octet_Big (getI l1 (toN i1)) (iadd .i64 (iconv .i64 (irem (getB s1 (toN i1)) (8 : Int))) (1 : Int)) with
          | none => none
          | some t4 =>
            if ((((xlen s2) : Nat) : Int) + (((xlen t4) : Nat) : Int)) * ((1 : Nat) : Int) ≤ 140737488355328 then
              some (.inl ((iadd .i64 i1 (1 : Int)), (cat s2 t4)))
            else none
        else none
      else none
    else
      match F_octet_Open s2 with
      | none => none
      | some t5 =>
        Option.map (fun t => (.inr t)) (iter (F_tollbarlaw01_OctetBack_L2 l1 s1 t5 s2) ((0 : Int), 0, (xlen t5), (0 : Int)))
noncomputable def F_tollbarlaw01_OctetBack (l1 : List Int) (s1 : List UInt8) : Option (Bool) :=
  match F_tollbarlaw01_awake with
  | none => none
  | some c1 =>
    if c1 = true then
      if (ilt (40 : Int) (ofN (xlen l1))) = true then
        some true
      else
        if (ilt (ofN (xlen s1)) (ofN (xlen l1))) = true then
          some true
        else
          iter (F_tollbarlaw01_OctetBack_L1 l1 s1) ((0 : Int), ([] : List UInt8))
    else
      some false

noncomputable def F_tollbarlaw01_OctetLeast (x1 : Int) (x2 : Int) : Option (Bool) :=
  match F_tollbarlaw01_awake with
  | none => none
  | some c1 =>
    if c1 = true then
      match F_octet_Least x1 with
      | none => none
      | some t1 =>
        match F_octet_Value t1 with
        | none => none
        | some (y1, c2) =>
          if 0 ≤ (iconv .i64 (irem x2 (20 : Int))) ∧ (iconv .i64 (irem x2 (20 : Int))) ≤ (iconv .i64 (irem x2 (20 : Int))) ∧ (iconv .i64 (irem x2 (20 : Int))) * ((1 : Nat) : Int) ≤ 140737488355328 ∧ (iconv .i64 (irem x2 (20 : Int))) ≤ 9223372036854775807 then
            if ((((xlen (@lrep UInt8 (toN (iconv .i64 (irem x2 (20 : Int)))) (0 : UInt8))) : Nat) : Int) + (((xlen t1) : Nat) : Int)) * ((1 : Nat) : Int) ≤ 140737488355328 then
              match F_octet_Value (cat (@lrep UInt8 (toN (iconv .i64 (irem x2 (20 : Int)))) (0 : UInt8)) t1) with
              | none => none
              | some (y2, c3) =>
                if (ilt (8 : Int) (ofN (xlen t1))) = true then
                  some false
                else
                  if (ilt (0 : Int) (ofN (xlen t1))) = true then
                    if 0 ≤ (0 : Int) ∧ (0 : Int) < (ofN (xlen t1)) then
                      if (ieq (getB t1 (toN (0 : Int))) (0 : Int)) = true then
                        some false
                      else
                        if (ieq y1 x1) = true then
                          if c2 = true then
                            if (ieq y2 x1) = true then
                              if c3 = true then
                                if 0 ≤ (1 : Int) ∧ (1 : Int) < 256 then
                                  if 0 ≤ (0 : Int) ∧ (0 : Int) < 256 then
                                    if 0 ≤ (0 : Int) ∧ (0 : Int) < 256 then
                                      if 0 ≤ (0 : Int) ∧ (0 : Int) < 256 then
                                        if 0 ≤ (0 : Int) ∧ (0 : Int) < 256 then
                                          if 0 ≤ (0 : Int) ∧ (0 : Int) < 256 then
                                            if 0 ≤ (0 : Int) ∧ (0 : Int) < 256 then
                                              if 0 ≤ (0 : Int) ∧ (0 : Int) < 256 then
                                                if 0 ≤ (0 : Int) ∧ (0 : Int) < 256 then
                                                  match F_octet_Value (byteOf (1 : Int) :: (byteOf (0 : Int) :: (byteOf (0 : Int) :: (byteOf (0 : Int) :: (byteOf (0 : Int) :: (byteOf (0 : Int) :: (byteOf (0 : Int) :: (byteOf (0 : Int) :: (byteOf (0 : Int) :: ([] : List UInt8)))))))))) with
                                                  | none => none
                                                  | some (y3, c4) =>
                                                    if c4 = true then
                                                      some false
                                                    else
                                                      if (ieq (ofN (xlen t1)) (8 : Int)) = true then
                                                        if (ieq (ofN (xlen t1)) (0 : Int)) = true then
                                                          some true
                                                        else
                                                          match F_tollbarlaw01_power (isub .i64 (ofN (xlen t1)) (1 : Int)) with
                                                          | none => none
                                                          | some y4 =>
                                                            some (ile y4 x1)
                                                      else
                                                        match F_tollbarlaw01_power (ofN (xlen t1)) with
                                                        | none => none
                                                        | some y5 =>
                                                          if (ilt x1 y5) = true then
                                                            if (ieq (ofN (xlen t1)) (0 : Int)) = true then
                                                              some true
                                                            else
                                                              match F_tollbarlaw01_power (isub .i64 (ofN (xlen t1)) (1 : Int)) with
                                                              | none => none
                                                              | some y6 =>
                                                                some (ile y6 x1)
                                                          else
                                                            some false
                                                else none
                                              else none
                                            else none
                                          else none
                                        else none
                                      else none
                                    else none
                                  else none
                                else none
                              else
                                some false
                            else
                              some false
                          else
                            some false
                        else
                          some false
                    else none
                  else
                    if (ieq y1 x1) = true then
                      if c2 = true then
                        if (ieq y2 x1) = true then
                          if c3 = true then
                            if 0 ≤ (1 : Int) ∧ (1 : Int) < 256 then
                              if 0 ≤ (0 : Int) ∧ (0 : Int) < 256 then
                                if 0 ≤ (0 : Int) ∧ (0 : Int) < 256 then
                                  if 0 ≤ (0 : Int) ∧ (0 : Int) < 256 then
                                    if 0 ≤ (0 : Int) ∧ (0 : Int) < 256 then
                                      if 0 ≤ (0 : Int) ∧ (0 : Int) < 256 then
                                        if 0 ≤ (0 : Int) ∧ (0 : Int) < 256 then
                                          if 0 ≤ (0 : Int) ∧ (0 : Int) < 256 then
                                            if 0 ≤ (0 : Int) ∧ (0 : Int) < 256 then
                                              match F_octet_Value (byteOf (1 : Int) :: (byteOf (0 : Int) :: (byteOf (0 : Int) :: (byteOf (0 : Int) :: (byteOf (0 : Int) :: (byteOf (0 : Int) :: (byteOf (0 : Int) :: (byteOf (0 : Int) :: (byteOf (0 : Int) :: ([] : List UInt8)))))))))) with
                                              | none => none
                                              | some (y7, c5) =>
                                                if c5 = true then
                                                  some false
                                                else
                                                  if (ieq (ofN (xlen t1)) (8 : Int)) = true then
                                                    if (ieq (ofN (xlen t1)) (0 : Int)) = true then
                                                      some true
                                                    else
                                                      match F_tollbarlaw01_power (isub .i64 (ofN (xlen t1)) (1 : Int)) with
                                                      | none => none
                                                      | some y8 =>
                                                        some (ile y8 x1)
                                                  else
                                                    match F_tollbarlaw01_power (ofN (xlen t1)) with
                                                    | none => none
                                                    | some y9 =>
                                                      if (ilt x1 y9) = true then
                                                        if (ieq (ofN (xlen t1)) (0 : Int)) = true then
                                                          some true
                                                        else
                                                          match F_tollbarlaw01_power (isub .i64 (ofN (xlen t1)) (1 : Int)) with
                                                          | none => none
                                                          | some y10 =>
                                                            some (ile y10 x1)
                                                      else
                                                        some false
                                            else none
                                          else none
                                        else none
                                      else none
                                    else none
                                  else none
                                else none
                              else none
                            else none
                          else
                            some false
                        else
                          some false
                      else
                        some false
                    else
                      some false
            else none
          else none
    else
      some false

noncomputable def F_tollbarlaw01_OctetWindows_L1 (x2 : Int) (t3 : List UInt8) (x1 : Int) (s1 : List UInt8) (y3 : Int) (k3 : Nat) (k4 : Nat) (y2 : Int) (t1 : List UInt8) : Int × Nat × Nat × Int → Option ((Int × Nat × Nat × Int) ⊕ (Bool))
  | (i1, n1, n2, i2) =>
    if (ilt i1 (iconv .i64 x2)) = true then
      match F_octet_Window_Byte n1 n2 i2 t3 with
      | none => none
      | some (y10, k11, k12, y11) =>
        some (.inl ((iadd .i64 i1 (1 : Int)), k11, k12, y11))
    else
      match F_octet_Window_Bytes (irem (iconv .i64 (iquo .u16 x1 (256 : Int))) (iadd .i64 (isub .i64 (ofN (xlen s1)) (irem (iconv .i64 (irem x1 (256 : Int))) (iadd .i64 (ofN (xlen s1)) (1 : Int)))) (1 : Int))) y3 t3 with
      | none => none
      | some (k13, k14, y12, t4) =>
        if 0 ≤ (irem (iconv .i64 (irem x1 (256 : Int))) (iadd .i64 (ofN (xlen s1)) (1 : Int))) ∧ (irem (iconv .i64 (irem x1 (256 : Int))) (iadd .i64 (ofN (xlen s1)) (1 : Int))) ≤ (iadd .i64 (irem (iconv .i64 (irem x1 (256 : Int))) (iadd .i64 (ofN (xlen s1)) (1 : Int))) (irem (iconv .i64 (iquo .u16 x1 (256 : Int))) (iadd .i64 (isub .i64 (ofN (xlen s1)) (irem (iconv .i64 (irem x1 (256 : Int))) (iadd .i64 (ofN (xlen s1)) (1 : Int)))) (1 : Int)))) ∧ (iadd .i64 (irem (iconv .i64 (irem x1 (256 : Int))) (iadd .i64 (ofN (xlen s1)) (1 : Int))) (irem (iconv .i64 (iquo .u16 x1 (256 : Int))) (iadd .i64 (isub .i64 (ofN (xlen s1)) (irem (iconv .i64 (irem x1 (256 : Int))) (iadd .i64 (ofN (xlen s1)) (1 : Int)))) (1 : Int)))) ≤ (ofN (xlen s1)) then
          if (seq t4 (lsub s1 (toN (irem (iconv .i64 (irem x1 (256 : Int))) (iadd .i64 (ofN (xlen s1)) (1 : Int)))) (ndec (toN (iadd .i64 (irem (iconv .i64 (irem x1 (256 : Int))) (iadd .i64 (ofN (xlen s1)) (1 : Int))) (irem (iconv .i64 (iquo .u16 x1 (256 : Int))) (iadd .i64 (isub .i64 (ofN (xlen s1)) (irem (iconv .i64 (irem x1 (256 : Int))) (iadd .i64 (ofN (xlen s1)) (1 : Int)))) (1 : Int))))) (toN (irem (iconv .i64 (irem x1 (256 : Int))) (iadd .i64 (ofN (xlen s1)) (1 : Int))))))) = true then
            match F_octet_Window_End k13 k14 y12 t3 with
            | none => none
            | some y13 =>
              if (ieq y13 (0 : Int)) = true then
                match F_octet_Window_Left n1 n2 i2 t3 with
                | none => none
                | some y14 =>
                  if (ieq y14 (imax (isub .i64 (irem (iconv .i64 (iquo .u16 x1 (256 : Int))) (iadd .i64 (isub .i64 (ofN (xlen s1)) (irem (iconv .i64 (irem x1 (256 : Int))) (iadd .i64 (ofN (xlen s1)) (1 : Int)))) (1 : Int))) (iconv .i64 x2)) (0 : Int))) = true then
                    match F_octet_Window_Bytes_2 (isub .i64 (isub .i64 (ofN (xlen s1)) (irem (iconv .i64 (irem x1 (256 : Int))) (iadd .i64 (ofN (xlen s1)) (1 : Int)))) (irem (iconv .i64 (iquo .u16 x1 (256 : Int))) (iadd .i64 (isub .i64 (ofN (xlen s1)) (irem (iconv .i64 (irem x1 (256 : Int))) (iadd .i64 (ofN (xlen s1)) (1 : Int)))) (1 : Int)))) k3 k4 y2 t1 with
                    | none => none
                    | some (k15, k16, y15, t5) =>
                      if 0 ≤ (iadd .i64 (irem (iconv .i64 (irem x1 (256 : Int))) (iadd .i64 (ofN (xlen s1)) (1 : Int))) (irem (iconv .i64 (iquo .u16 x1 (256 : Int))) (iadd .i64 (isub .i64 (ofN (xlen s1)) (irem (iconv .i64 (irem x1 (256 : Int))) (iadd .i64 (ofN (xlen s1)) (1 : Int)))) (1 : Int)))) ∧ (iadd .i64 (irem (iconv .i64 (irem x1 (256 : Int))) (iadd .i64 (ofN (xlen s1)) (1 : Int))) (irem (iconv .i64 (iquo .u16 x1 (256 : Int))) (iadd .i64 (isub .i64 (ofN (xlen s1)) (irem (iconv .i64 (irem x1 (256 : Int))) (iadd .i64 (ofN (xlen s1)) (1 : Int)))) (1 : Int)))) ≤ (ofN (xlen s1)) then
                        if (seq t5 (lsub s1 (toN (iadd .i64 (irem (iconv .i64 (irem x1 (256 : Int))) (iadd .i64 (ofN (xlen s1)) (1 : Int))) (irem (iconv .i64 (iquo .u16 x1 (256 : Int))) (iadd .i64 (isub .i64 (ofN (xlen s1)) (irem (iconv .i64 (irem x1 (256 : Int))) (iadd .i64 (ofN (xlen s1)) (1 : Int)))) (1 : Int))))) (ndec (xlen s1) (toN (iadd .i64 (irem (iconv .i64 (irem x1 (256 : Int))) (iadd .i64 (ofN (xlen s1)) (1 : Int))) (irem (iconv .i64 (iquo .u16 x1 (256 : Int))) (iadd .i64 (isub .i64 (ofN (xlen s1)) (irem (iconv .i64 (irem x1 (256 : Int))) (iadd .i64 (ofN (xlen s1)) (1 : Int)))) (1 : Int)))))))) = true then
                          match F_octet_Window_End k15 k16 y15 t1 with
                          | none => none
                          | some y16 =>
                            if (ieq y16 (0 : Int)) = true then
                              match F_octet_Window_Err n1 n2 i2 t3 with
                              | none => none
                              | some () =>
                                some (.inr (beq2 (ieq i2 (0 : Int)) (ile (iconv .i64 x2) (irem (iconv .i64 (iquo .u16 x1 (256 : Int))) (iadd .i64 (isub .i64 (ofN (xlen s1)) (irem (iconv .i64 (irem x1 (256 : Int))) (iadd .i64 (ofN (xlen s1)) (1 : Int)))) (1 : Int))))))
                            else
                              some (.inr false)
                        else
                          some (.inr false)
                      else none
                  else
                    some (.inr false)
              else
                some (.inr false)
          else
            some (.inr false)
        else none
noncomputable def F_tollbarlaw01_OctetWindows (s1 : List UInt8) (x1 : Int) (x2 : Int) : Option (Bool) :=
  match F_tollbarlaw01_awake with
  | none => none
  | some c1 =>
    if c1 = true then
      if (ilt (250 : Int) (ofN (xlen s1))) = true then
        some true
      else
        match F_octet_Open s1 with
        | none => none
        | some t1 =>
          if (iadd .i64 (ofN (xlen s1)) (1 : Int)) ≠ 0 then
            if (iadd .i64 (isub .i64 (ofN (xlen s1)) (irem (iconv .i64 (irem x1 (256 : Int))) (iadd .i64 (ofN (xlen s1)) (1 : Int)))) (1 : Int)) ≠ 0 then
              match F_octet_Window_Bytes (irem (iconv .i64 (irem x1 (256 : Int))) (iadd .i64 (ofN (xlen s1)) (1 : Int))) (0 : Int) t1 with
              | none => none
              | some (k1, k2, y1, t2) =>
                match F_octet_Window_Sub_2 (irem (iconv .i64 (iquo .u16 x1 (256 : Int))) (iadd .i64 (isub .i64 (ofN (xlen s1)) (irem (iconv .i64 (irem x1 (256 : Int))) (iadd .i64 (ofN (xlen s1)) (1 : Int)))) (1 : Int))) k1 k2 y1 t1 with
                | none => none
                | some (k3, k4, y2, y3, t3) =>
                  iter (F_tollbarlaw01_OctetWindows_L1 x2 t3 x1 s1 y3 k3 k4 y2 t1) ((0 : Int), 0, (xlen t3), y3)
            else none
          else none
    else
      some false
end Go.Proofs.Ytolfegaldhhmkaa
end
section
/-
  The contracts of the functions (printed by a program of ours).
-/
set_option linter.unusedVariables false
set_option linter.unusedSimpArgs false
namespace Go.Proofs.Ytolfegaldhhmkaa
open Go.RowKit

noncomputable def con_slices_Clone_1 (a : List SV) (c : List Ck) : Option CEff := match a, c with
  | [(.rsl (.bs 5 s1))], [] => some ⟨[lock Obl fun _ => ∃ r, lock cloneB s1 = some r], .many ((List UInt8)) (fun r => lock cloneB s1 = some r) (fun u0 => (.wsl 0)) (fun u0 => [.to (.row (.bs 5 u0))])⟩
  | _, _ => none
noncomputable def con_slices_Clone : Con := ⟨[(some (.bs 5))], fun a c => con_slices_Clone_1 a c⟩

noncomputable def con_octet_Open_1 (a : List SV) (c : List Ck) : Option CEff := match a, c with
  | [(.rsl (.bs 5 s1))], [] => some ⟨[lock Obl fun _ => ∃ r, lock F_octet_Open s1 = some r], .many ((List UInt8)) (fun r => lock F_octet_Open s1 = some r) (fun u0 => (.ptr 0 0)) (fun u0 => [.to (.blk 54 [(.wsl 1), (.v (.int .i64 (0 : Int)))]), .to (.row (.bs 5 u0))])⟩
  | _, _ => none
noncomputable def con_octet_Open : Con := ⟨[(some (.bs 5))], fun a c => con_octet_Open_1 a c⟩

noncomputable def con_octet_Window_fail_1 (a : List SV) (c : List Ck) : Option CEff := match a, c with
  | [(.ptr 0 0), (.v (.int .i64 x1))], [.blk 54 [(.wsl 1), (.v (.int .i64 x2))], .row (.bs 5 s1)] => some ⟨[lock Obl fun _ => ∃ r, lock F_octet_Window_fail x1 x2 s1 = some r], .many (Int) (fun r => lock F_octet_Window_fail x1 x2 s1 = some r) (fun u0 => (.tup [])) (fun u0 => [.to (.blk 54 [(.wsl 1), (.v (.int .i64 u0))]), .same])⟩
  | _, _ => none
noncomputable def con_octet_Window_fail_2 (a : List SV) (c : List Ck) : Option CEff := match a, c with
  | [(.ptr 0 0), (.v (.int .i64 x1))], [.blk 54 [(.sl 1 n1 n2), (.v (.int .i64 x2))], .row (.bs 5 s1)] => some ⟨[lock Obl fun _ => ∃ r, lock F_octet_Window_fail_2 x1 n1 n2 x2 s1 = some r], .many (Int) (fun r => lock F_octet_Window_fail_2 x1 n1 n2 x2 s1 = some r) (fun u0 => (.tup [])) (fun u0 => [.to (.blk 54 [(.sl 1 n1 n2), (.v (.int .i64 u0))]), .same])⟩
  | _, _ => none
noncomputable def con_octet_Window_fail : Con := ⟨[none, none], fun a c => altC (con_octet_Window_fail_1 a c) (con_octet_Window_fail_2 a c)⟩

noncomputable def con_octet_Window_Bytes_1 (a : List SV) (c : List Ck) : Option CEff := match a, c with
  | [(.ptr 0 0), (.v (.int .i64 x1))], [.blk 54 [(.wsl 1), (.v (.int .i64 x2))], .row (.bs 5 s1)] => some ⟨[lock Obl fun _ => ∃ r, lock F_octet_Window_Bytes x1 x2 s1 = some r], .many (Nat × Nat × Int × (List UInt8)) (fun r => lock F_octet_Window_Bytes x1 x2 s1 = some r) (fun | (u0, u1, u2, u3) => (.wsl 2)) (fun | (u0, u1, u2, u3) => [.to (.blk 54 [(.sl 1 u0 u1), (.v (.int .i64 u2))]), .same, .to (.row (.bs 5 u3))])⟩
  | _, _ => none
noncomputable def con_octet_Window_Bytes_2 (a : List SV) (c : List Ck) : Option CEff := match a, c with
  | [(.ptr 0 0), (.v (.int .i64 x1))], [.blk 54 [(.sl 1 n1 n2), (.v (.int .i64 x2))], .row (.bs 5 s1)] => some ⟨[lock Obl fun _ => ∃ r, lock F_octet_Window_Bytes_2 x1 n1 n2 x2 s1 = some r], .many (Nat × Nat × Int × (List UInt8)) (fun r => lock F_octet_Window_Bytes_2 x1 n1 n2 x2 s1 = some r) (fun | (u0, u1, u2, u3) => (.wsl 2)) (fun | (u0, u1, u2, u3) => [.to (.blk 54 [(.sl 1 u0 u1), (.v (.int .i64 u2))]), .same, .to (.row (.bs 5 u3))])⟩
  | _, _ => none
noncomputable def con_octet_Window_Bytes_3 (a : List SV) (c : List Ck) : Option CEff := match a, c with
  | [(.v (.pointer none)), (.v (.int .i64 x1))], [] => some ⟨[lock Obl fun _ => ∃ r, lock F_octet_Window_Bytes_3 x1 = some r], .many (Unit) (fun r => lock F_octet_Window_Bytes_3 x1 = some r) (fun _ => .nsl) (fun _ => [])⟩
  | _, _ => none
noncomputable def con_octet_Window_Bytes : Con := ⟨[none, none], fun a c => altC (con_octet_Window_Bytes_1 a c) (altC (con_octet_Window_Bytes_2 a c) (con_octet_Window_Bytes_3 a c))⟩

noncomputable def con_octet_Window_Err_1 (a : List SV) (c : List Ck) : Option CEff := match a, c with
  | [(.ptr 0 0)], [.blk 54 [(.sl 1 n1 n2), (.v (.int .i64 x1))], .row (.bs 5 s1)] => some ⟨[lock Obl fun _ => ∃ r, lock F_octet_Window_Err n1 n2 x1 s1 = some r], .many (Unit) (fun r => lock F_octet_Window_Err n1 n2 x1 s1 = some r) (fun _ => (.v (.int .i64 x1))) (fun _ => [.same, .same])⟩
  | _, _ => none
noncomputable def con_octet_Window_Err_2 (a : List SV) (c : List Ck) : Option CEff := match a, c with
  | [(.v (.pointer none))], [] => some ⟨[lock Obl fun _ => ∃ r, lock F_octet_Window_Err_3 = some r], .many (Unit) (fun r => lock F_octet_Window_Err_3 = some r) (fun _ => (.v (.int .i64 (1 : Int)))) (fun _ => [])⟩
  | _, _ => none
noncomputable def con_octet_Window_Err_3 (a : List SV) (c : List Ck) : Option CEff := match a, c with
  | [(.ptr 0 0)], [.blk 54 [.nsl, (.v (.int .i64 x1))]] => some ⟨[lock Obl fun _ => ∃ r, lock F_octet_Window_Err_4 x1 = some r], .many (Unit) (fun r => lock F_octet_Window_Err_4 x1 = some r) (fun _ => (.v (.int .i64 x1))) (fun _ => [.same])⟩
  | _, _ => none
noncomputable def con_octet_Window_Err : Con := ⟨[none], fun a c => altC (con_octet_Window_Err_1 a c) (altC (con_octet_Window_Err_2 a c) (con_octet_Window_Err_3 a c))⟩

noncomputable def con_octet_Window_Sub_1 (a : List SV) (c : List Ck) : Option CEff := match a, c with
  | [(.ptr 0 0), (.v (.int .i64 x1))], [.blk 54 [(.wsl 1), (.v (.int .i64 x2))], .row (.bs 5 s1)] => some ⟨[lock Obl fun _ => ∃ r, lock F_octet_Window_Sub x1 x2 s1 = some r], .many (Nat × Nat × Int × Int × (List UInt8)) (fun r => lock F_octet_Window_Sub x1 x2 s1 = some r) (fun | (u0, u1, u2, u3, u4) => (.ptr 2 0)) (fun | (u0, u1, u2, u3, u4) => [.to (.blk 54 [(.sl 1 u0 u1), (.v (.int .i64 u2))]), .same, .to (.blk 54 [(.wsl 3), (.v (.int .i64 u3))]), .to (.row (.bs 5 u4))])⟩
  | _, _ => none
noncomputable def con_octet_Window_Sub_2 (a : List SV) (c : List Ck) : Option CEff := match a, c with
  | [(.ptr 0 0), (.v (.int .i64 x1))], [.blk 54 [(.sl 1 n1 n2), (.v (.int .i64 x2))], .row (.bs 5 s1)] => some ⟨[lock Obl fun _ => ∃ r, lock F_octet_Window_Sub_2 x1 n1 n2 x2 s1 = some r], .many (Nat × Nat × Int × Int × (List UInt8)) (fun r => lock F_octet_Window_Sub_2 x1 n1 n2 x2 s1 = some r) (fun | (u0, u1, u2, u3, u4) => (.ptr 2 0)) (fun | (u0, u1, u2, u3, u4) => [.to (.blk 54 [(.sl 1 u0 u1), (.v (.int .i64 u2))]), .same, .to (.blk 54 [(.wsl 3), (.v (.int .i64 u3))]), .to (.row (.bs 5 u4))])⟩
  | _, _ => none
noncomputable def con_octet_Window_Sub_3 (a : List SV) (c : List Ck) : Option CEff := match a, c with
  | [(.v (.pointer none)), (.v (.int .i64 x1))], [] => some ⟨[lock Obl fun _ => ∃ r, lock F_octet_Window_Sub_3 x1 = some r], .many (Unit) (fun r => lock F_octet_Window_Sub_3 x1 = some r) (fun _ => (.ptr 0 0)) (fun _ => [.to (.blk 54 [.nsl, (.v (.int .i64 (1 : Int)))])])⟩
  | _, _ => none
noncomputable def con_octet_Window_Sub : Con := ⟨[none, none], fun a c => altC (con_octet_Window_Sub_1 a c) (altC (con_octet_Window_Sub_2 a c) (con_octet_Window_Sub_3 a c))⟩

noncomputable def con_octet_Value_1 (a : List SV) (c : List Ck) : Option CEff := match a, c with
  | [(.rsl (.bs 5 s1))], [] => some ⟨[lock Obl fun _ => ∃ r, lock F_octet_Value s1 = some r], .many (Int × Bool) (fun r => lock F_octet_Value s1 = some r) (fun | (u0, u1) => (.tup [(.v (.int .u64 u0)), (.v (.bool u1))])) (fun | (u0, u1) => [])⟩
  | _, _ => none
noncomputable def con_octet_Value : Con := ⟨[(some (.bs 5))], fun a c => con_octet_Value_1 a c⟩

noncomputable def con_octet_Big_1 (a : List SV) (c : List Ck) : Option CEff := match a, c with
  | [(.v (.int .u64 x1)), (.v (.int .i64 x2))], [] => some ⟨[lock Obl fun _ => ∃ r, lock F_octet_Big x1 x2 = some r], .many ((List UInt8)) (fun r => lock F_octet_Big x1 x2 = some r) (fun u0 => (.wsl 0)) (fun u0 => [.to (.row (.bs 5 u0))])⟩
  | _, _ => none
noncomputable def con_octet_Big : Con := ⟨[none, none], fun a c => con_octet_Big_1 a c⟩

noncomputable def con_octet_Least_1 (a : List SV) (c : List Ck) : Option CEff := match a, c with
  | [(.v (.int .u64 x1))], [] => some ⟨[lock Obl fun _ => ∃ r, lock F_octet_Least x1 = some r], .many ((List UInt8)) (fun r => lock F_octet_Least x1 = some r) (fun u0 => (.wsl 0)) (fun u0 => [.to (.row (.bs 5 u0))])⟩
  | _, _ => none
noncomputable def con_octet_Least : Con := ⟨[none], fun a c => con_octet_Least_1 a c⟩

noncomputable def con_octet_Window_Num_1 (a : List SV) (c : List Ck) : Option CEff := match a, c with
  | [(.ptr 0 0), (.v (.int .i64 x1))], [.blk 54 [(.wsl 1), (.v (.int .i64 x2))], .row (.bs 5 s1)] => some ⟨[lock Obl fun _ => ∃ r, lock F_octet_Window_Num x1 x2 s1 = some r], .many (Int × Nat × Nat × Int) (fun r => lock F_octet_Window_Num x1 x2 s1 = some r) (fun | (u0, u1, u2, u3) => (.v (.int .u64 u0))) (fun | (u0, u1, u2, u3) => [.to (.blk 54 [(.sl 1 u1 u2), (.v (.int .i64 u3))]), .same])⟩
  | _, _ => none
noncomputable def con_octet_Window_Num_2 (a : List SV) (c : List Ck) : Option CEff := match a, c with
  | [(.ptr 0 0), (.v (.int .i64 x1))], [.blk 54 [(.sl 1 n1 n2), (.v (.int .i64 x2))], .row (.bs 5 s1)] => some ⟨[lock Obl fun _ => ∃ r, lock F_octet_Window_Num_2 x1 n1 n2 x2 s1 = some r], .many (Int × Nat × Nat × Int) (fun r => lock F_octet_Window_Num_2 x1 n1 n2 x2 s1 = some r) (fun | (u0, u1, u2, u3) => (.v (.int .u64 u0))) (fun | (u0, u1, u2, u3) => [.to (.blk 54 [(.sl 1 u1 u2), (.v (.int .i64 u3))]), .same])⟩
  | _, _ => none
noncomputable def con_octet_Window_Num_3 (a : List SV) (c : List Ck) : Option CEff := match a, c with
  | [(.v (.pointer none)), (.v (.int .i64 x1))], [] => some ⟨[lock Obl fun _ => ∃ r, lock F_octet_Window_Num_3 x1 = some r], .many (Unit) (fun r => lock F_octet_Window_Num_3 x1 = some r) (fun _ => (.v (.int .u64 (0 : Int)))) (fun _ => [])⟩
  | _, _ => none
noncomputable def con_octet_Window_Num : Con := ⟨[none, none], fun a c => altC (con_octet_Window_Num_1 a c) (altC (con_octet_Window_Num_2 a c) (con_octet_Window_Num_3 a c))⟩

noncomputable def con_octet_Window_Left_1 (a : List SV) (c : List Ck) : Option CEff := match a, c with
  | [(.ptr 0 0)], [.blk 54 [(.sl 1 n1 n2), (.v (.int .i64 x1))], .row (.bs 5 s1)] => some ⟨[lock Obl fun _ => ∃ r, lock F_octet_Window_Left n1 n2 x1 s1 = some r], .many (Int) (fun r => lock F_octet_Window_Left n1 n2 x1 s1 = some r) (fun u0 => (.v (.int .i64 u0))) (fun u0 => [.same, .same])⟩
  | _, _ => none
noncomputable def con_octet_Window_Left_2 (a : List SV) (c : List Ck) : Option CEff := match a, c with
  | [(.v (.pointer none))], [] => some ⟨[lock Obl fun _ => ∃ r, lock F_octet_Window_Left_3 = some r], .many (Unit) (fun r => lock F_octet_Window_Left_3 = some r) (fun _ => (.v (.int .i64 (0 : Int)))) (fun _ => [])⟩
  | _, _ => none
noncomputable def con_octet_Window_Left : Con := ⟨[none], fun a c => altC (con_octet_Window_Left_1 a c) (con_octet_Window_Left_2 a c)⟩

noncomputable def con_octet_Window_End_1 (a : List SV) (c : List Ck) : Option CEff := match a, c with
  | [(.ptr 0 0)], [.blk 54 [(.sl 1 n1 n2), (.v (.int .i64 x1))], .row (.bs 5 s1)] => some ⟨[lock Obl fun _ => ∃ r, lock F_octet_Window_End n1 n2 x1 s1 = some r], .many (Int) (fun r => lock F_octet_Window_End n1 n2 x1 s1 = some r) (fun u0 => (.v (.int .i64 u0))) (fun u0 => [.same, .same])⟩
  | _, _ => none
noncomputable def con_octet_Window_End_2 (a : List SV) (c : List Ck) : Option CEff := match a, c with
  | [(.v (.pointer none))], [] => some ⟨[lock Obl fun _ => ∃ r, lock F_octet_Window_End_3 = some r], .many (Unit) (fun r => lock F_octet_Window_End_3 = some r) (fun _ => (.v (.int .i64 (1 : Int)))) (fun _ => [])⟩
  | _, _ => none
noncomputable def con_octet_Window_End : Con := ⟨[none], fun a c => altC (con_octet_Window_End_1 a c) (con_octet_Window_End_2 a c)⟩

noncomputable def con_octet_Window_Byte_1 (a : List SV) (c : List Ck) : Option CEff := match a, c with
  | [(.ptr 0 0)], [.blk 54 [(.sl 1 n1 n2), (.v (.int .i64 x1))], .row (.bs 5 s1)] => some ⟨[lock Obl fun _ => ∃ r, lock F_octet_Window_Byte n1 n2 x1 s1 = some r], .many (Int × Nat × Nat × Int) (fun r => lock F_octet_Window_Byte n1 n2 x1 s1 = some r) (fun | (u0, u1, u2, u3) => (.v (.int .u8 u0))) (fun | (u0, u1, u2, u3) => [.to (.blk 54 [(.sl 1 u1 u2), (.v (.int .i64 u3))]), .same])⟩
  | _, _ => none
noncomputable def con_octet_Window_Byte_2 (a : List SV) (c : List Ck) : Option CEff := match a, c with
  | [(.v (.pointer none))], [] => some ⟨[lock Obl fun _ => ∃ r, lock F_octet_Window_Byte_3 = some r], .many (Int) (fun r => lock F_octet_Window_Byte_3 = some r) (fun u0 => (.v (.int .u8 u0))) (fun u0 => [])⟩
  | _, _ => none
noncomputable def con_octet_Window_Byte : Con := ⟨[none], fun a c => altC (con_octet_Window_Byte_1 a c) (con_octet_Window_Byte_2 a c)⟩

noncomputable def con_tollbarlaw01_awake_1 (a : List SV) (c : List Ck) : Option CEff := match a, c with
  | [], [] => some ⟨[lock Obl fun _ => ∃ r, lock F_tollbarlaw01_awake = some r], .many (Bool) (fun r => lock F_tollbarlaw01_awake = some r) (fun u0 => (.v (.bool u0))) (fun u0 => [])⟩
  | _, _ => none
noncomputable def con_tollbarlaw01_awake : Con := ⟨[], fun a c => con_tollbarlaw01_awake_1 a c⟩

noncomputable def con_tollbarref01_W_Bytes_1 (a : List SV) (c : List Ck) : Option CEff := match a, c with
  | [(.ptr 0 0), (.v (.int .i64 x1))], [.blk 30 [(.str s1), (.v (.int .i64 x2))]] => some ⟨[lock Obl fun _ => ∃ r, lock F_tollbarref01_W_Bytes x1 s1 x2 = some r], .many ((List UInt8) × (List UInt8) × Int) (fun r => lock F_tollbarref01_W_Bytes x1 s1 x2 = some r) (fun | (u0, u1, u2) => (.str u0)) (fun | (u0, u1, u2) => [.to (.blk 30 [(.str u1), (.v (.int .i64 u2))])])⟩
  | _, _ => none
noncomputable def con_tollbarref01_W_Bytes : Con := ⟨[none, none], fun a c => con_tollbarref01_W_Bytes_1 a c⟩

noncomputable def con_tollbarref01_Value_1 (a : List SV) (c : List Ck) : Option CEff := match a, c with
  | [(.str s1)], [] => some ⟨[lock Obl fun _ => ∃ r, lock F_tollbarref01_Value s1 = some r], .many (Int × Bool) (fun r => lock F_tollbarref01_Value s1 = some r) (fun | (u0, u1) => (.tup [(.v (.int .u64 u0)), (.v (.bool u1))])) (fun | (u0, u1) => [])⟩
  | _, _ => none
noncomputable def con_tollbarref01_Value : Con := ⟨[none], fun a c => con_tollbarref01_Value_1 a c⟩

noncomputable def con_tollbarref01_W_Num_1 (a : List SV) (c : List Ck) : Option CEff := match a, c with
  | [(.ptr 0 0), (.v (.int .i64 x1))], [.blk 30 [(.str s1), (.v (.int .i64 x2))]] => some ⟨[lock Obl fun _ => ∃ r, lock F_tollbarref01_W_Num x1 s1 x2 = some r], .many (Int × (List UInt8) × Int) (fun r => lock F_tollbarref01_W_Num x1 s1 x2 = some r) (fun | (u0, u1, u2) => (.v (.int .u64 u0))) (fun | (u0, u1, u2) => [.to (.blk 30 [(.str u1), (.v (.int .i64 u2))])])⟩
  | _, _ => none
noncomputable def con_tollbarref01_W_Num : Con := ⟨[none, none], fun a c => con_tollbarref01_W_Num_1 a c⟩

noncomputable def con_tollbarref01_W_End_1 (a : List SV) (c : List Ck) : Option CEff := match a, c with
  | [(.ptr 0 0)], [.blk 30 [(.str s1), (.v (.int .i64 x1))]] => some ⟨[lock Obl fun _ => ∃ r, lock F_tollbarref01_W_End s1 x1 = some r], .many (Int) (fun r => lock F_tollbarref01_W_End s1 x1 = some r) (fun u0 => (.v (.int .i64 u0))) (fun u0 => [.same])⟩
  | _, _ => none
noncomputable def con_tollbarref01_W_End : Con := ⟨[none], fun a c => con_tollbarref01_W_End_1 a c⟩

noncomputable def con_tollbarref01_W_Sub_1 (a : List SV) (c : List Ck) : Option CEff := match a, c with
  | [(.ptr 0 0), (.v (.int .i64 x1))], [.blk 30 [(.str s1), (.v (.int .i64 x2))]] => some ⟨[lock Obl fun _ => ∃ r, lock F_tollbarref01_W_Sub x1 s1 x2 = some r], .many ((List UInt8) × Int × (List UInt8) × Int) (fun r => lock F_tollbarref01_W_Sub x1 s1 x2 = some r) (fun | (u0, u1, u2, u3) => (.ptr 1 0)) (fun | (u0, u1, u2, u3) => [.to (.blk 30 [(.str u0), (.v (.int .i64 u1))]), .to (.blk 30 [(.str u2), (.v (.int .i64 u3))])])⟩
  | _, _ => none
noncomputable def con_tollbarref01_W_Sub : Con := ⟨[none, none], fun a c => con_tollbarref01_W_Sub_1 a c⟩

noncomputable def con_tollbarlaw01_OctetReads_1 (a : List SV) (c : List Ck) : Option CEff := match a, c with
  | [(.rsl (.bs 5 s1)), (.rsl (.row 32 (.st [(.int .i64), (.int .i64)]) r1))], [] => some ⟨[lock Obl fun _ => ∃ r, lock F_tollbarlaw01_OctetReads s1 r1 = some r], .many (Bool) (fun r => lock F_tollbarlaw01_OctetReads s1 r1 = some r) (fun u0 => (.v (.bool u0))) (fun u0 => [])⟩
  | _, _ => none
noncomputable def con_tollbarlaw01_OctetReads : Con := ⟨[], fun a c => con_tollbarlaw01_OctetReads_1 a c⟩

noncomputable def con_tollbarlaw01_power_1 (a : List SV) (c : List Ck) : Option CEff := match a, c with
  | [(.v (.int .i64 x1))], [] => some ⟨[lock Obl fun _ => ∃ r, lock F_tollbarlaw01_power x1 = some r], .many (Int) (fun r => lock F_tollbarlaw01_power x1 = some r) (fun u0 => (.v (.int .u64 u0))) (fun u0 => [])⟩
  | _, _ => none
noncomputable def con_tollbarlaw01_power : Con := ⟨[none], fun a c => con_tollbarlaw01_power_1 a c⟩

noncomputable def con_tollbarlaw01_OctetBack_1 (a : List SV) (c : List Ck) : Option CEff := match a, c with
  | [(.rsl (.ints 33 .u64 l1)), (.rsl (.bs 5 s1))], [] => some ⟨[lock Obl fun _ => ∃ r, lock F_tollbarlaw01_OctetBack l1 s1 = some r], .many (Bool) (fun r => lock F_tollbarlaw01_OctetBack l1 s1 = some r) (fun u0 => (.v (.bool u0))) (fun u0 => [])⟩
  | _, _ => none
noncomputable def con_tollbarlaw01_OctetBack : Con := ⟨[], fun a c => con_tollbarlaw01_OctetBack_1 a c⟩

noncomputable def con_tollbarlaw01_OctetLeast_1 (a : List SV) (c : List Ck) : Option CEff := match a, c with
  | [(.v (.int .u64 x1)), (.v (.int .u8 x2))], [] => some ⟨[lock Obl fun _ => ∃ r, lock F_tollbarlaw01_OctetLeast x1 x2 = some r], .many (Bool) (fun r => lock F_tollbarlaw01_OctetLeast x1 x2 = some r) (fun u0 => (.v (.bool u0))) (fun u0 => [])⟩
  | _, _ => none
noncomputable def con_tollbarlaw01_OctetLeast : Con := ⟨[], fun a c => con_tollbarlaw01_OctetLeast_1 a c⟩

noncomputable def con_tollbarlaw01_OctetWindows_1 (a : List SV) (c : List Ck) : Option CEff := match a, c with
  | [(.rsl (.bs 5 s1)), (.v (.int .u16 x1)), (.v (.int .u8 x2))], [] => some ⟨[lock Obl fun _ => ∃ r, lock F_tollbarlaw01_OctetWindows s1 x1 x2 = some r], .many (Bool) (fun r => lock F_tollbarlaw01_OctetWindows s1 x1 x2 = some r) (fun u0 => (.v (.bool u0))) (fun u0 => [])⟩
  | _, _ => none
noncomputable def con_tollbarlaw01_OctetWindows : Con := ⟨[], fun a c => con_tollbarlaw01_OctetWindows_1 a c⟩
end Go.Proofs.Ytolfegaldhhmkaa
end
section
/-
  The functions of this seat, made short (printed by a program of ours).
-/
set_option linter.unusedVariables false
set_option maxRecDepth 20000
namespace Go.Proofs.Ytolfegaldhhmkaa
open Go.RowKit

/-- tollbar/tollbarlaw01.OctetReads -/
def ic_3 : IC := (.seq (.reg false [⟨some 4, none, [], .mv (.k (.v (.bool false)))⟩])
 (.seq (.reg false [⟨some 13, none, [], .call 7 []⟩,
  ⟨some 5, none, [], .mv (.t 13)⟩])
 (.seq (.seq (.reg false [⟨some 14, none, [], .mv (.t 5)⟩,
  ⟨some 15, none, [], .bnot (.t 14)⟩])
 (.cond (.t 15)
 (.seq (.reg false [⟨some 4, none, [], .mv (.k (.v (.bool false)))⟩])
 .ret)
 .skip))
 (.seq (.seq (.reg false [⟨some 16, none, [], .mv (.t 0)⟩,
  ⟨some 17, none, [], .len false (.t 16)⟩,
  ⟨some 18, none, [], .ib .gt .i64 (.t 17) (.k (.v (.int .i64 1000)))⟩,
  ⟨some 19, none, [], .mv (.t 18)⟩,
  ⟨some 20, some (19, false), [], .mv (.t 1)⟩,
  ⟨some 21, some (19, false), [], .len false (.t 20)⟩,
  ⟨some 22, some (19, false), [], .ib .gt .i64 (.t 21) (.k (.v (.int .i64 60)))⟩,
  ⟨some 23, none, [], .pick (.t 19) (.k (.v (.bool true))) (.t 22)⟩])
 (.cond (.t 23)
 (.seq (.reg false [⟨some 4, none, [], .mv (.k (.v (.bool true)))⟩])
 .ret)
 .skip))
 (.seq (.reg false [⟨some 24, none, [], .mv (.t 0)⟩,
  ⟨some 25, none, [], .call 8 [(.t 24)]⟩,
  ⟨some 6, none, [], .mv (.t 25)⟩])
 (.seq (.reg false [⟨some 26, none, [], .mv (.t 0)⟩,
  ⟨some 27, none, [], .b2s (.t 26)⟩,
  ⟨some 28, none, [], .build [(.str []), (.v (.int .i64 0))] [(0, 1, (.t 27))]⟩,
  ⟨some 29, none, [], .box 30 2 (.t 28)⟩,
  ⟨some 7, none, [], .mv (.t 29)⟩])
 (.seq (.seq (.reg false [⟨some 8, none, [], .mv (.k (.v (.int .i64 0)))⟩])
 (.block 0
 (.loop
 (.seq (.seq (.reg false [⟨some 30, none, [], .mv (.t 8)⟩,
  ⟨some 31, none, [], .mv (.t 1)⟩,
  ⟨some 32, none, [], .len false (.t 31)⟩,
  ⟨some 33, none, [], .ib .lt .i64 (.t 30) (.t 32)⟩])
 (.cond (.t 33)
 .skip
 (.exit 0)))
 (.seq (.block 1
 (.seq (.reg false [⟨some 36, none, [], .mv (.t 1)⟩,
  ⟨some 37, none, [], .mv (.t 8)⟩,
  ⟨some 38, none, [], .idx (.t 36) (.t 37) 2⟩,
  ⟨some 39, none, [], .fld (.t 38) 1⟩,
  ⟨some 40, none, [], .ld (.t 39)⟩,
  ⟨some 9, none, [], .mv (.t 40)⟩])
 (.seq (.seq (.reg false [⟨some 41, none, [], .mv (.t 1)⟩,
  ⟨some 42, none, [], .mv (.t 8)⟩,
  ⟨some 43, none, [], .idx (.t 41) (.t 42) 2⟩,
  ⟨some 44, none, [], .fld (.t 43) 0⟩,
  ⟨some 45, none, [], .ld (.t 44)⟩])
 (.block 2
 (.seq (.reg false [⟨some 47, none, [], .ib .eq .i64 (.t 45) (.k (.v (.int .i64 0)))⟩,
  ⟨some 46, none, [], .mv (.t 47)⟩])
 (.cond (.t 46)
 (.seq (.reg false [⟨some 48, none, [], .mv (.t 6)⟩,
  ⟨some 49, none, [], .call 9 [(.t 48)]⟩,
  ⟨some 50, none, [], .conv .u64 (.t 49)⟩,
  ⟨some 51, none, [], .mv (.t 7)⟩,
  ⟨some 52, none, [], .call 10 [(.t 51), (.k (.v (.int .i64 1)))]⟩,
  ⟨some 53, none, [], .ib .ne .u64 (.t 50) (.t 52)⟩])
 (.cond (.t 53)
 (.seq (.reg false [⟨some 4, none, [], .mv (.k (.v (.bool false)))⟩])
 .ret)
 .skip))
 (.seq (.reg false [⟨some 55, none, [], .ib .eq .i64 (.t 45) (.k (.v (.int .i64 1)))⟩,
  ⟨some 54, none, [], .mv (.t 55)⟩])
 (.cond (.t 54)
 (.seq (.reg false [⟨some 56, none, [], .mv (.t 6)⟩,
  ⟨some 57, none, [], .mv (.t 9)⟩,
  ⟨some 58, none, [], .call 11 [(.t 56), (.t 57)]⟩,
  ⟨some 59, none, [], .mv (.t 7)⟩,
  ⟨some 60, none, [], .mv (.t 9)⟩,
  ⟨some 61, none, [], .call 10 [(.t 59), (.t 60)]⟩,
  ⟨some 62, none, [], .ib .ne .u64 (.t 58) (.t 61)⟩])
 (.cond (.t 62)
 (.seq (.reg false [⟨some 4, none, [], .mv (.k (.v (.bool false)))⟩])
 .ret)
 .skip))
 (.seq (.reg false [⟨some 64, none, [], .ib .eq .i64 (.t 45) (.k (.v (.int .i64 2)))⟩,
  ⟨some 63, none, [], .mv (.t 64)⟩])
 (.cond (.t 63)
 (.seq (.reg true [⟨some 65, none, [], .mv (.t 6)⟩,
  ⟨some 66, none, [], .mv (.t 9)⟩,
  ⟨some 67, none, [0, 1], .call 12 [(.t 65), (.t 66)]⟩,
  ⟨some 68, none, [2, 0, 1], .b2s (.t 67)⟩,
  ⟨some 69, none, [], .mv (.t 7)⟩,
  ⟨some 70, none, [], .mv (.t 9)⟩,
  ⟨some 71, none, [4, 5, 2, 0, 1], .call 13 [(.t 69), (.t 70)]⟩,
  ⟨some 72, none, [3, 2, 0, 1, 6, 4, 5], .sb .ne (.t 68) (.t 71)⟩])
 (.cond (.t 72)
 (.seq (.reg false [⟨some 4, none, [], .mv (.k (.v (.bool false)))⟩])
 .ret)
 .skip))
 (.seq (.reg false [⟨some 74, none, [], .ib .eq .i64 (.t 45) (.k (.v (.int .i64 3)))⟩,
  ⟨some 73, none, [], .mv (.t 74)⟩])
 (.cond (.t 73)
 (.seq (.reg false [⟨some 75, none, [], .mv (.t 6)⟩,
  ⟨some 76, none, [], .mv (.t 9)⟩,
  ⟨some 77, none, [], .call 14 [(.t 75), (.t 76)]⟩,
  ⟨some 10, none, [], .mv (.t 77)⟩])
 (.seq (.reg false [⟨some 78, none, [], .mv (.t 7)⟩,
  ⟨some 79, none, [], .mv (.t 9)⟩,
  ⟨some 80, none, [], .call 15 [(.t 78), (.t 79)]⟩,
  ⟨some 11, none, [], .mv (.t 80)⟩])
 (.seq (.reg true [⟨some 81, none, [], .mv (.t 10)⟩,
  ⟨some 82, none, [0], .call 11 [(.t 81), (.k (.v (.int .i64 2)))]⟩,
  ⟨some 83, none, [], .mv (.t 11)⟩,
  ⟨some 84, none, [2, 1, 0], .call 10 [(.t 83), (.k (.v (.int .i64 2)))]⟩,
  ⟨some 85, none, [1, 0, 3, 2], .ib .ne .u64 (.t 82) (.t 84)⟩,
  ⟨some 86, none, [4, 1, 0, 3, 2], .mv (.t 85)⟩,
  ⟨some 87, some (86, false), [5, 4, 1, 0, 3, 2], .mv (.t 10)⟩,
  ⟨some 88, some (86, false), [6, 5, 4, 1, 0, 3, 2], .call 16 [(.t 87)]⟩,
  ⟨some 89, some (86, false), [5, 4, 1, 0, 3, 2], .mv (.t 11)⟩,
  ⟨some 90, some (86, false), [8, 5, 4, 1, 0, 3, 2], .chk (.t 89)⟩,
  ⟨some 91, some (86, false), [9, 8, 5, 4, 1, 0, 3, 2], .fld (.t 90) 0⟩,
  ⟨some 92, some (86, false), [10, 9, 8, 5, 4, 1, 0, 3, 2], .ld (.t 91)⟩,
  ⟨some 93, some (86, false), [11, 10, 9, 8, 5, 4, 1, 0, 3, 2], .len true (.t 92)⟩,
  ⟨some 94, some (86, false), [7, 6, 5, 4, 1, 0, 3, 2, 12, 11, 10, 9, 8], .ib .ne .i64 (.t 88) (.t 93)⟩,
  ⟨some 95, none, [5, 4, 1, 0, 3, 2, 13, 7, 6, 12, 11, 10, 9, 8], .pick (.t 86) (.k (.v (.bool true))) (.t 94)⟩,
  ⟨some 96, none, [14, 5, 4, 1, 0, 3, 2, 13, 7, 6, 12, 11, 10, 9, 8], .mv (.t 95)⟩,
  ⟨some 97, some (96, false), [15, 14, 5, 4, 1, 0, 3, 2, 13, 7, 6, 12, 11, 10, 9, 8], .mv (.t 10)⟩,
  ⟨some 98, some (96, false), [16, 15, 14, 5, 4, 1, 0, 3, 2, 13, 7, 6, 12, 11, 10, 9, 8], .call 17 [(.t 97)]⟩,
  ⟨some 99, some (96, false), [15, 14, 5, 4, 1, 0, 3, 2, 13, 7, 6, 12, 11, 10, 9, 8], .mv (.t 11)⟩,
  ⟨some 100, some (96, false), [18, 15, 14, 5, 4, 1, 0, 3, 2, 13, 7, 6, 12, 11, 10, 9, 8], .chk (.t 99)⟩,
  ⟨some 101, some (96, false), [19, 18, 15, 14, 5, 4, 1, 0, 3, 2, 13, 7, 6, 12, 11, 10, 9, 8], .fld (.t 100) 1⟩,
  ⟨some 102, some (96, false), [20, 19, 18, 15, 14, 5, 4, 1, 0, 3, 2, 13, 7, 6, 12, 11, 10, 9, 8], .ld (.t 101)⟩,
  ⟨some 103, some (96, false), [17, 16, 15, 14, 5, 4, 1, 0, 3, 2, 13, 7, 6, 12, 11, 10, 9, 8, 21, 20, 19, 18], .ib .ne .i64 (.t 98) (.t 102)⟩,
  ⟨some 104, none, [15, 14, 5, 4, 1, 0, 3, 2, 13, 7, 6, 12, 11, 10, 9, 8, 22, 17, 16, 21, 20, 19, 18], .pick (.t 96) (.k (.v (.bool true))) (.t 103)⟩])
 (.cond (.t 104)
 (.seq (.reg false [⟨some 4, none, [], .mv (.k (.v (.bool false)))⟩])
 .ret)
 .skip))))
 .skip))))))))))
 (.seq (.reg true [⟨some 105, none, [], .mv (.t 6)⟩,
  ⟨some 106, none, [0], .call 16 [(.t 105)]⟩,
  ⟨some 107, none, [], .mv (.t 7)⟩,
  ⟨some 108, none, [2], .chk (.t 107)⟩,
  ⟨some 109, none, [3, 2], .fld (.t 108) 0⟩,
  ⟨some 110, none, [4, 3, 2], .ld (.t 109)⟩,
  ⟨some 111, none, [5, 4, 3, 2], .len true (.t 110)⟩,
  ⟨some 112, none, [1, 0, 6, 5, 4, 3, 2], .ib .ne .i64 (.t 106) (.t 111)⟩,
  ⟨some 113, none, [7, 1, 0, 6, 5, 4, 3, 2], .mv (.t 112)⟩,
  ⟨some 114, some (113, false), [8, 7, 1, 0, 6, 5, 4, 3, 2], .mv (.t 6)⟩,
  ⟨some 115, some (113, false), [9, 8, 7, 1, 0, 6, 5, 4, 3, 2], .call 17 [(.t 114)]⟩,
  ⟨some 116, some (113, false), [8, 7, 1, 0, 6, 5, 4, 3, 2], .mv (.t 7)⟩,
  ⟨some 117, some (113, false), [11, 8, 7, 1, 0, 6, 5, 4, 3, 2], .chk (.t 116)⟩,
  ⟨some 118, some (113, false), [12, 11, 8, 7, 1, 0, 6, 5, 4, 3, 2], .fld (.t 117) 1⟩,
  ⟨some 119, some (113, false), [13, 12, 11, 8, 7, 1, 0, 6, 5, 4, 3, 2], .ld (.t 118)⟩,
  ⟨some 120, some (113, false), [10, 9, 8, 7, 1, 0, 6, 5, 4, 3, 2, 14, 13, 12, 11], .ib .ne .i64 (.t 115) (.t 119)⟩,
  ⟨some 121, none, [8, 7, 1, 0, 6, 5, 4, 3, 2, 15, 10, 9, 14, 13, 12, 11], .pick (.t 113) (.k (.v (.bool true))) (.t 120)⟩,
  ⟨some 122, none, [16, 8, 7, 1, 0, 6, 5, 4, 3, 2, 15, 10, 9, 14, 13, 12, 11], .mv (.t 121)⟩,
  ⟨some 123, some (122, false), [17, 16, 8, 7, 1, 0, 6, 5, 4, 3, 2, 15, 10, 9, 14, 13, 12, 11], .mv (.t 6)⟩,
  ⟨some 124, some (122, false), [18, 17, 16, 8, 7, 1, 0, 6, 5, 4, 3, 2, 15, 10, 9, 14, 13, 12, 11], .call 18 [(.t 123)]⟩,
  ⟨some 125, some (122, false), [17, 16, 8, 7, 1, 0, 6, 5, 4, 3, 2, 15, 10, 9, 14, 13, 12, 11], .mv (.t 7)⟩,
  ⟨some 126, some (122, false), [20, 17, 16, 8, 7, 1, 0, 6, 5, 4, 3, 2, 15, 10, 9, 14, 13, 12, 11, 19, 18], .call 19 [(.t 125)]⟩,
  ⟨some 127, some (122, false), [19, 18, 17, 16, 8, 7, 1, 0, 6, 5, 4, 3, 2, 15, 10, 9, 14, 13, 12, 11, 21, 20], .ib .ne .i64 (.t 124) (.t 126)⟩,
  ⟨some 128, none, [17, 16, 8, 7, 1, 0, 6, 5, 4, 3, 2, 15, 10, 9, 14, 13, 12, 11, 22, 19, 18, 21, 20], .pick (.t 122) (.k (.v (.bool true))) (.t 127)⟩])
 (.cond (.t 128)
 (.seq (.reg false [⟨some 4, none, [], .mv (.k (.v (.bool false)))⟩])
 .ret)
 .skip)))))
 (.reg false [⟨some 34, none, [], .mv (.t 8)⟩,
  ⟨some 35, none, [], .ib .add .i64 (.t 34) (.k (.v (.int .i64 1)))⟩,
  ⟨some 8, none, [], .mv (.t 35)⟩]))))))
 (.seq (.reg false [⟨some 12, none, [], .mv (.k (.v (.pointer none)))⟩])
 (.seq (.reg false [⟨some 129, none, [], .mv (.t 12)⟩,
  ⟨some 130, none, [], .call 16 [(.t 129)]⟩,
  ⟨some 131, none, [], .ib .eq .i64 (.t 130) (.k (.v (.int .i64 0)))⟩,
  ⟨some 132, none, [], .mv (.t 131)⟩,
  ⟨some 133, some (132, true), [], .mv (.t 12)⟩,
  ⟨some 134, some (132, true), [], .call 9 [(.t 133)]⟩,
  ⟨some 135, some (132, true), [], .ib .eq .u8 (.t 134) (.k (.v (.int .u8 0)))⟩,
  ⟨some 136, none, [], .pick (.t 132) (.t 135) (.k (.v (.bool false)))⟩,
  ⟨some 137, none, [], .mv (.t 136)⟩,
  ⟨some 138, some (137, true), [], .mv (.t 12)⟩,
  ⟨some 139, some (137, true), [], .call 11 [(.t 138), (.k (.v (.int .i64 1)))]⟩,
  ⟨some 140, some (137, true), [], .ib .eq .u64 (.t 139) (.k (.v (.int .u64 0)))⟩,
  ⟨some 141, none, [], .pick (.t 137) (.t 140) (.k (.v (.bool false)))⟩,
  ⟨some 142, none, [], .mv (.t 141)⟩,
  ⟨some 143, some (142, true), [], .mv (.t 12)⟩,
  ⟨some 144, some (142, true), [], .call 12 [(.t 143), (.k (.v (.int .i64 1)))]⟩,
  ⟨some 145, some (142, true), [], .len false (.t 144)⟩,
  ⟨some 146, some (142, true), [], .ib .eq .i64 (.t 145) (.k (.v (.int .i64 0)))⟩,
  ⟨some 147, none, [], .pick (.t 142) (.t 146) (.k (.v (.bool false)))⟩,
  ⟨some 148, none, [], .mv (.t 147)⟩,
  ⟨some 149, some (148, true), [], .mv (.t 12)⟩,
  ⟨some 150, some (148, true), [], .call 14 [(.t 149), (.k (.v (.int .i64 1)))]⟩,
  ⟨some 151, some (148, true), [], .call 17 [(.t 150)]⟩,
  ⟨some 152, some (148, true), [], .ib .eq .i64 (.t 151) (.k (.v (.int .i64 1)))⟩,
  ⟨some 153, none, [], .pick (.t 148) (.t 152) (.k (.v (.bool false)))⟩,
  ⟨some 154, none, [], .mv (.t 153)⟩,
  ⟨some 155, some (154, true), [], .mv (.t 12)⟩,
  ⟨some 156, some (154, true), [], .call 17 [(.t 155)]⟩,
  ⟨some 157, some (154, true), [], .ib .eq .i64 (.t 156) (.k (.v (.int .i64 1)))⟩,
  ⟨some 158, none, [], .pick (.t 154) (.t 157) (.k (.v (.bool false)))⟩,
  ⟨some 159, none, [], .mv (.t 158)⟩,
  ⟨some 160, some (159, true), [], .mv (.t 12)⟩,
  ⟨some 161, some (159, true), [], .call 18 [(.t 160)]⟩,
  ⟨some 162, some (159, true), [], .ib .eq .i64 (.t 161) (.k (.v (.int .i64 1)))⟩,
  ⟨some 163, none, [], .pick (.t 159) (.t 162) (.k (.v (.bool false)))⟩,
  ⟨some 4, none, [], .mv (.t 163)⟩])
 .ret)))))))))
theorem comp_3 : compF Try.prog Try.f3 = some (ic_3, [.t 4], 164) := by kernel_rfl
-- ros 3 [(some (.bs 5)), (some (.row 32 (.st [(.int .i64), (.int .i64)])))] TYS [(.bytes 5), (.row 32 (.st [(.int .i64), (.int .i64)]))]

/-- tollbar/tollbarlaw01.OctetBack -/
def ic_4 : IC := (.seq (.reg false [⟨some 4, none, [], .mv (.k (.v (.bool false)))⟩])
 (.seq (.reg false [⟨some 15, none, [], .call 7 []⟩,
  ⟨some 5, none, [], .mv (.t 15)⟩])
 (.seq (.seq (.reg false [⟨some 16, none, [], .mv (.t 5)⟩,
  ⟨some 17, none, [], .bnot (.t 16)⟩])
 (.cond (.t 17)
 (.seq (.reg false [⟨some 4, none, [], .mv (.k (.v (.bool false)))⟩])
 .ret)
 .skip))
 (.seq (.seq (.reg false [⟨some 18, none, [], .mv (.t 0)⟩,
  ⟨some 19, none, [], .len false (.t 18)⟩,
  ⟨some 20, none, [], .ib .gt .i64 (.t 19) (.k (.v (.int .i64 40)))⟩,
  ⟨some 21, none, [], .mv (.t 20)⟩,
  ⟨some 22, some (21, false), [], .mv (.t 1)⟩,
  ⟨some 23, some (21, false), [], .len false (.t 22)⟩,
  ⟨some 24, some (21, false), [], .mv (.t 0)⟩,
  ⟨some 25, some (21, false), [], .len false (.t 24)⟩,
  ⟨some 26, some (21, false), [], .ib .lt .i64 (.t 23) (.t 25)⟩,
  ⟨some 27, none, [], .pick (.t 21) (.k (.v (.bool true))) (.t 26)⟩])
 (.cond (.t 27)
 (.seq (.reg false [⟨some 4, none, [], .mv (.k (.v (.bool true)))⟩])
 .ret)
 .skip))
 (.seq (.reg false [⟨some 6, none, [], .mv (.k .nsl)⟩])
 (.seq (.seq (.reg false [⟨some 7, none, [], .mv (.k (.v (.int .i64 0)))⟩])
 (.block 0
 (.loop
 (.seq (.seq (.reg false [⟨some 28, none, [], .mv (.t 7)⟩,
  ⟨some 29, none, [], .mv (.t 0)⟩,
  ⟨some 30, none, [], .len false (.t 29)⟩,
  ⟨some 31, none, [], .ib .lt .i64 (.t 28) (.t 30)⟩])
 (.cond (.t 31)
 .skip
 (.exit 0)))
 (.seq (.block 1
 (.reg true [⟨some 34, none, [], .mv (.t 6)⟩,
  ⟨some 35, none, [], .mv (.t 0)⟩,
  ⟨some 36, none, [], .mv (.t 7)⟩,
  ⟨some 37, none, [1, 2], .idx (.t 35) (.t 36) 1⟩,
  ⟨some 38, none, [3, 1, 2], .ld (.t 37)⟩,
  ⟨some 39, none, [], .mv (.t 1)⟩,
  ⟨some 40, none, [], .mv (.t 7)⟩,
  ⟨some 41, none, [5, 6], .idx (.t 39) (.t 40) 1⟩,
  ⟨some 42, none, [7, 5, 6], .ld (.t 41)⟩,
  ⟨some 43, none, [8, 7, 5, 6], .ib .rem .u8 (.t 42) (.k (.v (.int .u8 8)))⟩,
  ⟨some 44, none, [9, 8, 7, 5, 6], .conv .i64 (.t 43)⟩,
  ⟨some 45, none, [10, 9, 8, 7, 5, 6], .ib .add .i64 (.t 44) (.k (.v (.int .i64 1)))⟩,
  ⟨some 46, none, [4, 3, 1, 2, 11, 10, 9, 8, 7, 5, 6], .call 20 [(.t 38), (.t 45)]⟩,
  ⟨some 47, none, [0, 12, 4, 3, 1, 2, 11, 10, 9, 8, 7, 5, 6], .app (.bs 5) 1 (.t 34) (.t 46)⟩,
  ⟨some 6, none, [13, 0, 12, 4, 3, 1, 2, 11, 10, 9, 8, 7, 5, 6], .mv (.t 47)⟩]))
 (.reg false [⟨some 32, none, [], .mv (.t 7)⟩,
  ⟨some 33, none, [], .ib .add .i64 (.t 32) (.k (.v (.int .i64 1)))⟩,
  ⟨some 7, none, [], .mv (.t 33)⟩]))))))
 (.seq (.reg false [⟨some 48, none, [], .mv (.t 6)⟩,
  ⟨some 49, none, [], .call 8 [(.t 48)]⟩,
  ⟨some 8, none, [], .mv (.t 49)⟩])
 (.seq (.seq (.reg false [⟨some 9, none, [], .mv (.k (.v (.int .i64 0)))⟩])
 (.block 2
 (.loop
 (.seq (.seq (.reg false [⟨some 50, none, [], .mv (.t 9)⟩,
  ⟨some 51, none, [], .mv (.t 0)⟩,
  ⟨some 52, none, [], .len false (.t 51)⟩,
  ⟨some 53, none, [], .ib .lt .i64 (.t 50) (.t 52)⟩])
 (.cond (.t 53)
 .skip
 (.exit 2)))
 (.seq (.block 3
 (.seq (.reg false [⟨some 56, none, [], .mv (.t 1)⟩,
  ⟨some 57, none, [], .mv (.t 9)⟩,
  ⟨some 58, none, [], .idx (.t 56) (.t 57) 1⟩,
  ⟨some 59, none, [], .ld (.t 58)⟩,
  ⟨some 60, none, [], .ib .rem .u8 (.t 59) (.k (.v (.int .u8 8)))⟩,
  ⟨some 61, none, [], .conv .i64 (.t 60)⟩,
  ⟨some 62, none, [], .ib .add .i64 (.t 61) (.k (.v (.int .i64 1)))⟩,
  ⟨some 10, none, [], .mv (.t 62)⟩])
 (.seq (.reg false [⟨some 63, none, [], .mv (.t 0)⟩,
  ⟨some 64, none, [], .mv (.t 9)⟩,
  ⟨some 65, none, [], .idx (.t 63) (.t 64) 1⟩,
  ⟨some 66, none, [], .ld (.t 65)⟩,
  ⟨some 11, none, [], .mv (.t 66)⟩])
 (.seq (.seq (.reg false [⟨some 12, none, [], .mv (.k (.v (.int .i64 7)))⟩])
 (.block 4
 (.loop
 (.seq (.seq (.reg false [⟨some 67, none, [], .mv (.t 12)⟩,
  ⟨some 68, none, [], .mv (.t 10)⟩,
  ⟨some 69, none, [], .ib .ge .i64 (.t 67) (.t 68)⟩])
 (.cond (.t 69)
 .skip
 (.exit 4)))
 (.seq (.block 5
 (.reg false [⟨some 72, none, [], .mv (.t 11)⟩,
  ⟨some 73, none, [], .mv (.t 12)⟩,
  ⟨some 74, none, [], .call 21 [(.t 73)]⟩,
  ⟨some 75, none, [], .ib .rem .u64 (.t 72) (.t 74)⟩,
  ⟨some 11, none, [], .mv (.t 75)⟩]))
 (.reg false [⟨some 70, none, [], .mv (.t 12)⟩,
  ⟨some 71, none, [], .ib .sub .i64 (.t 70) (.k (.v (.int .i64 1)))⟩,
  ⟨some 12, none, [], .mv (.t 71)⟩]))))))
 (.seq (.reg false [⟨some 76, none, [], .mv (.t 8)⟩,
  ⟨some 77, none, [], .mv (.t 10)⟩,
  ⟨some 78, none, [], .call 11 [(.t 76), (.t 77)]⟩,
  ⟨some 79, none, [], .mv (.t 11)⟩,
  ⟨some 80, none, [], .ib .ne .u64 (.t 78) (.t 79)⟩])
 (.cond (.t 80)
 (.seq (.reg false [⟨some 4, none, [], .mv (.k (.v (.bool false)))⟩])
 .ret)
 .skip))))))
 (.reg false [⟨some 54, none, [], .mv (.t 9)⟩,
  ⟨some 55, none, [], .ib .add .i64 (.t 54) (.k (.v (.int .i64 1)))⟩,
  ⟨some 9, none, [], .mv (.t 55)⟩]))))))
 (.seq (.seq (.reg false [⟨some 81, none, [], .mv (.t 8)⟩,
  ⟨some 82, none, [], .call 18 [(.t 81)]⟩,
  ⟨some 83, none, [], .ib .ne .i64 (.t 82) (.k (.v (.int .i64 0)))⟩,
  ⟨some 84, none, [], .mv (.t 83)⟩,
  ⟨some 85, some (84, false), [], .mv (.t 0)⟩,
  ⟨some 86, some (84, false), [], .len false (.t 85)⟩,
  ⟨some 87, some (84, false), [], .ib .eq .i64 (.t 86) (.k (.v (.int .i64 0)))⟩,
  ⟨some 88, none, [], .pick (.t 84) (.k (.v (.bool true))) (.t 87)⟩])
 (.cond (.t 88)
 (.seq (.reg false [⟨some 89, none, [], .mv (.t 8)⟩,
  ⟨some 90, none, [], .call 18 [(.t 89)]⟩,
  ⟨some 91, none, [], .ib .eq .i64 (.t 90) (.k (.v (.int .i64 0)))⟩,
  ⟨some 4, none, [], .mv (.t 91)⟩])
 .ret)
 .skip))
 (.seq (.reg false [⟨some 92, none, [], .mv (.t 6)⟩,
  ⟨some 93, none, [], .mv (.t 6)⟩,
  ⟨some 94, none, [], .len false (.t 93)⟩,
  ⟨some 95, none, [], .ib .sub .i64 (.t 94) (.k (.v (.int .i64 1)))⟩,
  ⟨some 96, none, [], .sls (.t 92) none (some (.t 95)) 1⟩,
  ⟨some 97, none, [], .call 8 [(.t 96)]⟩,
  ⟨some 13, none, [], .mv (.t 97)⟩])
 (.seq (.seq (.reg false [⟨some 14, none, [], .mv (.k (.v (.int .i64 0)))⟩])
 (.block 6
 (.loop
 (.seq (.seq (.reg false [⟨some 98, none, [], .mv (.t 14)⟩,
  ⟨some 99, none, [], .mv (.t 0)⟩,
  ⟨some 100, none, [], .len false (.t 99)⟩,
  ⟨some 101, none, [], .ib .lt .i64 (.t 98) (.t 100)⟩])
 (.cond (.t 101)
 .skip
 (.exit 6)))
 (.seq (.block 7
 (.reg false [⟨some 104, none, [], .mv (.t 13)⟩,
  ⟨some 105, none, [], .mv (.t 1)⟩,
  ⟨some 106, none, [], .mv (.t 14)⟩,
  ⟨some 107, none, [], .idx (.t 105) (.t 106) 1⟩,
  ⟨some 108, none, [], .ld (.t 107)⟩,
  ⟨some 109, none, [], .ib .rem .u8 (.t 108) (.k (.v (.int .u8 8)))⟩,
  ⟨some 110, none, [], .conv .i64 (.t 109)⟩,
  ⟨some 111, none, [], .ib .add .i64 (.t 110) (.k (.v (.int .i64 1)))⟩,
  ⟨some 112, none, [], .call 11 [(.t 104), (.t 111)]⟩]))
 (.reg false [⟨some 102, none, [], .mv (.t 14)⟩,
  ⟨some 103, none, [], .ib .add .i64 (.t 102) (.k (.v (.int .i64 1)))⟩,
  ⟨some 14, none, [], .mv (.t 103)⟩]))))))
 (.seq (.reg false [⟨some 113, none, [], .mv (.t 13)⟩,
  ⟨some 114, none, [], .call 18 [(.t 113)]⟩,
  ⟨some 115, none, [], .ib .eq .i64 (.t 114) (.k (.v (.int .i64 10)))⟩,
  ⟨some 4, none, [], .mv (.t 115)⟩])
 .ret))))))))))))
theorem comp_4 : compF Try.prog Try.f4 = some (ic_4, [.t 4], 116) := by kernel_rfl
-- ros 4 [(some (.ints 33 .u64)), (some (.bs 5))] TYS [(.ints 33 .u64), (.bytes 5)]

/-- tollbar/tollbarlaw01.OctetLeast -/
def ic_5 : IC := (.seq (.reg false [⟨some 4, none, [], .mv (.k (.v (.bool false)))⟩])
 (.seq (.reg false [⟨some 14, none, [], .call 7 []⟩,
  ⟨some 5, none, [], .mv (.t 14)⟩])
 (.seq (.seq (.reg false [⟨some 15, none, [], .mv (.t 5)⟩,
  ⟨some 16, none, [], .bnot (.t 15)⟩])
 (.cond (.t 16)
 (.seq (.reg false [⟨some 4, none, [], .mv (.k (.v (.bool false)))⟩])
 .ret)
 .skip))
 (.seq (.reg false [⟨some 17, none, [], .mv (.t 0)⟩,
  ⟨some 18, none, [], .call 22 [(.t 17)]⟩,
  ⟨some 6, none, [], .mv (.t 18)⟩])
 (.seq (.reg false [⟨some 20, none, [], .mv (.t 6)⟩,
  ⟨some 21, none, [], .call 23 [(.t 20)]⟩,
  ⟨some 19, none, [], .mv (.t 21)⟩,
  ⟨some 22, none, [], .ext (.t 19) 0⟩,
  ⟨some 23, none, [], .ext (.t 19) 1⟩,
  ⟨some 7, none, [], .mv (.t 22)⟩,
  ⟨some 8, none, [], .mv (.t 23)⟩])
 (.seq (.reg false [⟨some 24, none, [], .mv (.t 1)⟩,
  ⟨some 25, none, [], .ib .rem .u8 (.t 24) (.k (.v (.int .u8 20)))⟩,
  ⟨some 26, none, [], .conv .i64 (.t 25)⟩,
  ⟨some 27, none, [], .mks (.bs 5) 1 (.t 26) (.t 26)⟩,
  ⟨some 9, none, [], .mv (.t 27)⟩])
 (.seq (.reg false [⟨some 28, none, [], .mv (.t 9)⟩,
  ⟨some 29, none, [], .mv (.t 6)⟩,
  ⟨some 30, none, [], .app (.bs 5) 1 (.t 28) (.t 29)⟩,
  ⟨some 9, none, [], .mv (.t 30)⟩])
 (.seq (.reg false [⟨some 32, none, [], .mv (.t 9)⟩,
  ⟨some 33, none, [], .call 23 [(.t 32)]⟩,
  ⟨some 31, none, [], .mv (.t 33)⟩,
  ⟨some 34, none, [], .ext (.t 31) 0⟩,
  ⟨some 35, none, [], .ext (.t 31) 1⟩,
  ⟨some 10, none, [], .mv (.t 34)⟩,
  ⟨some 11, none, [], .mv (.t 35)⟩])
 (.seq (.seq (.reg false [⟨some 36, none, [], .mv (.t 6)⟩,
  ⟨some 37, none, [], .len false (.t 36)⟩,
  ⟨some 38, none, [], .ib .gt .i64 (.t 37) (.k (.v (.int .i64 8)))⟩,
  ⟨some 39, none, [], .mv (.t 38)⟩,
  ⟨some 40, some (39, false), [], .mv (.t 6)⟩,
  ⟨some 41, some (39, false), [], .len false (.t 40)⟩,
  ⟨some 42, some (39, false), [], .ib .gt .i64 (.t 41) (.k (.v (.int .i64 0)))⟩,
  ⟨some 43, some (39, false), [], .mv (.t 42)⟩,
  ⟨some 44, some (43, true), [], .mv (.t 6)⟩,
  ⟨some 45, some (43, true), [], .idx (.t 44) (.k (.v (.int .i64 0))) 1⟩,
  ⟨some 46, some (43, true), [], .ld (.t 45)⟩,
  ⟨some 47, some (43, true), [], .ib .eq .u8 (.t 46) (.k (.v (.int .u8 0)))⟩,
  ⟨some 48, some (39, false), [], .pick (.t 43) (.t 47) (.k (.v (.bool false)))⟩,
  ⟨some 49, none, [], .pick (.t 39) (.k (.v (.bool true))) (.t 48)⟩,
  ⟨some 50, none, [], .mv (.t 49)⟩,
  ⟨some 51, some (50, false), [], .mv (.t 7)⟩,
  ⟨some 52, some (50, false), [], .mv (.t 0)⟩,
  ⟨some 53, some (50, false), [], .ib .ne .u64 (.t 51) (.t 52)⟩,
  ⟨some 54, none, [], .pick (.t 50) (.k (.v (.bool true))) (.t 53)⟩,
  ⟨some 55, none, [], .mv (.t 54)⟩,
  ⟨some 56, some (55, false), [], .mv (.t 8)⟩,
  ⟨some 57, some (55, false), [], .bnot (.t 56)⟩,
  ⟨some 58, none, [], .pick (.t 55) (.k (.v (.bool true))) (.t 57)⟩,
  ⟨some 59, none, [], .mv (.t 58)⟩,
  ⟨some 60, some (59, false), [], .mv (.t 10)⟩,
  ⟨some 61, some (59, false), [], .mv (.t 0)⟩,
  ⟨some 62, some (59, false), [], .ib .ne .u64 (.t 60) (.t 61)⟩,
  ⟨some 63, none, [], .pick (.t 59) (.k (.v (.bool true))) (.t 62)⟩,
  ⟨some 64, none, [], .mv (.t 63)⟩,
  ⟨some 65, some (64, false), [], .mv (.t 11)⟩,
  ⟨some 66, some (64, false), [], .bnot (.t 65)⟩,
  ⟨some 67, none, [], .pick (.t 64) (.k (.v (.bool true))) (.t 66)⟩])
 (.cond (.t 67)
 (.seq (.reg false [⟨some 4, none, [], .mv (.k (.v (.bool false)))⟩])
 .ret)
 .skip))
 (.seq (.reg false [⟨some 69, none, [], .bsl (.bs 5) 9 [(.v (.int .u8 0)), (.v (.int .u8 0)), (.v (.int .u8 0)), (.v (.int .u8 0)), (.v (.int .u8 0)), (.v (.int .u8 0)), (.v (.int .u8 0)), (.v (.int .u8 0)), (.v (.int .u8 0))] [(0, 1, (.k (.v (.int .u8 1)))), (1, 1, (.k (.v (.int .u8 0)))), (2, 1, (.k (.v (.int .u8 0)))), (3, 1, (.k (.v (.int .u8 0)))), (4, 1, (.k (.v (.int .u8 0)))), (5, 1, (.k (.v (.int .u8 0)))), (6, 1, (.k (.v (.int .u8 0)))), (7, 1, (.k (.v (.int .u8 0)))), (8, 1, (.k (.v (.int .u8 0))))]⟩,
  ⟨some 70, none, [], .call 23 [(.t 69)]⟩,
  ⟨some 68, none, [], .mv (.t 70)⟩,
  ⟨some 71, none, [], .ext (.t 68) 0⟩,
  ⟨some 72, none, [], .ext (.t 68) 1⟩,
  ⟨some 12, none, [], .mv (.t 71)⟩,
  ⟨some 13, none, [], .mv (.t 72)⟩])
 (.seq (.reg false [⟨some 73, none, [], .mv (.t 13)⟩,
  ⟨some 74, none, [], .bnot (.t 73)⟩,
  ⟨some 75, none, [], .mv (.t 74)⟩,
  ⟨some 76, some (75, true), [], .mv (.t 6)⟩,
  ⟨some 77, some (75, true), [], .len false (.t 76)⟩,
  ⟨some 78, some (75, true), [], .ib .eq .i64 (.t 77) (.k (.v (.int .i64 8)))⟩,
  ⟨some 79, some (75, true), [], .mv (.t 78)⟩,
  ⟨some 80, some (79, false), [], .mv (.t 0)⟩,
  ⟨some 81, some (79, false), [], .mv (.t 6)⟩,
  ⟨some 82, some (79, false), [], .len false (.t 81)⟩,
  ⟨some 83, some (79, false), [], .call 21 [(.t 82)]⟩,
  ⟨some 84, some (79, false), [], .ib .lt .u64 (.t 80) (.t 83)⟩,
  ⟨some 85, some (75, true), [], .pick (.t 79) (.k (.v (.bool true))) (.t 84)⟩,
  ⟨some 86, none, [], .pick (.t 75) (.t 85) (.k (.v (.bool false)))⟩,
  ⟨some 87, none, [], .mv (.t 86)⟩,
  ⟨some 88, some (87, true), [], .mv (.t 6)⟩,
  ⟨some 89, some (87, true), [], .len false (.t 88)⟩,
  ⟨some 90, some (87, true), [], .ib .eq .i64 (.t 89) (.k (.v (.int .i64 0)))⟩,
  ⟨some 91, some (87, true), [], .mv (.t 90)⟩,
  ⟨some 92, some (91, false), [], .mv (.t 0)⟩,
  ⟨some 93, some (91, false), [], .mv (.t 6)⟩,
  ⟨some 94, some (91, false), [], .len false (.t 93)⟩,
  ⟨some 95, some (91, false), [], .ib .sub .i64 (.t 94) (.k (.v (.int .i64 1)))⟩,
  ⟨some 96, some (91, false), [], .call 21 [(.t 95)]⟩,
  ⟨some 97, some (91, false), [], .ib .ge .u64 (.t 92) (.t 96)⟩,
  ⟨some 98, some (87, true), [], .pick (.t 91) (.k (.v (.bool true))) (.t 97)⟩,
  ⟨some 99, none, [], .pick (.t 87) (.t 98) (.k (.v (.bool false)))⟩,
  ⟨some 4, none, [], .mv (.t 99)⟩])
 .ret)))))))))))
theorem comp_5 : compF Try.prog Try.f5 = some (ic_5, [.t 4], 100) := by kernel_rfl
-- ros 5 [none, none] TYS [(.int .u64), (.int .u8)]

/-- tollbar/tollbarlaw01.OctetWindows -/
def ic_6 : IC := (.seq (.reg false [⟨some 6, none, [], .mv (.k (.v (.bool false)))⟩])
 (.seq (.reg false [⟨some 15, none, [], .call 7 []⟩,
  ⟨some 7, none, [], .mv (.t 15)⟩])
 (.seq (.seq (.reg false [⟨some 16, none, [], .mv (.t 7)⟩,
  ⟨some 17, none, [], .bnot (.t 16)⟩])
 (.cond (.t 17)
 (.seq (.reg false [⟨some 6, none, [], .mv (.k (.v (.bool false)))⟩])
 .ret)
 .skip))
 (.seq (.seq (.reg false [⟨some 18, none, [], .mv (.t 0)⟩,
  ⟨some 19, none, [], .len false (.t 18)⟩,
  ⟨some 20, none, [], .ib .gt .i64 (.t 19) (.k (.v (.int .i64 250)))⟩])
 (.cond (.t 20)
 (.seq (.reg false [⟨some 6, none, [], .mv (.k (.v (.bool true)))⟩])
 .ret)
 .skip))
 (.seq (.reg false [⟨some 21, none, [], .mv (.t 0)⟩,
  ⟨some 22, none, [], .call 8 [(.t 21)]⟩,
  ⟨some 8, none, [], .mv (.t 22)⟩])
 (.seq (.reg false [⟨some 23, none, [], .mv (.t 0)⟩,
  ⟨some 24, none, [], .call 8 [(.t 23)]⟩,
  ⟨some 9, none, [], .mv (.t 24)⟩])
 (.seq (.reg false [⟨some 25, none, [], .mv (.t 1)⟩,
  ⟨some 26, none, [], .ib .rem .u16 (.t 25) (.k (.v (.int .u16 256)))⟩,
  ⟨some 27, none, [], .conv .i64 (.t 26)⟩,
  ⟨some 28, none, [], .mv (.t 0)⟩,
  ⟨some 29, none, [], .len false (.t 28)⟩,
  ⟨some 30, none, [], .ib .add .i64 (.t 29) (.k (.v (.int .i64 1)))⟩,
  ⟨some 31, none, [], .ib .rem .i64 (.t 27) (.t 30)⟩,
  ⟨some 10, none, [], .mv (.t 31)⟩])
 (.seq (.reg false [⟨some 32, none, [], .mv (.t 1)⟩,
  ⟨some 33, none, [], .ib .quo .u16 (.t 32) (.k (.v (.int .u16 256)))⟩,
  ⟨some 34, none, [], .conv .i64 (.t 33)⟩,
  ⟨some 35, none, [], .mv (.t 0)⟩,
  ⟨some 36, none, [], .len false (.t 35)⟩,
  ⟨some 37, none, [], .mv (.t 10)⟩,
  ⟨some 38, none, [], .ib .sub .i64 (.t 36) (.t 37)⟩,
  ⟨some 39, none, [], .ib .add .i64 (.t 38) (.k (.v (.int .i64 1)))⟩,
  ⟨some 40, none, [], .ib .rem .i64 (.t 34) (.t 39)⟩,
  ⟨some 11, none, [], .mv (.t 40)⟩])
 (.seq (.reg false [⟨some 41, none, [], .mv (.t 8)⟩,
  ⟨some 42, none, [], .mv (.t 10)⟩,
  ⟨some 43, none, [], .call 12 [(.t 41), (.t 42)]⟩])
 (.seq (.reg false [⟨some 44, none, [], .mv (.t 9)⟩,
  ⟨some 45, none, [], .mv (.t 10)⟩,
  ⟨some 46, none, [], .call 12 [(.t 44), (.t 45)]⟩])
 (.seq (.reg false [⟨some 47, none, [], .mv (.t 8)⟩,
  ⟨some 48, none, [], .mv (.t 11)⟩,
  ⟨some 49, none, [], .call 14 [(.t 47), (.t 48)]⟩,
  ⟨some 12, none, [], .mv (.t 49)⟩])
 (.seq (.reg false [⟨some 50, none, [], .mv (.t 9)⟩,
  ⟨some 51, none, [], .mv (.t 11)⟩,
  ⟨some 52, none, [], .call 14 [(.t 50), (.t 51)]⟩,
  ⟨some 13, none, [], .mv (.t 52)⟩])
 (.seq (.seq (.reg false [⟨some 14, none, [], .mv (.k (.v (.int .i64 0)))⟩])
 (.block 0
 (.loop
 (.seq (.seq (.reg false [⟨some 53, none, [], .mv (.t 14)⟩,
  ⟨some 54, none, [], .mv (.t 2)⟩,
  ⟨some 55, none, [], .conv .i64 (.t 54)⟩,
  ⟨some 56, none, [], .ib .lt .i64 (.t 53) (.t 55)⟩])
 (.cond (.t 56)
 .skip
 (.exit 0)))
 (.seq (.block 1
 (.reg false [⟨some 59, none, [], .mv (.t 12)⟩,
  ⟨some 60, none, [], .call 9 [(.t 59)]⟩]))
 (.reg false [⟨some 57, none, [], .mv (.t 14)⟩,
  ⟨some 58, none, [], .ib .add .i64 (.t 57) (.k (.v (.int .i64 1)))⟩,
  ⟨some 14, none, [], .mv (.t 58)⟩]))))))
 (.seq (.seq (.reg true [⟨some 61, none, [], .mv (.t 13)⟩,
  ⟨some 62, none, [], .mv (.t 11)⟩,
  ⟨some 63, none, [0, 1], .call 12 [(.t 61), (.t 62)]⟩,
  ⟨some 64, none, [2, 0, 1], .b2s (.t 63)⟩,
  ⟨some 65, none, [], .mv (.t 0)⟩,
  ⟨some 66, none, [], .mv (.t 10)⟩,
  ⟨some 67, none, [], .mv (.t 10)⟩,
  ⟨some 68, none, [], .mv (.t 11)⟩,
  ⟨some 69, none, [6, 7], .ib .add .i64 (.t 67) (.t 68)⟩,
  ⟨some 70, none, [4, 5, 8, 6, 7], .sls (.t 65) (some (.t 66)) (some (.t 69)) 1⟩,
  ⟨some 71, none, [9, 4, 5, 8, 6, 7], .b2s (.t 70)⟩,
  ⟨some 72, none, [3, 2, 0, 1, 10, 9, 4, 5, 8, 6, 7], .sb .ne (.t 64) (.t 71)⟩,
  ⟨some 73, none, [11, 3, 2, 0, 1, 10, 9, 4, 5, 8, 6, 7], .mv (.t 72)⟩,
  ⟨some 74, some (73, false), [12, 11, 3, 2, 0, 1, 10, 9, 4, 5, 8, 6, 7], .mv (.t 13)⟩,
  ⟨some 75, some (73, false), [13, 12, 11, 3, 2, 0, 1, 10, 9, 4, 5, 8, 6, 7], .call 18 [(.t 74)]⟩,
  ⟨some 76, some (73, false), [14, 13, 12, 11, 3, 2, 0, 1, 10, 9, 4, 5, 8, 6, 7], .ib .ne .i64 (.t 75) (.k (.v (.int .i64 0)))⟩,
  ⟨some 77, none, [12, 11, 3, 2, 0, 1, 10, 9, 4, 5, 8, 6, 7, 15, 14, 13], .pick (.t 73) (.k (.v (.bool true))) (.t 76)⟩,
  ⟨some 78, none, [16, 12, 11, 3, 2, 0, 1, 10, 9, 4, 5, 8, 6, 7, 15, 14, 13], .mv (.t 77)⟩,
  ⟨some 79, some (78, false), [17, 16, 12, 11, 3, 2, 0, 1, 10, 9, 4, 5, 8, 6, 7, 15, 14, 13], .mv (.t 12)⟩,
  ⟨some 80, some (78, false), [18, 17, 16, 12, 11, 3, 2, 0, 1, 10, 9, 4, 5, 8, 6, 7, 15, 14, 13], .call 16 [(.t 79)]⟩,
  ⟨some 81, some (78, false), [17, 16, 12, 11, 3, 2, 0, 1, 10, 9, 4, 5, 8, 6, 7, 15, 14, 13], .mv (.t 11)⟩,
  ⟨some 82, some (78, false), [17, 16, 12, 11, 3, 2, 0, 1, 10, 9, 4, 5, 8, 6, 7, 15, 14, 13], .mv (.t 2)⟩,
  ⟨some 83, some (78, false), [21, 17, 16, 12, 11, 3, 2, 0, 1, 10, 9, 4, 5, 8, 6, 7, 15, 14, 13], .conv .i64 (.t 82)⟩,
  ⟨some 84, some (78, false), [20, 17, 16, 12, 11, 3, 2, 0, 1, 10, 9, 4, 5, 8, 6, 7, 15, 14, 13, 22, 21], .ib .sub .i64 (.t 81) (.t 83)⟩,
  ⟨some 85, some (78, false), [23, 20, 17, 16, 12, 11, 3, 2, 0, 1, 10, 9, 4, 5, 8, 6, 7, 15, 14, 13, 22, 21], .mx (.t 84) (.k (.v (.int .i64 0)))⟩,
  ⟨some 86, some (78, false), [19, 18, 17, 16, 12, 11, 3, 2, 0, 1, 10, 9, 4, 5, 8, 6, 7, 15, 14, 13, 24, 23, 20, 22, 21], .ib .ne .i64 (.t 80) (.t 85)⟩,
  ⟨some 87, none, [17, 16, 12, 11, 3, 2, 0, 1, 10, 9, 4, 5, 8, 6, 7, 15, 14, 13, 25, 19, 18, 24, 23, 20, 22, 21], .pick (.t 78) (.k (.v (.bool true))) (.t 86)⟩])
 (.cond (.t 87)
 (.seq (.reg false [⟨some 6, none, [], .mv (.k (.v (.bool false)))⟩])
 .ret)
 .skip))
 (.seq (.reg true [⟨some 88, none, [], .mv (.t 8)⟩,
  ⟨some 89, none, [], .mv (.t 0)⟩,
  ⟨some 90, none, [1], .len false (.t 89)⟩,
  ⟨some 91, none, [], .mv (.t 10)⟩,
  ⟨some 92, none, [2, 1, 3], .ib .sub .i64 (.t 90) (.t 91)⟩,
  ⟨some 93, none, [], .mv (.t 11)⟩,
  ⟨some 94, none, [4, 2, 1, 3, 5], .ib .sub .i64 (.t 92) (.t 93)⟩,
  ⟨some 95, none, [0, 6, 4, 2, 1, 3, 5], .call 12 [(.t 88), (.t 94)]⟩,
  ⟨some 96, none, [7, 0, 6, 4, 2, 1, 3, 5], .b2s (.t 95)⟩,
  ⟨some 97, none, [], .mv (.t 0)⟩,
  ⟨some 98, none, [], .mv (.t 10)⟩,
  ⟨some 99, none, [], .mv (.t 11)⟩,
  ⟨some 100, none, [10, 11], .ib .add .i64 (.t 98) (.t 99)⟩,
  ⟨some 101, none, [9, 12, 10, 11], .sls (.t 97) (some (.t 100)) none 1⟩,
  ⟨some 102, none, [13, 9, 12, 10, 11], .b2s (.t 101)⟩,
  ⟨some 103, none, [8, 7, 0, 6, 4, 2, 1, 3, 5, 14, 13, 9, 12, 10, 11], .sb .eq (.t 96) (.t 102)⟩,
  ⟨some 104, none, [15, 8, 7, 0, 6, 4, 2, 1, 3, 5, 14, 13, 9, 12, 10, 11], .mv (.t 103)⟩,
  ⟨some 105, some (104, true), [16, 15, 8, 7, 0, 6, 4, 2, 1, 3, 5, 14, 13, 9, 12, 10, 11], .mv (.t 8)⟩,
  ⟨some 106, some (104, true), [17, 16, 15, 8, 7, 0, 6, 4, 2, 1, 3, 5, 14, 13, 9, 12, 10, 11], .call 18 [(.t 105)]⟩,
  ⟨some 107, some (104, true), [18, 17, 16, 15, 8, 7, 0, 6, 4, 2, 1, 3, 5, 14, 13, 9, 12, 10, 11], .ib .eq .i64 (.t 106) (.k (.v (.int .i64 0)))⟩,
  ⟨some 108, none, [16, 15, 8, 7, 0, 6, 4, 2, 1, 3, 5, 14, 13, 9, 12, 10, 11, 19, 18, 17], .pick (.t 104) (.t 107) (.k (.v (.bool false)))⟩,
  ⟨some 109, none, [20, 16, 15, 8, 7, 0, 6, 4, 2, 1, 3, 5, 14, 13, 9, 12, 10, 11, 19, 18, 17], .mv (.t 108)⟩,
  ⟨some 110, some (109, true), [21, 20, 16, 15, 8, 7, 0, 6, 4, 2, 1, 3, 5, 14, 13, 9, 12, 10, 11, 19, 18, 17], .mv (.t 12)⟩,
  ⟨some 111, some (109, true), [22, 21, 20, 16, 15, 8, 7, 0, 6, 4, 2, 1, 3, 5, 14, 13, 9, 12, 10, 11, 19, 18, 17], .call 17 [(.t 110)]⟩,
  ⟨some 112, some (109, true), [23, 22, 21, 20, 16, 15, 8, 7, 0, 6, 4, 2, 1, 3, 5, 14, 13, 9, 12, 10, 11, 19, 18, 17], .ib .eq .i64 (.t 111) (.k (.v (.int .i64 0)))⟩,
  ⟨some 113, some (109, true), [21, 20, 16, 15, 8, 7, 0, 6, 4, 2, 1, 3, 5, 14, 13, 9, 12, 10, 11, 19, 18, 17], .mv (.t 2)⟩,
  ⟨some 114, some (109, true), [25, 21, 20, 16, 15, 8, 7, 0, 6, 4, 2, 1, 3, 5, 14, 13, 9, 12, 10, 11, 19, 18, 17], .conv .i64 (.t 113)⟩,
  ⟨some 115, some (109, true), [21, 20, 16, 15, 8, 7, 0, 6, 4, 2, 1, 3, 5, 14, 13, 9, 12, 10, 11, 19, 18, 17], .mv (.t 11)⟩,
  ⟨some 116, some (109, true), [26, 25, 21, 20, 16, 15, 8, 7, 0, 6, 4, 2, 1, 3, 5, 14, 13, 9, 12, 10, 11, 19, 18, 17, 27], .ib .le .i64 (.t 114) (.t 115)⟩,
  ⟨some 117, some (109, true), [24, 23, 22, 21, 20, 16, 15, 8, 7, 0, 6, 4, 2, 1, 3, 5, 14, 13, 9, 12, 10, 11, 19, 18, 17, 28, 26, 25, 27], .bb false (.t 112) (.t 116)⟩,
  ⟨some 118, none, [21, 20, 16, 15, 8, 7, 0, 6, 4, 2, 1, 3, 5, 14, 13, 9, 12, 10, 11, 19, 18, 17, 29, 24, 23, 22, 28, 26, 25, 27], .pick (.t 109) (.t 117) (.k (.v (.bool false)))⟩,
  ⟨some 6, none, [30, 21, 20, 16, 15, 8, 7, 0, 6, 4, 2, 1, 3, 5, 14, 13, 9, 12, 10, 11, 19, 18, 17, 29, 24, 23, 22, 28, 26, 25, 27], .mv (.t 118)⟩])
 .ret)))))))))))))))
theorem comp_6 : compF Try.prog Try.f6 = some (ic_6, [.t 6], 119) := by kernel_rfl
-- ros 6 [(some (.bs 5)), none, none] TYS [(.bytes 5), (.int .u16), (.int .u8)]

/-- tollbar/tollbarlaw01.awake -/
def ic_7 : IC := (.seq (.reg false [⟨some 0, none, [], .mv (.k (.v (.bool false)))⟩])
 (.seq (.reg false [⟨some 5, none, [], .bsl (.bs 5) 3 [(.v (.int .u8 0)), (.v (.int .u8 0)), (.v (.int .u8 0))] [(0, 1, (.k (.v (.int .u8 1)))), (1, 1, (.k (.v (.int .u8 2)))), (2, 1, (.k (.v (.int .u8 3))))]⟩,
  ⟨some 6, none, [], .call 8 [(.t 5)]⟩,
  ⟨some 1, none, [], .mv (.t 6)⟩])
 (.seq (.seq (.reg false [⟨some 7, none, [], .mv (.t 1)⟩,
  ⟨some 8, none, [], .isn 0 false (.t 7)⟩])
 (.cond (.t 8)
 (.seq (.reg false [⟨some 0, none, [], .mv (.k (.v (.bool false)))⟩])
 .ret)
 .skip))
 (.seq (.reg false [⟨some 9, none, [], .mv (.t 1)⟩,
  ⟨some 10, none, [], .call 14 [(.t 9), (.k (.v (.int .i64 2)))]⟩,
  ⟨some 2, none, [], .mv (.t 10)⟩])
 (.seq (.reg false [⟨some 12, none, [], .bsl (.bs 5) 2 [(.v (.int .u8 0)), (.v (.int .u8 0))] [(0, 1, (.k (.v (.int .u8 1)))), (1, 1, (.k (.v (.int .u8 0))))]⟩,
  ⟨some 13, none, [], .call 23 [(.t 12)]⟩,
  ⟨some 11, none, [], .mv (.t 13)⟩,
  ⟨some 14, none, [], .ext (.t 11) 0⟩,
  ⟨some 15, none, [], .ext (.t 11) 1⟩,
  ⟨some 3, none, [], .mv (.t 14)⟩,
  ⟨some 4, none, [], .mv (.t 15)⟩])
 (.seq (.reg false [⟨some 16, none, [], .call 22 [(.k (.v (.int .u64 256)))]⟩,
  ⟨some 17, none, [], .b2s (.t 16)⟩,
  ⟨some 18, none, [], .sb .eq (.t 17) (.k (.str [1, 0]))⟩,
  ⟨some 19, none, [], .mv (.t 18)⟩,
  ⟨some 20, some (19, true), [], .call 22 [(.k (.v (.int .u64 0)))]⟩,
  ⟨some 21, some (19, true), [], .len false (.t 20)⟩,
  ⟨some 22, some (19, true), [], .ib .eq .i64 (.t 21) (.k (.v (.int .i64 0)))⟩,
  ⟨some 23, none, [], .pick (.t 19) (.t 22) (.k (.v (.bool false)))⟩,
  ⟨some 24, none, [], .mv (.t 23)⟩,
  ⟨some 25, some (24, true), [], .call 20 [(.k (.v (.int .u64 5))), (.k (.v (.int .i64 2)))]⟩,
  ⟨some 26, some (24, true), [], .b2s (.t 25)⟩,
  ⟨some 27, some (24, true), [], .sb .eq (.t 26) (.k (.str [0, 5]))⟩,
  ⟨some 28, none, [], .pick (.t 24) (.t 27) (.k (.v (.bool false)))⟩,
  ⟨some 29, none, [], .mv (.t 28)⟩,
  ⟨some 30, some (29, true), [], .mv (.t 3)⟩,
  ⟨some 31, some (29, true), [], .ib .eq .u64 (.t 30) (.k (.v (.int .u64 256)))⟩,
  ⟨some 32, none, [], .pick (.t 29) (.t 31) (.k (.v (.bool false)))⟩,
  ⟨some 33, none, [], .mv (.t 32)⟩,
  ⟨some 34, some (33, true), [], .mv (.t 4)⟩,
  ⟨some 35, none, [], .pick (.t 33) (.t 34) (.k (.v (.bool false)))⟩,
  ⟨some 36, none, [], .mv (.t 35)⟩,
  ⟨some 37, some (36, true), [], .mv (.t 2)⟩,
  ⟨some 38, some (36, true), [], .call 11 [(.t 37), (.k (.v (.int .i64 2)))]⟩,
  ⟨some 39, some (36, true), [], .ib .eq .u64 (.t 38) (.k (.v (.int .u64 258)))⟩,
  ⟨some 40, none, [], .pick (.t 36) (.t 39) (.k (.v (.bool false)))⟩,
  ⟨some 41, none, [], .mv (.t 40)⟩,
  ⟨some 42, some (41, true), [], .mv (.t 1)⟩,
  ⟨some 43, some (41, true), [], .call 16 [(.t 42)]⟩,
  ⟨some 44, some (41, true), [], .ib .eq .i64 (.t 43) (.k (.v (.int .i64 1)))⟩,
  ⟨some 45, none, [], .pick (.t 41) (.t 44) (.k (.v (.bool false)))⟩,
  ⟨some 46, none, [], .mv (.t 45)⟩,
  ⟨some 47, some (46, true), [], .mv (.t 1)⟩,
  ⟨some 48, some (46, true), [], .call 18 [(.t 47)]⟩,
  ⟨some 49, some (46, true), [], .ib .eq .i64 (.t 48) (.k (.v (.int .i64 11)))⟩,
  ⟨some 50, none, [], .pick (.t 46) (.t 49) (.k (.v (.bool false)))⟩,
  ⟨some 51, none, [], .mv (.t 50)⟩,
  ⟨some 52, some (51, true), [], .mv (.t 1)⟩,
  ⟨some 53, some (51, true), [], .call 9 [(.t 52)]⟩,
  ⟨some 54, some (51, true), [], .ib .eq .u8 (.t 53) (.k (.v (.int .u8 3)))⟩,
  ⟨some 55, none, [], .pick (.t 51) (.t 54) (.k (.v (.bool false)))⟩,
  ⟨some 56, none, [], .mv (.t 55)⟩,
  ⟨some 57, some (56, true), [], .mv (.t 1)⟩,
  ⟨some 58, some (56, true), [], .call 18 [(.t 57)]⟩,
  ⟨some 59, some (56, true), [], .ib .eq .i64 (.t 58) (.k (.v (.int .i64 0)))⟩,
  ⟨some 60, none, [], .pick (.t 56) (.t 59) (.k (.v (.bool false)))⟩,
  ⟨some 61, none, [], .mv (.t 60)⟩,
  ⟨some 62, some (61, true), [], .mv (.t 1)⟩,
  ⟨some 63, some (61, true), [], .call 9 [(.t 62)]⟩,
  ⟨some 64, some (61, true), [], .ib .eq .u8 (.t 63) (.k (.v (.int .u8 0)))⟩,
  ⟨some 65, none, [], .pick (.t 61) (.t 64) (.k (.v (.bool false)))⟩,
  ⟨some 66, none, [], .mv (.t 65)⟩,
  ⟨some 67, some (66, true), [], .mv (.t 1)⟩,
  ⟨some 68, some (66, true), [], .call 17 [(.t 67)]⟩,
  ⟨some 69, some (66, true), [], .ib .eq .i64 (.t 68) (.k (.v (.int .i64 10)))⟩,
  ⟨some 70, none, [], .pick (.t 66) (.t 69) (.k (.v (.bool false)))⟩,
  ⟨some 0, none, [], .mv (.t 70)⟩])
 .ret))))))
theorem comp_7 : compF Try.prog Try.f7 = some (ic_7, [.t 0], 71) := by kernel_rfl
-- ros 7 [] TYS []

/-- tollbar/octet.Open -/
def ic_8 : IC := (.seq (.reg false [⟨some 2, none, [], .mv (.k (.v (.pointer none)))⟩])
 (.seq (.reg false [⟨some 3, none, [], .mv (.t 0)⟩,
  ⟨some 4, none, [], .call 24 [(.t 3)]⟩,
  ⟨some 5, none, [], .build [.nsl, (.v (.int .i64 0))] [(0, 1, (.t 4))]⟩,
  ⟨some 6, none, [], .box 54 2 (.t 5)⟩,
  ⟨some 2, none, [], .mv (.t 6)⟩])
 .ret))
theorem comp_8 : compF Try.prog Try.f8 = some (ic_8, [.t 2], 7) := by kernel_rfl
-- ros 8 [(some (.bs 5))] TYS [(.bytes 5)]

/-- (*tollbar/octet.Window).Byte -/
def ic_9 : IC := (.seq (.reg false [⟨some 2, none, [], .mv (.k (.v (.int .u8 0)))⟩])
 (.seq (.reg false [⟨some 3, none, [], .mv (.t 0)⟩,
  ⟨some 4, none, [], .call 11 [(.t 3), (.k (.v (.int .i64 1)))]⟩,
  ⟨some 5, none, [], .conv .u8 (.t 4)⟩,
  ⟨some 2, none, [], .mv (.t 5)⟩])
 .ret))
theorem comp_9 : compF Try.prog Try.f9 = some (ic_9, [.t 2], 6) := by kernel_rfl
-- ros 9 [none] TYS [none]

/-- (*tollbar/tollbarref01.W).Num -/
def ic_10 : IC := (.seq (.reg false [⟨some 4, none, [], .mv (.k (.v (.int .u64 0)))⟩])
 (.seq (.seq (.reg false [⟨some 7, none, [], .mv (.t 0)⟩,
  ⟨some 8, none, [], .chk (.t 7)⟩,
  ⟨some 9, none, [], .fld (.t 8) 1⟩,
  ⟨some 10, none, [], .ld (.t 9)⟩,
  ⟨some 11, none, [], .ib .eq .i64 (.t 10) (.k (.v (.int .i64 0)))⟩,
  ⟨some 12, none, [], .mv (.t 11)⟩,
  ⟨some 13, some (12, true), [], .mv (.t 1)⟩,
  ⟨some 14, some (12, true), [], .ib .lt .i64 (.t 13) (.k (.v (.int .i64 1)))⟩,
  ⟨some 15, some (12, true), [], .mv (.t 14)⟩,
  ⟨some 16, some (15, false), [], .mv (.t 1)⟩,
  ⟨some 17, some (15, false), [], .ib .gt .i64 (.t 16) (.k (.v (.int .i64 8)))⟩,
  ⟨some 18, some (12, true), [], .pick (.t 15) (.k (.v (.bool true))) (.t 17)⟩,
  ⟨some 19, none, [], .pick (.t 12) (.t 18) (.k (.v (.bool false)))⟩])
 (.cond (.t 19)
 (.reg false [⟨some 20, none, [], .mv (.t 0)⟩,
  ⟨some 21, none, [], .chk (.t 20)⟩,
  ⟨some 22, none, [], .fld (.t 21) 1⟩,
  ⟨none, none, [], .st (.t 22) (.k (.v (.int .i64 1))) 1⟩])
 .skip))
 (.seq (.seq (.reg false [⟨some 23, none, [], .mv (.t 0)⟩,
  ⟨some 24, none, [], .chk (.t 23)⟩,
  ⟨some 25, none, [], .fld (.t 24) 1⟩,
  ⟨some 26, none, [], .ld (.t 25)⟩,
  ⟨some 27, none, [], .ib .ne .i64 (.t 26) (.k (.v (.int .i64 0)))⟩])
 (.cond (.t 27)
 (.seq (.reg false [⟨some 4, none, [], .mv (.k (.v (.int .u64 0)))⟩])
 .ret)
 .skip))
 (.seq (.reg false [⟨some 29, none, [], .mv (.t 0)⟩,
  ⟨some 30, none, [], .mv (.t 1)⟩,
  ⟨some 31, none, [], .call 13 [(.t 29), (.t 30)]⟩,
  ⟨some 32, none, [], .call 25 [(.t 31)]⟩,
  ⟨some 28, none, [], .mv (.t 32)⟩,
  ⟨some 33, none, [], .ext (.t 28) 0⟩,
  ⟨some 34, none, [], .ext (.t 28) 1⟩,
  ⟨some 5, none, [], .mv (.t 33)⟩,
  ⟨some 6, none, [], .mv (.t 34)⟩])
 (.seq (.reg false [⟨some 35, none, [], .mv (.t 5)⟩,
  ⟨some 4, none, [], .mv (.t 35)⟩])
 .ret)))))
theorem comp_10 : compF Try.prog Try.f10 = some (ic_10, [.t 4], 36) := by kernel_rfl
-- ros 10 [none, none] TYS [none, (.int .i64)]

/-- (*tollbar/octet.Window).Num -/
def ic_11 : IC := (.seq (.reg false [⟨some 4, none, [], .mv (.k (.v (.int .u64 0)))⟩])
 (.seq (.seq (.reg false [⟨some 7, none, [], .mv (.t 0)⟩,
  ⟨some 8, none, [], .isn 0 false (.t 7)⟩])
 (.cond (.t 8)
 (.seq (.reg false [⟨some 4, none, [], .mv (.k (.v (.int .u64 0)))⟩])
 .ret)
 .skip))
 (.seq (.seq (.reg false [⟨some 9, none, [], .mv (.t 1)⟩,
  ⟨some 10, none, [], .ib .lt .i64 (.t 9) (.k (.v (.int .i64 1)))⟩,
  ⟨some 11, none, [], .mv (.t 10)⟩,
  ⟨some 12, some (11, false), [], .mv (.t 1)⟩,
  ⟨some 13, some (11, false), [], .ib .gt .i64 (.t 12) (.k (.v (.int .i64 8)))⟩,
  ⟨some 14, none, [], .pick (.t 11) (.k (.v (.bool true))) (.t 13)⟩])
 (.cond (.t 14)
 (.seq (.reg false [⟨some 15, none, [], .mv (.t 0)⟩,
  ⟨some 16, none, [], .call 26 [(.t 15), (.k (.v (.int .i64 1)))]⟩])
 (.seq (.reg false [⟨some 4, none, [], .mv (.k (.v (.int .u64 0)))⟩])
 .ret))
 .skip))
 (.seq (.reg false [⟨some 18, none, [], .mv (.t 0)⟩,
  ⟨some 19, none, [], .mv (.t 1)⟩,
  ⟨some 20, none, [], .call 12 [(.t 18), (.t 19)]⟩,
  ⟨some 21, none, [], .call 23 [(.t 20)]⟩,
  ⟨some 17, none, [], .mv (.t 21)⟩,
  ⟨some 22, none, [], .ext (.t 17) 0⟩,
  ⟨some 23, none, [], .ext (.t 17) 1⟩,
  ⟨some 5, none, [], .mv (.t 22)⟩,
  ⟨some 6, none, [], .mv (.t 23)⟩])
 (.seq (.reg false [⟨some 24, none, [], .mv (.t 5)⟩,
  ⟨some 4, none, [], .mv (.t 24)⟩])
 .ret)))))
theorem comp_11 : compF Try.prog Try.f11 = some (ic_11, [.t 4], 25) := by kernel_rfl
-- ros 11 [none, none] TYS [none, (.int .i64)]

/-- (*tollbar/octet.Window).Bytes -/
def ic_12 : IC := (.seq (.reg false [⟨some 4, none, [], .mv (.k .nsl)⟩])
 (.seq (.block 0
 (.seq (.reg false [⟨some 7, none, [], .mv (.t 0)⟩,
  ⟨some 8, none, [], .isn 0 false (.t 7)⟩,
  ⟨some 6, none, [], .mv (.t 8)⟩])
 (.cond (.t 6)
 (.seq (.reg false [⟨some 4, none, [], .mv (.k .nsl)⟩])
 .ret)
 (.seq (.reg false [⟨some 10, none, [], .mv (.t 1)⟩,
  ⟨some 11, none, [], .ib .lt .i64 (.t 10) (.k (.v (.int .i64 0)))⟩,
  ⟨some 9, none, [], .mv (.t 11)⟩])
 (.cond (.t 9)
 (.reg false [⟨some 12, none, [], .mv (.t 0)⟩,
  ⟨some 13, none, [], .call 26 [(.t 12), (.k (.v (.int .i64 1)))]⟩])
 (.seq (.reg false [⟨some 15, none, [], .mv (.t 1)⟩,
  ⟨some 16, none, [], .mv (.t 0)⟩,
  ⟨some 17, none, [], .chk (.t 16)⟩,
  ⟨some 18, none, [], .fld (.t 17) 0⟩,
  ⟨some 19, none, [], .ld (.t 18)⟩,
  ⟨some 20, none, [], .len false (.t 19)⟩,
  ⟨some 21, none, [], .ib .gt .i64 (.t 15) (.t 20)⟩,
  ⟨some 14, none, [], .mv (.t 21)⟩])
 (.cond (.t 14)
 (.reg false [⟨some 22, none, [], .mv (.t 0)⟩,
  ⟨some 23, none, [], .call 26 [(.t 22), (.k (.v (.int .i64 10)))]⟩])
 .skip)))))))
 (.seq (.seq (.reg false [⟨some 24, none, [], .mv (.t 0)⟩,
  ⟨some 25, none, [], .chk (.t 24)⟩,
  ⟨some 26, none, [], .fld (.t 25) 1⟩,
  ⟨some 27, none, [], .ld (.t 26)⟩,
  ⟨some 28, none, [], .ib .ne .i64 (.t 27) (.k (.v (.int .i64 0)))⟩])
 (.cond (.t 28)
 (.seq (.reg false [⟨some 4, none, [], .mv (.k .nsl)⟩])
 .ret)
 .skip))
 (.seq (.reg false [⟨some 29, none, [], .mv (.t 1)⟩,
  ⟨some 30, none, [], .mks (.bs 5) 1 (.t 29) (.t 29)⟩,
  ⟨some 5, none, [], .mv (.t 30)⟩])
 (.seq (.reg true [⟨some 31, none, [], .mv (.t 0)⟩,
  ⟨some 32, none, [], .mv (.t 0)⟩,
  ⟨some 33, none, [1], .chk (.t 32)⟩,
  ⟨some 34, none, [2, 1], .fld (.t 33) 0⟩,
  ⟨some 35, none, [3, 2, 1], .ld (.t 34)⟩,
  ⟨some 36, none, [], .mv (.t 5)⟩,
  ⟨some 37, none, [], .mv (.t 0)⟩,
  ⟨some 38, none, [6], .chk (.t 37)⟩,
  ⟨some 39, none, [7, 6], .fld (.t 38) 0⟩,
  ⟨some 40, none, [8, 7, 6], .ld (.t 39)⟩,
  ⟨some 41, none, [5, 9, 8, 7, 6], .copy (.t 36) (.t 40) 1⟩,
  ⟨some 42, none, [4, 3, 2, 1, 10, 5, 9, 8, 7, 6], .sls (.t 35) (some (.t 41)) none 1⟩,
  ⟨some 43, none, [0, 1, 2, 3, 4, 5, 6, 7, 8, 9, 10, 11], .chk (.t 31)⟩,
  ⟨some 44, none, [12, 0, 1, 2, 3, 4, 5, 6, 7, 8, 9, 10, 11], .fld (.t 43) 0⟩,
  ⟨none, none, [13, 12, 0, 1, 2, 3, 4, 5, 6, 7, 8, 9, 10, 11], .st (.t 44) (.t 42) 1⟩])
 (.seq (.reg false [⟨some 45, none, [], .mv (.t 5)⟩,
  ⟨some 4, none, [], .mv (.t 45)⟩])
 .ret))))))
theorem comp_12 : compF Try.prog Try.f12 = some (ic_12, [.t 4], 46) := by kernel_rfl
-- ros 12 [none, none] TYS [none, (.int .i64)]

/-- (*tollbar/tollbarref01.W).Bytes -/
def ic_13 : IC := (.seq (.reg false [⟨some 4, none, [], .mv (.k (.str []))⟩])
 (.seq (.seq (.reg false [⟨some 6, none, [], .mv (.t 0)⟩,
  ⟨some 7, none, [], .chk (.t 6)⟩,
  ⟨some 8, none, [], .fld (.t 7) 1⟩,
  ⟨some 9, none, [], .ld (.t 8)⟩,
  ⟨some 10, none, [], .ib .eq .i64 (.t 9) (.k (.v (.int .i64 0)))⟩,
  ⟨some 11, none, [], .mv (.t 10)⟩,
  ⟨some 12, some (11, true), [], .mv (.t 1)⟩,
  ⟨some 13, some (11, true), [], .ib .lt .i64 (.t 12) (.k (.v (.int .i64 0)))⟩,
  ⟨some 14, none, [], .pick (.t 11) (.t 13) (.k (.v (.bool false)))⟩])
 (.cond (.t 14)
 (.reg false [⟨some 15, none, [], .mv (.t 0)⟩,
  ⟨some 16, none, [], .chk (.t 15)⟩,
  ⟨some 17, none, [], .fld (.t 16) 1⟩,
  ⟨none, none, [], .st (.t 17) (.k (.v (.int .i64 1))) 1⟩])
 .skip))
 (.seq (.seq (.reg false [⟨some 18, none, [], .mv (.t 0)⟩,
  ⟨some 19, none, [], .chk (.t 18)⟩,
  ⟨some 20, none, [], .fld (.t 19) 1⟩,
  ⟨some 21, none, [], .ld (.t 20)⟩,
  ⟨some 22, none, [], .ib .eq .i64 (.t 21) (.k (.v (.int .i64 0)))⟩,
  ⟨some 23, none, [], .mv (.t 22)⟩,
  ⟨some 24, some (23, true), [], .mv (.t 1)⟩,
  ⟨some 25, some (23, true), [], .mv (.t 0)⟩,
  ⟨some 26, some (23, true), [], .chk (.t 25)⟩,
  ⟨some 27, some (23, true), [], .fld (.t 26) 0⟩,
  ⟨some 28, some (23, true), [], .ld (.t 27)⟩,
  ⟨some 29, some (23, true), [], .len true (.t 28)⟩,
  ⟨some 30, some (23, true), [], .ib .gt .i64 (.t 24) (.t 29)⟩,
  ⟨some 31, none, [], .pick (.t 23) (.t 30) (.k (.v (.bool false)))⟩])
 (.cond (.t 31)
 (.reg false [⟨some 32, none, [], .mv (.t 0)⟩,
  ⟨some 33, none, [], .chk (.t 32)⟩,
  ⟨some 34, none, [], .fld (.t 33) 1⟩,
  ⟨none, none, [], .st (.t 34) (.k (.v (.int .i64 10))) 1⟩])
 .skip))
 (.seq (.seq (.reg false [⟨some 35, none, [], .mv (.t 0)⟩,
  ⟨some 36, none, [], .chk (.t 35)⟩,
  ⟨some 37, none, [], .fld (.t 36) 1⟩,
  ⟨some 38, none, [], .ld (.t 37)⟩,
  ⟨some 39, none, [], .ib .ne .i64 (.t 38) (.k (.v (.int .i64 0)))⟩])
 (.cond (.t 39)
 (.seq (.reg false [⟨some 4, none, [], .mv (.k (.str []))⟩])
 .ret)
 .skip))
 (.seq (.reg false [⟨some 40, none, [], .mv (.t 0)⟩,
  ⟨some 41, none, [], .chk (.t 40)⟩,
  ⟨some 42, none, [], .fld (.t 41) 0⟩,
  ⟨some 43, none, [], .ld (.t 42)⟩,
  ⟨some 44, none, [], .mv (.t 1)⟩,
  ⟨some 45, none, [], .ssl (.t 43) none (some (.t 44))⟩,
  ⟨some 5, none, [], .mv (.t 45)⟩])
 (.seq (.reg false [⟨some 46, none, [], .mv (.t 0)⟩,
  ⟨some 47, none, [], .mv (.t 0)⟩,
  ⟨some 48, none, [], .chk (.t 47)⟩,
  ⟨some 49, none, [], .fld (.t 48) 0⟩,
  ⟨some 50, none, [], .ld (.t 49)⟩,
  ⟨some 51, none, [], .mv (.t 1)⟩,
  ⟨some 52, none, [], .ssl (.t 50) (some (.t 51)) none⟩,
  ⟨some 53, none, [], .chk (.t 46)⟩,
  ⟨some 54, none, [], .fld (.t 53) 0⟩,
  ⟨none, none, [], .st (.t 54) (.t 52) 1⟩])
 (.seq (.reg false [⟨some 55, none, [], .mv (.t 5)⟩,
  ⟨some 4, none, [], .mv (.t 55)⟩])
 .ret)))))))
theorem comp_13 : compF Try.prog Try.f13 = some (ic_13, [.t 4], 56) := by kernel_rfl
-- ros 13 [none, none] TYS [none, (.int .i64)]

/-- (*tollbar/octet.Window).Sub -/
def ic_14 : IC := (.seq (.reg false [⟨some 4, none, [], .mv (.k (.v (.pointer none)))⟩])
 (.seq (.reg false [⟨some 6, none, [], .mv (.t 0)⟩,
  ⟨some 7, none, [], .mv (.t 1)⟩,
  ⟨some 8, none, [], .call 12 [(.t 6), (.t 7)]⟩,
  ⟨some 5, none, [], .mv (.t 8)⟩])
 (.seq (.reg false [⟨some 9, none, [], .mv (.t 5)⟩,
  ⟨some 10, none, [], .mv (.t 0)⟩,
  ⟨some 11, none, [], .call 17 [(.t 10)]⟩,
  ⟨some 12, none, [], .build [.nsl, (.v (.int .i64 0))] [(0, 1, (.t 9)), (1, 1, (.t 11))]⟩,
  ⟨some 13, none, [], .box 54 2 (.t 12)⟩,
  ⟨some 4, none, [], .mv (.t 13)⟩])
 .ret)))
theorem comp_14 : compF Try.prog Try.f14 = some (ic_14, [.t 4], 14) := by kernel_rfl
-- ros 14 [none, none] TYS [none, (.int .i64)]

/-- (*tollbar/tollbarref01.W).Sub -/
def ic_15 : IC := (.seq (.reg false [⟨some 4, none, [], .mv (.k (.v (.pointer none)))⟩])
 (.seq (.reg false [⟨some 6, none, [], .mv (.t 0)⟩,
  ⟨some 7, none, [], .mv (.t 1)⟩,
  ⟨some 8, none, [], .call 13 [(.t 6), (.t 7)]⟩,
  ⟨some 5, none, [], .mv (.t 8)⟩])
 (.seq (.reg false [⟨some 9, none, [], .mv (.t 5)⟩,
  ⟨some 10, none, [], .mv (.t 0)⟩,
  ⟨some 11, none, [], .chk (.t 10)⟩,
  ⟨some 12, none, [], .fld (.t 11) 1⟩,
  ⟨some 13, none, [], .ld (.t 12)⟩,
  ⟨some 14, none, [], .build [(.str []), (.v (.int .i64 0))] [(0, 1, (.t 9)), (1, 1, (.t 13))]⟩,
  ⟨some 15, none, [], .box 30 2 (.t 14)⟩,
  ⟨some 4, none, [], .mv (.t 15)⟩])
 .ret)))
theorem comp_15 : compF Try.prog Try.f15 = some (ic_15, [.t 4], 16) := by kernel_rfl
-- ros 15 [none, none] TYS [none, (.int .i64)]

/-- (*tollbar/octet.Window).Left -/
def ic_16 : IC := (.seq (.reg false [⟨some 2, none, [], .mv (.k (.v (.int .i64 0)))⟩])
 (.seq (.seq (.reg false [⟨some 3, none, [], .mv (.t 0)⟩,
  ⟨some 4, none, [], .isn 0 false (.t 3)⟩])
 (.cond (.t 4)
 (.seq (.reg false [⟨some 2, none, [], .mv (.k (.v (.int .i64 0)))⟩])
 .ret)
 .skip))
 (.seq (.reg false [⟨some 5, none, [], .mv (.t 0)⟩,
  ⟨some 6, none, [], .chk (.t 5)⟩,
  ⟨some 7, none, [], .fld (.t 6) 0⟩,
  ⟨some 8, none, [], .ld (.t 7)⟩,
  ⟨some 9, none, [], .len false (.t 8)⟩,
  ⟨some 2, none, [], .mv (.t 9)⟩])
 .ret)))
theorem comp_16 : compF Try.prog Try.f16 = some (ic_16, [.t 2], 10) := by kernel_rfl
-- ros 16 [none] TYS [none]

/-- (*tollbar/octet.Window).Err -/
def ic_17 : IC := (.seq (.reg false [⟨some 2, none, [], .mv (.k (.v (.int .i64 0)))⟩])
 (.seq (.seq (.reg false [⟨some 3, none, [], .mv (.t 0)⟩,
  ⟨some 4, none, [], .isn 0 false (.t 3)⟩])
 (.cond (.t 4)
 (.seq (.reg false [⟨some 2, none, [], .mv (.k (.v (.int .i64 1)))⟩])
 .ret)
 .skip))
 (.seq (.reg false [⟨some 5, none, [], .mv (.t 0)⟩,
  ⟨some 6, none, [], .chk (.t 5)⟩,
  ⟨some 7, none, [], .fld (.t 6) 1⟩,
  ⟨some 8, none, [], .ld (.t 7)⟩,
  ⟨some 2, none, [], .mv (.t 8)⟩])
 .ret)))
theorem comp_17 : compF Try.prog Try.f17 = some (ic_17, [.t 2], 9) := by kernel_rfl
-- ros 17 [none] TYS [none]

/-- (*tollbar/octet.Window).End -/
def ic_18 : IC := (.seq (.reg false [⟨some 2, none, [], .mv (.k (.v (.int .i64 0)))⟩])
 (.seq (.seq (.reg false [⟨some 4, none, [], .mv (.t 0)⟩,
  ⟨some 5, none, [], .call 17 [(.t 4)]⟩,
  ⟨some 3, none, [], .mv (.t 5)⟩])
 (.seq (.reg false [⟨some 6, none, [], .mv (.t 3)⟩,
  ⟨some 7, none, [], .ib .ne .i64 (.t 6) (.k (.v (.int .i64 0)))⟩,
  ⟨some 8, none, [], .mv (.t 7)⟩,
  ⟨some 9, some (8, false), [], .mv (.t 0)⟩,
  ⟨some 10, some (8, false), [], .chk (.t 9)⟩,
  ⟨some 11, some (8, false), [], .fld (.t 10) 0⟩,
  ⟨some 12, some (8, false), [], .ld (.t 11)⟩,
  ⟨some 13, some (8, false), [], .len false (.t 12)⟩,
  ⟨some 14, some (8, false), [], .ib .eq .i64 (.t 13) (.k (.v (.int .i64 0)))⟩,
  ⟨some 15, none, [], .pick (.t 8) (.k (.v (.bool true))) (.t 14)⟩])
 (.cond (.t 15)
 (.seq (.reg false [⟨some 16, none, [], .mv (.t 3)⟩,
  ⟨some 2, none, [], .mv (.t 16)⟩])
 .ret)
 .skip)))
 (.seq (.reg false [⟨some 2, none, [], .mv (.k (.v (.int .i64 11)))⟩])
 .ret)))
theorem comp_18 : compF Try.prog Try.f18 = some (ic_18, [.t 2], 17) := by kernel_rfl
-- ros 18 [none] TYS [none]

/-- (*tollbar/tollbarref01.W).End -/
def ic_19 : IC := (.seq (.reg false [⟨some 2, none, [], .mv (.k (.v (.int .i64 0)))⟩])
 (.seq (.seq (.reg false [⟨some 3, none, [], .mv (.t 0)⟩,
  ⟨some 4, none, [], .chk (.t 3)⟩,
  ⟨some 5, none, [], .fld (.t 4) 1⟩,
  ⟨some 6, none, [], .ld (.t 5)⟩,
  ⟨some 7, none, [], .ib .eq .i64 (.t 6) (.k (.v (.int .i64 0)))⟩,
  ⟨some 8, none, [], .mv (.t 7)⟩,
  ⟨some 9, some (8, true), [], .mv (.t 0)⟩,
  ⟨some 10, some (8, true), [], .chk (.t 9)⟩,
  ⟨some 11, some (8, true), [], .fld (.t 10) 0⟩,
  ⟨some 12, some (8, true), [], .ld (.t 11)⟩,
  ⟨some 13, some (8, true), [], .sb .ne (.t 12) (.k (.str []))⟩,
  ⟨some 14, none, [], .pick (.t 8) (.t 13) (.k (.v (.bool false)))⟩])
 (.cond (.t 14)
 (.seq (.reg false [⟨some 2, none, [], .mv (.k (.v (.int .i64 11)))⟩])
 .ret)
 .skip))
 (.seq (.reg false [⟨some 15, none, [], .mv (.t 0)⟩,
  ⟨some 16, none, [], .chk (.t 15)⟩,
  ⟨some 17, none, [], .fld (.t 16) 1⟩,
  ⟨some 18, none, [], .ld (.t 17)⟩,
  ⟨some 2, none, [], .mv (.t 18)⟩])
 .ret)))
theorem comp_19 : compF Try.prog Try.f19 = some (ic_19, [.t 2], 19) := by kernel_rfl
-- ros 19 [none] TYS [none]

/-- tollbar/octet.Big -/
def ic_20 : IC := (.seq (.reg false [⟨some 4, none, [], .mv (.k .nsl)⟩])
 (.seq (.reg false [⟨some 5, none, [], .mv (.k .nsl)⟩])
 (.seq (.seq (.reg false [⟨some 7, none, [], .mv (.t 1)⟩,
  ⟨some 8, none, [], .ib .lt .i64 (.t 7) (.k (.v (.int .i64 1)))⟩,
  ⟨some 9, none, [], .mv (.t 8)⟩,
  ⟨some 10, some (9, false), [], .mv (.t 1)⟩,
  ⟨some 11, some (9, false), [], .ib .gt .i64 (.t 10) (.k (.v (.int .i64 8)))⟩,
  ⟨some 12, none, [], .pick (.t 9) (.k (.v (.bool true))) (.t 11)⟩])
 (.cond (.t 12)
 (.seq (.reg false [⟨some 4, none, [], .mv (.k .nsl)⟩])
 .ret)
 .skip))
 (.seq (.seq (.reg false [⟨some 13, none, [], .mv (.t 1)⟩,
  ⟨some 14, none, [], .ib .sub .i64 (.t 13) (.k (.v (.int .i64 1)))⟩,
  ⟨some 6, none, [], .mv (.t 14)⟩])
 (.block 0
 (.loop
 (.seq (.seq (.reg false [⟨some 15, none, [], .mv (.t 6)⟩,
  ⟨some 16, none, [], .ib .ge .i64 (.t 15) (.k (.v (.int .i64 0)))⟩])
 (.cond (.t 16)
 .skip
 (.exit 0)))
 (.seq (.block 1
 (.reg false [⟨some 19, none, [], .mv (.t 5)⟩,
  ⟨some 20, none, [], .mv (.t 0)⟩,
  ⟨some 21, none, [], .mv (.t 6)⟩,
  ⟨some 22, none, [], .ib .mul .i64 (.k (.v (.int .i64 8))) (.t 21)⟩,
  ⟨some 23, none, [], .sh false .u64 (.t 20) (.t 22)⟩,
  ⟨some 24, none, [], .conv .u8 (.t 23)⟩,
  ⟨some 25, none, [], .bsl (.bs 5) 1 [(.v (.int .u8 0))] [(0, 1, (.t 24))]⟩,
  ⟨some 26, none, [], .app (.bs 5) 1 (.t 19) (.t 25)⟩,
  ⟨some 5, none, [], .mv (.t 26)⟩]))
 (.reg false [⟨some 17, none, [], .mv (.t 6)⟩,
  ⟨some 18, none, [], .ib .sub .i64 (.t 17) (.k (.v (.int .i64 1)))⟩,
  ⟨some 6, none, [], .mv (.t 18)⟩]))))))
 (.seq (.reg false [⟨some 27, none, [], .mv (.t 5)⟩,
  ⟨some 4, none, [], .mv (.t 27)⟩])
 .ret)))))
theorem comp_20 : compF Try.prog Try.f20 = some (ic_20, [.t 4], 28) := by kernel_rfl
-- ros 20 [none, none] TYS [(.int .u64), (.int .i64)]

/-- tollbar/tollbarlaw01.power -/
def ic_21 : IC := (.seq (.reg false [⟨some 2, none, [], .mv (.k (.v (.int .u64 0)))⟩])
 (.seq (.reg false [⟨some 3, none, [], .mv (.k (.v (.int .u64 1)))⟩])
 (.seq (.seq (.reg false [⟨some 4, none, [], .mv (.k (.v (.int .i64 0)))⟩])
 (.block 0
 (.loop
 (.seq (.seq (.reg false [⟨some 5, none, [], .mv (.t 4)⟩,
  ⟨some 6, none, [], .mv (.t 0)⟩,
  ⟨some 7, none, [], .ib .lt .i64 (.t 5) (.t 6)⟩])
 (.cond (.t 7)
 .skip
 (.exit 0)))
 (.seq (.block 1
 (.reg false [⟨some 10, none, [], .mv (.t 3)⟩,
  ⟨some 11, none, [], .ib .mul .u64 (.t 10) (.k (.v (.int .u64 256)))⟩,
  ⟨some 3, none, [], .mv (.t 11)⟩]))
 (.reg false [⟨some 8, none, [], .mv (.t 4)⟩,
  ⟨some 9, none, [], .ib .add .i64 (.t 8) (.k (.v (.int .i64 1)))⟩,
  ⟨some 4, none, [], .mv (.t 9)⟩]))))))
 (.seq (.reg false [⟨some 12, none, [], .mv (.t 3)⟩,
  ⟨some 2, none, [], .mv (.t 12)⟩])
 .ret))))
theorem comp_21 : compF Try.prog Try.f21 = some (ic_21, [.t 2], 13) := by kernel_rfl
-- ros 21 [none] TYS [(.int .i64)]

/-- tollbar/octet.Least -/
def ic_22 : IC := (.seq (.reg false [⟨some 2, none, [], .mv (.k .nsl)⟩])
 (.seq (.reg false [⟨some 3, none, [], .mv (.k (.v (.int .i64 0)))⟩])
 (.seq (.seq (.reg false [⟨some 5, none, [], .mv (.t 0)⟩,
  ⟨some 4, none, [], .mv (.t 5)⟩])
 (.block 0
 (.loop
 (.seq (.seq (.reg false [⟨some 6, none, [], .mv (.t 4)⟩,
  ⟨some 7, none, [], .ib .gt .u64 (.t 6) (.k (.v (.int .u64 0)))⟩])
 (.cond (.t 7)
 .skip
 (.exit 0)))
 (.seq (.block 1
 (.reg false [⟨some 10, none, [], .mv (.t 3)⟩,
  ⟨some 11, none, [], .ib .add .i64 (.t 10) (.k (.v (.int .i64 1)))⟩,
  ⟨some 3, none, [], .mv (.t 11)⟩]))
 (.reg false [⟨some 8, none, [], .mv (.t 4)⟩,
  ⟨some 9, none, [], .sh false .u64 (.t 8) (.k (.v (.int .u64 8)))⟩,
  ⟨some 4, none, [], .mv (.t 9)⟩]))))))
 (.seq (.reg false [⟨some 12, none, [], .mv (.t 0)⟩,
  ⟨some 13, none, [], .mv (.t 3)⟩,
  ⟨some 14, none, [], .call 20 [(.t 12), (.t 13)]⟩,
  ⟨some 2, none, [], .mv (.t 14)⟩])
 .ret))))
theorem comp_22 : compF Try.prog Try.f22 = some (ic_22, [.t 2], 15) := by kernel_rfl
-- ros 22 [none] TYS [(.int .u64)]

/-- tollbar/octet.Value -/
def ic_23 : IC := (.seq (.reg false [⟨some 2, none, [], .mv (.k (.v (.int .u64 0)))⟩,
  ⟨some 3, none, [], .mv (.k (.v (.bool false)))⟩])
 (.seq (.reg false [⟨some 4, none, [], .mv (.k (.v (.int .u64 0)))⟩])
 (.seq (.seq (.reg false [⟨some 7, none, [], .mv (.t 0)⟩,
  ⟨some 8, none, [], .len false (.t 7)⟩,
  ⟨some 9, none, [], .mv (.k (.v (.int .i64 0)))⟩])
 (.block 0
 (.loop
 (.seq (.reg false [⟨some 10, none, [], .ib .lt .i64 (.t 9) (.t 8)⟩])
 (.seq (.cond (.t 10)
 .skip
 (.exit 0))
 (.seq (.block 1
 (.seq (.reg false [⟨some 11, none, [], .idx (.t 7) (.t 9) 1⟩,
  ⟨some 12, none, [], .ld (.t 11)⟩,
  ⟨some 6, none, [], .mv (.t 12)⟩])
 (.seq (.seq (.reg false [⟨some 13, none, [], .mv (.t 4)⟩,
  ⟨some 14, none, [], .sh false .u64 (.t 13) (.k (.v (.int .u64 56)))⟩,
  ⟨some 15, none, [], .ib .gt .u64 (.t 14) (.k (.v (.int .u64 0)))⟩])
 (.cond (.t 15)
 (.seq (.reg false [⟨some 2, none, [], .mv (.k (.v (.int .u64 0)))⟩,
  ⟨some 3, none, [], .mv (.k (.v (.bool false)))⟩])
 .ret)
 .skip))
 (.reg false [⟨some 16, none, [], .mv (.t 4)⟩,
  ⟨some 17, none, [], .sh true .u64 (.t 16) (.k (.v (.int .u64 8)))⟩,
  ⟨some 18, none, [], .mv (.t 6)⟩,
  ⟨some 19, none, [], .conv .u64 (.t 18)⟩,
  ⟨some 20, none, [], .ib .or .u64 (.t 17) (.t 19)⟩,
  ⟨some 4, none, [], .mv (.t 20)⟩]))))
 (.reg false [⟨some 21, none, [], .ib .add .i64 (.t 9) (.k (.v (.int .i64 1)))⟩,
  ⟨some 9, none, [], .mv (.t 21)⟩])))))))
 (.seq (.reg false [⟨some 22, none, [], .mv (.t 4)⟩,
  ⟨some 2, none, [], .mv (.t 22)⟩,
  ⟨some 3, none, [], .mv (.k (.v (.bool true)))⟩])
 .ret))))
theorem comp_23 : compF Try.prog Try.f23 = some (ic_23, [.t 2, .t 3], 23) := by kernel_rfl
-- ros 23 [(some (.bs 5))] TYS [(.bytes 5)]

/-- slices.Clone[[]byte,byte] -/
def ic_24 : IC := (.seq (.reg false [⟨some 2, none, [], .mv (.k .nsl)⟩])
 (.seq (.seq (.reg false [⟨some 3, none, [], .mv (.t 0)⟩,
  ⟨some 4, none, [], .isn 1 false (.t 3)⟩])
 (.cond (.t 4)
 (.seq (.reg false [⟨some 2, none, [], .mv (.k .nsl)⟩])
 .ret)
 .skip))
 (.seq (.reg false [⟨some 5, none, [], .bsl (.bs 5) 0 [] []⟩,
  ⟨some 6, none, [], .mv (.t 0)⟩,
  ⟨some 7, none, [], .app (.bs 5) 1 (.t 5) (.t 6)⟩,
  ⟨some 2, none, [], .mv (.t 7)⟩])
 .ret)))
theorem comp_24 : compF Try.prog Try.f24 = some (ic_24, [.t 2], 8) := by kernel_rfl
-- ros 24 [(some (.bs 5))] TYS [(.bytes 5)]

/-- tollbar/tollbarref01.Value -/
def ic_25 : IC := (.seq (.reg false [⟨some 2, none, [], .mv (.k (.v (.int .u64 0)))⟩,
  ⟨some 3, none, [], .mv (.k (.v (.bool false)))⟩])
 (.seq (.block 0
 (.loop
 (.seq (.seq (.reg false [⟨some 6, none, [], .mv (.t 0)⟩,
  ⟨some 7, none, [], .sb .ne (.t 6) (.k (.str []))⟩,
  ⟨some 8, none, [], .mv (.t 7)⟩,
  ⟨some 9, some (8, true), [], .mv (.t 0)⟩,
  ⟨some 10, some (8, true), [], .sidx (.t 9) (.k (.v (.int .i64 0)))⟩,
  ⟨some 11, some (8, true), [], .ib .eq .u8 (.t 10) (.k (.v (.int .u8 0)))⟩,
  ⟨some 12, none, [], .pick (.t 8) (.t 11) (.k (.v (.bool false)))⟩])
 (.cond (.t 12)
 .skip
 (.exit 0)))
 (.block 1
 (.reg false [⟨some 13, none, [], .mv (.t 0)⟩,
  ⟨some 14, none, [], .ssl (.t 13) (some (.k (.v (.int .i64 1)))) none⟩,
  ⟨some 0, none, [], .mv (.t 14)⟩])))))
 (.seq (.seq (.reg false [⟨some 15, none, [], .mv (.t 0)⟩,
  ⟨some 16, none, [], .len true (.t 15)⟩,
  ⟨some 17, none, [], .ib .gt .i64 (.t 16) (.k (.v (.int .i64 8)))⟩])
 (.cond (.t 17)
 (.seq (.reg false [⟨some 2, none, [], .mv (.k (.v (.int .u64 0)))⟩,
  ⟨some 3, none, [], .mv (.k (.v (.bool false)))⟩])
 .ret)
 .skip))
 (.seq (.reg false [⟨some 4, none, [], .mv (.k (.v (.int .u64 0)))⟩])
 (.seq (.seq (.reg false [⟨some 5, none, [], .mv (.k (.v (.int .i64 0)))⟩])
 (.block 2
 (.loop
 (.seq (.seq (.reg false [⟨some 18, none, [], .mv (.t 5)⟩,
  ⟨some 19, none, [], .mv (.t 0)⟩,
  ⟨some 20, none, [], .len true (.t 19)⟩,
  ⟨some 21, none, [], .ib .lt .i64 (.t 18) (.t 20)⟩])
 (.cond (.t 21)
 .skip
 (.exit 2)))
 (.seq (.block 3
 (.reg false [⟨some 24, none, [], .mv (.t 4)⟩,
  ⟨some 25, none, [], .ib .mul .u64 (.k (.v (.int .u64 256))) (.t 24)⟩,
  ⟨some 26, none, [], .mv (.t 0)⟩,
  ⟨some 27, none, [], .mv (.t 5)⟩,
  ⟨some 28, none, [], .sidx (.t 26) (.t 27)⟩,
  ⟨some 29, none, [], .conv .u64 (.t 28)⟩,
  ⟨some 30, none, [], .ib .add .u64 (.t 25) (.t 29)⟩,
  ⟨some 4, none, [], .mv (.t 30)⟩]))
 (.reg false [⟨some 22, none, [], .mv (.t 5)⟩,
  ⟨some 23, none, [], .ib .add .i64 (.t 22) (.k (.v (.int .i64 1)))⟩,
  ⟨some 5, none, [], .mv (.t 23)⟩]))))))
 (.seq (.reg false [⟨some 31, none, [], .mv (.t 4)⟩,
  ⟨some 2, none, [], .mv (.t 31)⟩,
  ⟨some 3, none, [], .mv (.k (.v (.bool true)))⟩])
 .ret))))))
theorem comp_25 : compF Try.prog Try.f25 = some (ic_25, [.t 2, .t 3], 32) := by kernel_rfl
-- ros 25 [none] TYS [.str]

/-- (*tollbar/octet.Window).fail -/
def ic_26 : IC := (.seq (.reg false [⟨some 4, none, [], .mv (.t 0)⟩,
  ⟨some 5, none, [], .chk (.t 4)⟩,
  ⟨some 6, none, [], .fld (.t 5) 1⟩,
  ⟨some 7, none, [], .ld (.t 6)⟩,
  ⟨some 8, none, [], .ib .eq .i64 (.t 7) (.k (.v (.int .i64 0)))⟩])
 (.cond (.t 8)
 (.reg false [⟨some 9, none, [], .mv (.t 0)⟩,
  ⟨some 10, none, [], .mv (.t 1)⟩,
  ⟨some 11, none, [], .chk (.t 9)⟩,
  ⟨some 12, none, [], .fld (.t 11) 1⟩,
  ⟨none, none, [], .st (.t 12) (.t 10) 1⟩])
 .skip))
theorem comp_26 : compF Try.prog Try.f26 = some (ic_26, [], 13) := by kernel_rfl
-- ros 26 [none, none] TYS [none, (.int .i64)]

end Go.Proofs.Ytolfegaldhhmkaa
end
section
/-
  The walk of slices.Clone[[]byte,byte] (printed by a program of ours).
-/
set_option linter.unusedVariables false
set_option linter.unusedSimpArgs false
namespace Go.Proofs.Ytolfegaldhhmkaa
open Go.RowKit

noncomputable def tab_slices_Clone : Nat → Option Con := look []
set_option maxRecDepth 100000 in
theorem vc_slices_Clone (P : Program) (T : Tab P tab_slices_Clone) (hm : P.follows .mixedOrders = true) : FnVC P tab_slices_Clone ic_24 [.t 2] 8 con_slices_Clone := by
  intro cargs ccks ce hce hob C hk
  apply Hidden.out
  replace hce : con_slices_Clone_1 cargs ccks = some ce := hce
  · unfold con_slices_Clone_1 at hce
    split at hce
    rotate_left
    · cases hce
    obtain rfl := Option.some.inj hce
    rename_i s1
    have hb1 := hob _ (List.mem_singleton.2 rfl)
    have hb2 := obl.1 hb1
    clear hb1 hob hce
    refine hb2.elim fun r hF => ?_
    clear hb2
    simp only [List.length_cons, List.length_nil, Nat.zero_add, Nat.reduceAdd] at hk
    have hr : cloneB s1 = some r := by rw [lock_eq] at hF; exact hF
    unfold cloneB at hr
    obtain ⟨g, hr⟩ := guard_inv hr
    obtain rfl := Option.some.inj hr
    constructor
    cbv
    intro b hb
    cases b with
    | true =>
      have hb : lock (@xlen UInt8) s1 = 0 := hb rfl
      simp only [lock_eq, xlen] at hb
      have e : s1 = [] := List.length_eq_zero_iff.1 hb
      refine ⟨_, hF, ?_⟩
      cbv
      exact e
    | false =>
      cbv
      refine ⟨obl.2 (by simp only [R.len, lock_eq, choice_lk, xlen, List.length_nil]; simp only [xlen] at g; simp at g ⊢; omega), ?_⟩
      refine ⟨_, hF, ?_⟩
      cbv
      simp only [choice_lk]
      rfl
end Go.Proofs.Ytolfegaldhhmkaa
end
section
/-
  The walk of tollbar/octet.Open (printed by a program of ours).
-/
set_option linter.unusedVariables false
set_option linter.unusedSimpArgs false
namespace Go.Proofs.Ytolfegaldhhmkaa
open Go.RowKit

noncomputable def tab_octet_Open : Nat → Option Con := look [(24, con_slices_Clone)]
set_option maxHeartbeats 4000000 in
set_option maxRecDepth 100000 in
theorem vc_octet_Open (P : Program) (T : Tab P tab_octet_Open) (hm : P.follows .mixedOrders = true) : FnVC P tab_octet_Open ic_8 [.t 2] 7 con_octet_Open := by
  intro cargs ccks ce hce hob C hk
  apply Hidden.out
  replace hce : con_octet_Open_1 cargs ccks = some ce := hce
  · unfold con_octet_Open_1 at hce
    split at hce
    rotate_left
    · cases hce
    obtain rfl := Option.some.inj hce
    rename_i s1
    have hb1 := hob _ (List.mem_singleton.2 rfl)
    have hb2 := obl.1 hb1
    clear hb1 hob hce
    refine hb2.elim fun r hF => ?_
    clear hb2
    simp only [List.length_cons, List.length_nil, Nat.zero_add, Nat.reduceAdd] at hk
    have hr : F_octet_Open s1 = some r := by rw [lock_eq] at hF; exact hF
    unfold F_octet_Open at hr
    constructor
    (try cbv)
    have hqe : ∃ qq, cloneB s1 = some qq := by
      cases hq : cloneB s1 with
      | none => rw [hq] at hr; cases hr
      | some qq => exact ⟨qq, rfl⟩
    refine ⟨obl.2 (by simp only [choice_lk, lock_eq]; exact hqe), (by rintro (_) _ <;> cbv), ?_⟩
    clear hqe
    intro t1 hx1
    apply Hidden.out
    simp only [choice_lk, lock_eq] at hx1
    all_goals (rw [hx1] at hr; dsimp only at hr; constructor; (try cbv))
    apply Hidden.out
    have e := Option.some.inj hr
    constructor
    refine ⟨_, hF, ?_⟩
    (try cbv); (try simp only [choice_lk, lock_eq, and_self, and_true, true_and]); (try first | exact e | exact e.symm | (and_intros <;> first | assumption | rfl | exact Eq.symm (by assumption)))
end Go.Proofs.Ytolfegaldhhmkaa
end
section
/-
  The walk of (*tollbar/octet.Window).fail (printed by a program of ours).
-/
set_option linter.unusedVariables false
set_option linter.unusedSimpArgs false
namespace Go.Proofs.Ytolfegaldhhmkaa
open Go.RowKit

noncomputable def tab_octet_Window_fail : Nat → Option Con := look []
set_option maxHeartbeats 4000000 in
set_option maxRecDepth 100000 in
theorem vc_octet_Window_fail (P : Program) (T : Tab P tab_octet_Window_fail) (hm : P.follows .mixedOrders = true) : FnVC P tab_octet_Window_fail ic_26 [] 13 con_octet_Window_fail := by
  intro cargs ccks ce hce hob C hk
  apply Hidden.out
  replace hce : altC (con_octet_Window_fail_1 cargs ccks) (con_octet_Window_fail_2 cargs ccks) = some ce := hce
  replace hce := altC_inv hce
  rcases hce with hce | hce
  · unfold con_octet_Window_fail_1 at hce
    split at hce
    rotate_left
    · cases hce
    obtain rfl := Option.some.inj hce
    rename_i x1 x2 s1
    have hb1 := hob _ (List.mem_singleton.2 rfl)
    have hb2 := obl.1 hb1
    clear hb1 hob hce
    refine hb2.elim fun r hF => ?_
    clear hb2
    simp only [List.length_cons, List.length_nil, Nat.zero_add, Nat.reduceAdd] at hk
    have hr : F_octet_Window_fail x1 x2 s1 = some r := by rw [lock_eq] at hF; exact hF
    unfold F_octet_Window_fail at hr
    constructor
    (try cbv)
    refine sel_intro (fun h => ?_) (fun h => ?_)
    · have h1 : (ieq x2 (0 : Int)) = true := by first | exact h | (have h2 := h; simp only [choice_lk, lock_eq] at h2; exact h2) | (simp only [choice_lk, lock_eq] at h; exact h)
      rw [if_pos h1] at hr
      (try cbv)
      apply Hidden.out
      have e := Option.some.inj hr
      constructor
      refine ⟨_, hF, ?_⟩
      (try cbv); (try simp only [choice_lk, lock_eq, and_self, and_true, true_and]); (try first | exact e | exact e.symm | (and_intros <;> first | assumption | rfl | exact Eq.symm (by assumption)))
    · have h1 : (ieq x2 (0 : Int)) = false := by first | exact h | (have h2 := h; simp only [choice_lk, lock_eq] at h2; exact h2) | (simp only [choice_lk, lock_eq] at h; exact h)
      rw [if_neg (by rw [h1]; exact Bool.false_ne_true)] at hr
      (try cbv)
      apply Hidden.out
      have e := Option.some.inj hr
      constructor
      refine ⟨_, hF, ?_⟩
      (try cbv); (try simp only [choice_lk, lock_eq, and_self, and_true, true_and]); (try first | exact e | exact e.symm | (and_intros <;> first | assumption | rfl | exact Eq.symm (by assumption)))
  · unfold con_octet_Window_fail_2 at hce
    split at hce
    rotate_left
    · cases hce
    obtain rfl := Option.some.inj hce
    rename_i x1 n1 n2 x2 s1
    have hb1 := hob _ (List.mem_singleton.2 rfl)
    have hb2 := obl.1 hb1
    clear hb1 hob hce
    refine hb2.elim fun r hF => ?_
    clear hb2
    simp only [List.length_cons, List.length_nil, Nat.zero_add, Nat.reduceAdd] at hk
    have hr : F_octet_Window_fail_2 x1 n1 n2 x2 s1 = some r := by rw [lock_eq] at hF; exact hF
    unfold F_octet_Window_fail_2 at hr
    constructor
    (try cbv)
    refine sel_intro (fun h => ?_) (fun h => ?_)
    · have h1 : (ieq x2 (0 : Int)) = true := by first | exact h | (have h2 := h; simp only [choice_lk, lock_eq] at h2; exact h2) | (simp only [choice_lk, lock_eq] at h; exact h)
      rw [if_pos h1] at hr
      (try cbv)
      apply Hidden.out
      have e := Option.some.inj hr
      constructor
      refine ⟨_, hF, ?_⟩
      (try cbv); (try simp only [choice_lk, lock_eq, and_self, and_true, true_and]); (try first | exact e | exact e.symm | (and_intros <;> first | assumption | rfl | exact Eq.symm (by assumption)))
    · have h1 : (ieq x2 (0 : Int)) = false := by first | exact h | (have h2 := h; simp only [choice_lk, lock_eq] at h2; exact h2) | (simp only [choice_lk, lock_eq] at h; exact h)
      rw [if_neg (by rw [h1]; exact Bool.false_ne_true)] at hr
      (try cbv)
      apply Hidden.out
      have e := Option.some.inj hr
      constructor
      refine ⟨_, hF, ?_⟩
      (try cbv); (try simp only [choice_lk, lock_eq, and_self, and_true, true_and]); (try first | exact e | exact e.symm | (and_intros <;> first | assumption | rfl | exact Eq.symm (by assumption)))
end Go.Proofs.Ytolfegaldhhmkaa
end
section
/-
  The walk of (*tollbar/octet.Window).Bytes (printed by a program of ours).
-/
set_option linter.unusedVariables false
set_option linter.unusedSimpArgs false
namespace Go.Proofs.Ytolfegaldhhmkaa
open Go.RowKit

noncomputable def tab_octet_Window_Bytes : Nat → Option Con := look [(26, con_octet_Window_fail)]
set_option maxHeartbeats 4000000 in
set_option maxRecDepth 100000 in
theorem vc_octet_Window_Bytes (P : Program) (T : Tab P tab_octet_Window_Bytes) (hm : P.follows .mixedOrders = true) : FnVC P tab_octet_Window_Bytes ic_12 [.t 4] 46 con_octet_Window_Bytes := by
  intro cargs ccks ce hce hob C hk
  apply Hidden.out
  replace hce : altC (con_octet_Window_Bytes_1 cargs ccks) (altC (con_octet_Window_Bytes_2 cargs ccks) (con_octet_Window_Bytes_3 cargs ccks)) = some ce := hce
  replace hce := altC_inv hce
  rcases hce with hce | hce
  · unfold con_octet_Window_Bytes_1 at hce
    split at hce
    rotate_left
    · cases hce
    obtain rfl := Option.some.inj hce
    rename_i x1 x2 s1
    have hb1 := hob _ (List.mem_singleton.2 rfl)
    have hb2 := obl.1 hb1
    clear hb1 hob hce
    refine hb2.elim fun r hF => ?_
    clear hb2
    simp only [List.length_cons, List.length_nil, Nat.zero_add, Nat.reduceAdd] at hk
    have hr : F_octet_Window_Bytes x1 x2 s1 = some r := by rw [lock_eq] at hF; exact hF
    unfold F_octet_Window_Bytes at hr
    constructor
    (try cbv)
    refine sel_intro (fun h => ?_) (fun h => ?_)
    · have h1 : (ilt x1 (0 : Int)) = true := by first | exact h | (have h2 := h; simp only [choice_lk, lock_eq] at h2; exact h2) | (simp only [choice_lk, lock_eq] at h; exact h)
      rw [if_pos h1] at hr
      (try cbv)
      have hqe : ∃ qq, F_octet_Window_fail (1 : Int) x2 s1 = some qq := by
        cases hq : F_octet_Window_fail (1 : Int) x2 s1 with
        | none => rw [hq] at hr; cases hr
        | some qq => exact ⟨qq, rfl⟩
      refine ⟨obl.2 (by simp only [choice_lk, lock_eq]; exact hqe), (by rintro (_) _ <;> cbv), ?_⟩
      clear hqe
      intro y1 hx1
      apply Hidden.out
      simp only [choice_lk, lock_eq] at hx1
      all_goals (rw [hx1] at hr; dsimp only at hr; constructor; (try cbv))
      refine sel_intro (fun h => ?_) (fun h => ?_)
      · have h1 : (ieq y1 (0 : Int)) = false := by first | exact (bnot_t.1 h) | (have h2 := (bnot_t.1 h); simp only [choice_lk, lock_eq] at h2; exact h2) | (simp only [choice_lk, lock_eq] at h; exact (bnot_t.1 h))
        rw [if_neg (by rw [h1]; exact Bool.false_ne_true)] at hr
        (try cbv)
        apply Hidden.out
        have e := Option.some.inj hr
        obtain ⟨u0, u1, u2, u3⟩ := r
        simp only [Prod.mk.injEq] at e
        obtain ⟨e0, e1, e2, e3⟩ := e
        constructor
        refine ⟨_, hF, ?_⟩
        (try cbv); (try simp only [choice_lk, lock_eq, and_self, and_true, true_and]); (try first | exact e | exact e.symm | (and_intros <;> first | assumption | rfl | exact Eq.symm (by assumption)))
      · have h1 : (ieq y1 (0 : Int)) = true := by first | exact (bnot_f.1 h) | (have h2 := (bnot_f.1 h); simp only [choice_lk, lock_eq] at h2; exact h2) | (simp only [choice_lk, lock_eq] at h; exact (bnot_f.1 h))
        rw [if_pos h1] at hr
        (try cbv)
        have gg := guard_inv hr
        have g := gg.1
        replace hr := gg.2
        clear gg
        refine ⟨obl.2 (by first | (simp only [choice_lk, lock_eq, R.len, R.sub]; exact g) | exact g), ?_⟩
        have gg := guard_inv hr
        have g := gg.1
        replace hr := gg.2
        clear gg
        refine ⟨obl.2 (by first | (simp only [choice_lk, lock_eq, R.len, R.sub]; exact g) | exact g), ?_⟩
        apply Hidden.out
        have e := Option.some.inj hr
        obtain ⟨u0, u1, u2, u3⟩ := r
        simp only [Prod.mk.injEq] at e
        obtain ⟨e0, e1, e2, e3⟩ := e
        constructor
        refine ⟨_, hF, ?_⟩
        (try cbv); (try simp only [choice_lk, lock_eq, and_self, and_true, true_and]); (try first | exact e | exact e.symm | (and_intros <;> first | assumption | rfl | exact Eq.symm (by assumption)))
    · have h1 : (ilt x1 (0 : Int)) = false := by first | exact h | (have h2 := h; simp only [choice_lk, lock_eq] at h2; exact h2) | (simp only [choice_lk, lock_eq] at h; exact h)
      rw [if_neg (by rw [h1]; exact Bool.false_ne_true)] at hr
      (try cbv)
      refine sel_intro (fun h => ?_) (fun h => ?_)
      · have h1 : (ilt (ofN (xlen s1)) x1) = true := by first | exact h | (have h2 := h; simp only [choice_lk, lock_eq] at h2; exact h2) | (simp only [choice_lk, lock_eq] at h; exact h)
        rw [if_pos h1] at hr
        (try cbv)
        have hqe : ∃ qq, F_octet_Window_fail (10 : Int) x2 s1 = some qq := by
          cases hq : F_octet_Window_fail (10 : Int) x2 s1 with
          | none => rw [hq] at hr; cases hr
          | some qq => exact ⟨qq, rfl⟩
        refine ⟨obl.2 (by simp only [choice_lk, lock_eq]; exact hqe), (by rintro (_) _ <;> cbv), ?_⟩
        clear hqe
        intro y2 hx2
        apply Hidden.out
        simp only [choice_lk, lock_eq] at hx2
        all_goals (rw [hx2] at hr; dsimp only at hr; constructor; (try cbv))
        refine sel_intro (fun h => ?_) (fun h => ?_)
        · have h1 : (ieq y2 (0 : Int)) = false := by first | exact (bnot_t.1 h) | (have h2 := (bnot_t.1 h); simp only [choice_lk, lock_eq] at h2; exact h2) | (simp only [choice_lk, lock_eq] at h; exact (bnot_t.1 h))
          rw [if_neg (by rw [h1]; exact Bool.false_ne_true)] at hr
          (try cbv)
          apply Hidden.out
          have e := Option.some.inj hr
          obtain ⟨u0, u1, u2, u3⟩ := r
          simp only [Prod.mk.injEq] at e
          obtain ⟨e0, e1, e2, e3⟩ := e
          constructor
          refine ⟨_, hF, ?_⟩
          (try cbv); (try simp only [choice_lk, lock_eq, and_self, and_true, true_and]); (try first | exact e | exact e.symm | (and_intros <;> first | assumption | rfl | exact Eq.symm (by assumption)))
        · have h1 : (ieq y2 (0 : Int)) = true := by first | exact (bnot_f.1 h) | (have h2 := (bnot_f.1 h); simp only [choice_lk, lock_eq] at h2; exact h2) | (simp only [choice_lk, lock_eq] at h; exact (bnot_f.1 h))
          rw [if_pos h1] at hr
          (try cbv)
          have gg := guard_inv hr
          have g := gg.1
          replace hr := gg.2
          clear gg
          refine ⟨obl.2 (by first | (simp only [choice_lk, lock_eq, R.len, R.sub]; exact g) | exact g), ?_⟩
          have gg := guard_inv hr
          have g := gg.1
          replace hr := gg.2
          clear gg
          refine ⟨obl.2 (by first | (simp only [choice_lk, lock_eq, R.len, R.sub]; exact g) | exact g), ?_⟩
          apply Hidden.out
          have e := Option.some.inj hr
          obtain ⟨u0, u1, u2, u3⟩ := r
          simp only [Prod.mk.injEq] at e
          obtain ⟨e0, e1, e2, e3⟩ := e
          constructor
          refine ⟨_, hF, ?_⟩
          (try cbv); (try simp only [choice_lk, lock_eq, and_self, and_true, true_and]); (try first | exact e | exact e.symm | (and_intros <;> first | assumption | rfl | exact Eq.symm (by assumption)))
      · have h1 : (ilt (ofN (xlen s1)) x1) = false := by first | exact h | (have h2 := h; simp only [choice_lk, lock_eq] at h2; exact h2) | (simp only [choice_lk, lock_eq] at h; exact h)
        rw [if_neg (by rw [h1]; exact Bool.false_ne_true)] at hr
        (try cbv)
        refine sel_intro (fun h => ?_) (fun h => ?_)
        · have h1 : (ieq x2 (0 : Int)) = false := by first | exact (bnot_t.1 h) | (have h2 := (bnot_t.1 h); simp only [choice_lk, lock_eq] at h2; exact h2) | (simp only [choice_lk, lock_eq] at h; exact (bnot_t.1 h))
          rw [if_neg (by rw [h1]; exact Bool.false_ne_true)] at hr
          (try cbv)
          apply Hidden.out
          have e := Option.some.inj hr
          obtain ⟨u0, u1, u2, u3⟩ := r
          simp only [Prod.mk.injEq] at e
          obtain ⟨e0, e1, e2, e3⟩ := e
          constructor
          refine ⟨_, hF, ?_⟩
          (try cbv); (try simp only [choice_lk, lock_eq, and_self, and_true, true_and]); (try first | exact e | exact e.symm | (and_intros <;> first | assumption | rfl | exact Eq.symm (by assumption)))
        · have h1 : (ieq x2 (0 : Int)) = true := by first | exact (bnot_f.1 h) | (have h2 := (bnot_f.1 h); simp only [choice_lk, lock_eq] at h2; exact h2) | (simp only [choice_lk, lock_eq] at h; exact (bnot_f.1 h))
          rw [if_pos h1] at hr
          (try cbv)
          have gg := guard_inv hr
          have g := gg.1
          replace hr := gg.2
          clear gg
          refine ⟨obl.2 (by first | (simp only [choice_lk, lock_eq, R.len, R.sub]; exact g) | exact g), ?_⟩
          have gg := guard_inv hr
          have g := gg.1
          replace hr := gg.2
          clear gg
          refine ⟨obl.2 (by first | (simp only [choice_lk, lock_eq, R.len, R.sub]; exact g) | exact g), ?_⟩
          apply Hidden.out
          have e := Option.some.inj hr
          obtain ⟨u0, u1, u2, u3⟩ := r
          simp only [Prod.mk.injEq] at e
          obtain ⟨e0, e1, e2, e3⟩ := e
          constructor
          refine ⟨_, hF, ?_⟩
          (try cbv); (try simp only [choice_lk, lock_eq, and_self, and_true, true_and]); (try first | exact e | exact e.symm | (and_intros <;> first | assumption | rfl | exact Eq.symm (by assumption)))
  replace hce := altC_inv hce
  rcases hce with hce | hce
  · unfold con_octet_Window_Bytes_2 at hce
    split at hce
    rotate_left
    · cases hce
    obtain rfl := Option.some.inj hce
    rename_i x1 n1 n2 x2 s1
    have hb1 := hob _ (List.mem_singleton.2 rfl)
    have hb2 := obl.1 hb1
    clear hb1 hob hce
    refine hb2.elim fun r hF => ?_
    clear hb2
    simp only [List.length_cons, List.length_nil, Nat.zero_add, Nat.reduceAdd] at hk
    have hr : F_octet_Window_Bytes_2 x1 n1 n2 x2 s1 = some r := by rw [lock_eq] at hF; exact hF
    unfold F_octet_Window_Bytes_2 at hr
    constructor
    (try cbv)
    refine sel_intro (fun h => ?_) (fun h => ?_)
    · have h1 : (ilt x1 (0 : Int)) = true := by first | exact h | (have h2 := h; simp only [choice_lk, lock_eq] at h2; exact h2) | (simp only [choice_lk, lock_eq] at h; exact h)
      rw [if_pos h1] at hr
      (try cbv)
      have hqe : ∃ qq, F_octet_Window_fail_2 (1 : Int) n1 n2 x2 s1 = some qq := by
        cases hq : F_octet_Window_fail_2 (1 : Int) n1 n2 x2 s1 with
        | none => rw [hq] at hr; cases hr
        | some qq => exact ⟨qq, rfl⟩
      refine ⟨obl.2 (by simp only [choice_lk, lock_eq]; exact hqe), (by rintro (_) _ <;> cbv), ?_⟩
      clear hqe
      intro y1 hx1
      apply Hidden.out
      simp only [choice_lk, lock_eq] at hx1
      all_goals (rw [hx1] at hr; dsimp only at hr; constructor; (try cbv))
      refine sel_intro (fun h => ?_) (fun h => ?_)
      · have h1 : (ieq y1 (0 : Int)) = false := by first | exact (bnot_t.1 h) | (have h2 := (bnot_t.1 h); simp only [choice_lk, lock_eq] at h2; exact h2) | (simp only [choice_lk, lock_eq] at h; exact (bnot_t.1 h))
        rw [if_neg (by rw [h1]; exact Bool.false_ne_true)] at hr
        (try cbv)
        apply Hidden.out
        have e := Option.some.inj hr
        obtain ⟨u0, u1, u2, u3⟩ := r
        simp only [Prod.mk.injEq] at e
        obtain ⟨e0, e1, e2, e3⟩ := e
        constructor
        refine ⟨_, hF, ?_⟩
        (try cbv); (try simp only [choice_lk, lock_eq, and_self, and_true, true_and]); (try first | exact e | exact e.symm | (and_intros <;> first | assumption | rfl | exact Eq.symm (by assumption)))
      · have h1 : (ieq y1 (0 : Int)) = true := by first | exact (bnot_f.1 h) | (have h2 := (bnot_f.1 h); simp only [choice_lk, lock_eq] at h2; exact h2) | (simp only [choice_lk, lock_eq] at h; exact (bnot_f.1 h))
        rw [if_pos h1] at hr
        (try cbv)
        have gg := guard_inv hr
        have g := gg.1
        replace hr := gg.2
        clear gg
        refine ⟨obl.2 (by first | (simp only [choice_lk, lock_eq, R.len, R.sub]; exact g) | exact g), ?_⟩
        have gg := guard_inv hr
        have g := gg.1
        replace hr := gg.2
        clear gg
        refine ⟨obl.2 (by first | (simp only [choice_lk, lock_eq, R.len, R.sub]; exact g) | exact g), ?_⟩
        apply Hidden.out
        have e := Option.some.inj hr
        obtain ⟨u0, u1, u2, u3⟩ := r
        simp only [Prod.mk.injEq] at e
        obtain ⟨e0, e1, e2, e3⟩ := e
        constructor
        refine ⟨_, hF, ?_⟩
        (try cbv); (try simp only [choice_lk, lock_eq, and_self, and_true, true_and]); (try first | exact e | exact e.symm | (and_intros <;> first | assumption | rfl | exact Eq.symm (by assumption)))
    · have h1 : (ilt x1 (0 : Int)) = false := by first | exact h | (have h2 := h; simp only [choice_lk, lock_eq] at h2; exact h2) | (simp only [choice_lk, lock_eq] at h; exact h)
      rw [if_neg (by rw [h1]; exact Bool.false_ne_true)] at hr
      (try cbv)
      refine sel_intro (fun h => ?_) (fun h => ?_)
      · have h1 : (ilt (ofN n2) x1) = true := by first | exact h | (have h2 := h; simp only [choice_lk, lock_eq] at h2; exact h2) | (simp only [choice_lk, lock_eq] at h; exact h)
        rw [if_pos h1] at hr
        (try cbv)
        have hqe : ∃ qq, F_octet_Window_fail_2 (10 : Int) n1 n2 x2 s1 = some qq := by
          cases hq : F_octet_Window_fail_2 (10 : Int) n1 n2 x2 s1 with
          | none => rw [hq] at hr; cases hr
          | some qq => exact ⟨qq, rfl⟩
        refine ⟨obl.2 (by simp only [choice_lk, lock_eq]; exact hqe), (by rintro (_) _ <;> cbv), ?_⟩
        clear hqe
        intro y2 hx2
        apply Hidden.out
        simp only [choice_lk, lock_eq] at hx2
        all_goals (rw [hx2] at hr; dsimp only at hr; constructor; (try cbv))
        refine sel_intro (fun h => ?_) (fun h => ?_)
        · have h1 : (ieq y2 (0 : Int)) = false := by first | exact (bnot_t.1 h) | (have h2 := (bnot_t.1 h); simp only [choice_lk, lock_eq] at h2; exact h2) | (simp only [choice_lk, lock_eq] at h; exact (bnot_t.1 h))
          rw [if_neg (by rw [h1]; exact Bool.false_ne_true)] at hr
          (try cbv)
          apply Hidden.out
          have e := Option.some.inj hr
          obtain ⟨u0, u1, u2, u3⟩ := r
          simp only [Prod.mk.injEq] at e
          obtain ⟨e0, e1, e2, e3⟩ := e
          constructor
          refine ⟨_, hF, ?_⟩
          (try cbv); (try simp only [choice_lk, lock_eq, and_self, and_true, true_and]); (try first | exact e | exact e.symm | (and_intros <;> first | assumption | rfl | exact Eq.symm (by assumption)))
        · have h1 : (ieq y2 (0 : Int)) = true := by first | exact (bnot_f.1 h) | (have h2 := (bnot_f.1 h); simp only [choice_lk, lock_eq] at h2; exact h2) | (simp only [choice_lk, lock_eq] at h; exact (bnot_f.1 h))
          rw [if_pos h1] at hr
          (try cbv)
          have gg := guard_inv hr
          have g := gg.1
          replace hr := gg.2
          clear gg
          refine ⟨obl.2 (by first | (simp only [choice_lk, lock_eq, R.len, R.sub]; exact g) | exact g), ?_⟩
          have gg := guard_inv hr
          have g := gg.1
          replace hr := gg.2
          clear gg
          refine ⟨obl.2 (by first | (simp only [choice_lk, lock_eq, R.len, R.sub]; exact g) | exact g), ?_⟩
          apply Hidden.out
          have e := Option.some.inj hr
          obtain ⟨u0, u1, u2, u3⟩ := r
          simp only [Prod.mk.injEq] at e
          obtain ⟨e0, e1, e2, e3⟩ := e
          constructor
          refine ⟨_, hF, ?_⟩
          (try cbv); (try simp only [choice_lk, lock_eq, and_self, and_true, true_and]); (try first | exact e | exact e.symm | (and_intros <;> first | assumption | rfl | exact Eq.symm (by assumption)))
      · have h1 : (ilt (ofN n2) x1) = false := by first | exact h | (have h2 := h; simp only [choice_lk, lock_eq] at h2; exact h2) | (simp only [choice_lk, lock_eq] at h; exact h)
        rw [if_neg (by rw [h1]; exact Bool.false_ne_true)] at hr
        (try cbv)
        refine sel_intro (fun h => ?_) (fun h => ?_)
        · have h1 : (ieq x2 (0 : Int)) = false := by first | exact (bnot_t.1 h) | (have h2 := (bnot_t.1 h); simp only [choice_lk, lock_eq] at h2; exact h2) | (simp only [choice_lk, lock_eq] at h; exact (bnot_t.1 h))
          rw [if_neg (by rw [h1]; exact Bool.false_ne_true)] at hr
          (try cbv)
          apply Hidden.out
          have e := Option.some.inj hr
          obtain ⟨u0, u1, u2, u3⟩ := r
          simp only [Prod.mk.injEq] at e
          obtain ⟨e0, e1, e2, e3⟩ := e
          constructor
          refine ⟨_, hF, ?_⟩
          (try cbv); (try simp only [choice_lk, lock_eq, and_self, and_true, true_and]); (try first | exact e | exact e.symm | (and_intros <;> first | assumption | rfl | exact Eq.symm (by assumption)))
        · have h1 : (ieq x2 (0 : Int)) = true := by first | exact (bnot_f.1 h) | (have h2 := (bnot_f.1 h); simp only [choice_lk, lock_eq] at h2; exact h2) | (simp only [choice_lk, lock_eq] at h; exact (bnot_f.1 h))
          rw [if_pos h1] at hr
          (try cbv)
          have gg := guard_inv hr
          have g := gg.1
          replace hr := gg.2
          clear gg
          refine ⟨obl.2 (by first | (simp only [choice_lk, lock_eq, R.len, R.sub]; exact g) | exact g), ?_⟩
          have gg := guard_inv hr
          have g := gg.1
          replace hr := gg.2
          clear gg
          refine ⟨obl.2 (by first | (simp only [choice_lk, lock_eq, R.len, R.sub]; exact g) | exact g), ?_⟩
          apply Hidden.out
          have e := Option.some.inj hr
          obtain ⟨u0, u1, u2, u3⟩ := r
          simp only [Prod.mk.injEq] at e
          obtain ⟨e0, e1, e2, e3⟩ := e
          constructor
          refine ⟨_, hF, ?_⟩
          (try cbv); (try simp only [choice_lk, lock_eq, and_self, and_true, true_and]); (try first | exact e | exact e.symm | (and_intros <;> first | assumption | rfl | exact Eq.symm (by assumption)))
  · unfold con_octet_Window_Bytes_3 at hce
    split at hce
    rotate_left
    · cases hce
    obtain rfl := Option.some.inj hce
    rename_i x1
    have hb1 := hob _ (List.mem_singleton.2 rfl)
    have hb2 := obl.1 hb1
    clear hb1 hob hce
    refine hb2.elim fun r hF => ?_
    clear hb2
    simp only [List.length_cons, List.length_nil, Nat.zero_add, Nat.reduceAdd] at hk
    have hr : F_octet_Window_Bytes_3 x1 = some r := by rw [lock_eq] at hF; exact hF
    unfold F_octet_Window_Bytes_3 at hr
    constructor
    (try cbv)
    apply Hidden.out
    have e := Option.some.inj hr
    constructor
    refine ⟨_, hF, ?_⟩
    (try cbv); (try simp only [choice_lk, lock_eq, and_self, and_true, true_and]); (try first | exact e | exact e.symm | (and_intros <;> first | assumption | rfl | exact Eq.symm (by assumption)))
end Go.Proofs.Ytolfegaldhhmkaa
end
section
/-
  The walk of (*tollbar/octet.Window).Err (printed by a program of ours).
-/
set_option linter.unusedVariables false
set_option linter.unusedSimpArgs false
namespace Go.Proofs.Ytolfegaldhhmkaa
open Go.RowKit

noncomputable def tab_octet_Window_Err : Nat → Option Con := look []
set_option maxHeartbeats 4000000 in
set_option maxRecDepth 100000 in
theorem vc_octet_Window_Err (P : Program) (T : Tab P tab_octet_Window_Err) (hm : P.follows .mixedOrders = true) : FnVC P tab_octet_Window_Err ic_17 [.t 2] 9 con_octet_Window_Err := by
  intro cargs ccks ce hce hob C hk
  apply Hidden.out
  replace hce : altC (con_octet_Window_Err_1 cargs ccks) (altC (con_octet_Window_Err_2 cargs ccks) (con_octet_Window_Err_3 cargs ccks)) = some ce := hce
  replace hce := altC_inv hce
  rcases hce with hce | hce
  · unfold con_octet_Window_Err_1 at hce
    split at hce
    rotate_left
    · cases hce
    obtain rfl := Option.some.inj hce
    rename_i n1 n2 x1 s1
    have hb1 := hob _ (List.mem_singleton.2 rfl)
    have hb2 := obl.1 hb1
    clear hb1 hob hce
    refine hb2.elim fun r hF => ?_
    clear hb2
    simp only [List.length_cons, List.length_nil, Nat.zero_add, Nat.reduceAdd] at hk
    have hr : F_octet_Window_Err n1 n2 x1 s1 = some r := by rw [lock_eq] at hF; exact hF
    unfold F_octet_Window_Err at hr
    constructor
    (try cbv)
    apply Hidden.out
    have e := Option.some.inj hr
    constructor
    refine ⟨_, hF, ?_⟩
    (try cbv); (try simp only [choice_lk, lock_eq, and_self, and_true, true_and]); (try first | exact e | exact e.symm | (and_intros <;> first | assumption | rfl | exact Eq.symm (by assumption)))
  replace hce := altC_inv hce
  rcases hce with hce | hce
  · unfold con_octet_Window_Err_2 at hce
    split at hce
    rotate_left
    · cases hce
    obtain rfl := Option.some.inj hce
    have hb1 := hob _ (List.mem_singleton.2 rfl)
    have hb2 := obl.1 hb1
    clear hb1 hob hce
    refine hb2.elim fun r hF => ?_
    clear hb2
    simp only [List.length_cons, List.length_nil, Nat.zero_add, Nat.reduceAdd] at hk
    have hr : F_octet_Window_Err_3 = some r := by rw [lock_eq] at hF; exact hF
    unfold F_octet_Window_Err_3 at hr
    constructor
    (try cbv)
    apply Hidden.out
    have e := Option.some.inj hr
    constructor
    refine ⟨_, hF, ?_⟩
    (try cbv); (try simp only [choice_lk, lock_eq, and_self, and_true, true_and]); (try first | exact e | exact e.symm | (and_intros <;> first | assumption | rfl | exact Eq.symm (by assumption)))
  · unfold con_octet_Window_Err_3 at hce
    split at hce
    rotate_left
    · cases hce
    obtain rfl := Option.some.inj hce
    rename_i x1
    have hb1 := hob _ (List.mem_singleton.2 rfl)
    have hb2 := obl.1 hb1
    clear hb1 hob hce
    refine hb2.elim fun r hF => ?_
    clear hb2
    simp only [List.length_cons, List.length_nil, Nat.zero_add, Nat.reduceAdd] at hk
    have hr : F_octet_Window_Err_4 x1 = some r := by rw [lock_eq] at hF; exact hF
    unfold F_octet_Window_Err_4 at hr
    constructor
    (try cbv)
    apply Hidden.out
    have e := Option.some.inj hr
    constructor
    refine ⟨_, hF, ?_⟩
    (try cbv); (try simp only [choice_lk, lock_eq, and_self, and_true, true_and]); (try first | exact e | exact e.symm | (and_intros <;> first | assumption | rfl | exact Eq.symm (by assumption)))
end Go.Proofs.Ytolfegaldhhmkaa
end
section
/-
  The walk of (*tollbar/octet.Window).Sub (printed by a program of ours).
-/
set_option linter.unusedVariables false
set_option linter.unusedSimpArgs false
namespace Go.Proofs.Ytolfegaldhhmkaa
open Go.RowKit

noncomputable def tab_octet_Window_Sub : Nat → Option Con := look [(12, con_octet_Window_Bytes), (17, con_octet_Window_Err)]
set_option maxHeartbeats 4000000 in
set_option maxRecDepth 100000 in
theorem vc_octet_Window_Sub (P : Program) (T : Tab P tab_octet_Window_Sub) (hm : P.follows .mixedOrders = true) : FnVC P tab_octet_Window_Sub ic_14 [.t 4] 14 con_octet_Window_Sub := by
  intro cargs ccks ce hce hob C hk
  apply Hidden.out
  replace hce : altC (con_octet_Window_Sub_1 cargs ccks) (altC (con_octet_Window_Sub_2 cargs ccks) (con_octet_Window_Sub_3 cargs ccks)) = some ce := hce
  replace hce := altC_inv hce
  rcases hce with hce | hce
  · unfold con_octet_Window_Sub_1 at hce
    split at hce
    rotate_left
    · cases hce
    obtain rfl := Option.some.inj hce
    rename_i x1 x2 s1
    have hb1 := hob _ (List.mem_singleton.2 rfl)
    have hb2 := obl.1 hb1
    clear hb1 hob hce
    refine hb2.elim fun r hF => ?_
    clear hb2
    simp only [List.length_cons, List.length_nil, Nat.zero_add, Nat.reduceAdd] at hk
    have hr : F_octet_Window_Sub x1 x2 s1 = some r := by rw [lock_eq] at hF; exact hF
    unfold F_octet_Window_Sub at hr
    constructor
    (try cbv)
    have hqe : ∃ qq, F_octet_Window_Bytes x1 x2 s1 = some qq := by
      cases hq : F_octet_Window_Bytes x1 x2 s1 with
      | none => rw [hq] at hr; cases hr
      | some qq => exact ⟨qq, rfl⟩
    refine ⟨obl.2 (by simp only [choice_lk, lock_eq]; exact hqe), (by rintro (⟨_, _, _, _⟩) _ <;> cbv), ?_⟩
    clear hqe
    intro qq hx1
    apply Hidden.out
    simp only [choice_lk, lock_eq] at hx1
    rcases qq with ⟨k1, k2, y1, t1⟩
    all_goals (rw [hx1] at hr; dsimp only at hr; constructor; (try cbv))
    have hqe : ∃ qq, F_octet_Window_Err k1 k2 y1 s1 = some qq := by
      cases hq : F_octet_Window_Err k1 k2 y1 s1 with
      | none => rw [hq] at hr; cases hr
      | some qq => exact ⟨qq, rfl⟩
    refine ⟨obl.2 (by simp only [choice_lk, lock_eq]; exact hqe), (by rintro (_) _ <;> cbv), ?_⟩
    clear hqe
    intro qq hx2
    apply Hidden.out
    simp only [choice_lk, lock_eq] at hx2
    rcases qq with _
    all_goals (rw [hx2] at hr; dsimp only at hr; constructor; (try cbv))
    apply Hidden.out
    have e := Option.some.inj hr
    obtain ⟨u0, u1, u2, u3, u4⟩ := r
    simp only [Prod.mk.injEq] at e
    obtain ⟨e0, e1, e2, e3, e4⟩ := e
    constructor
    refine ⟨_, hF, ?_⟩
    (try cbv); (try simp only [choice_lk, lock_eq, and_self, and_true, true_and]); (try first | exact e | exact e.symm | (and_intros <;> first | assumption | rfl | exact Eq.symm (by assumption)))
  replace hce := altC_inv hce
  rcases hce with hce | hce
  · unfold con_octet_Window_Sub_2 at hce
    split at hce
    rotate_left
    · cases hce
    obtain rfl := Option.some.inj hce
    rename_i x1 n1 n2 x2 s1
    have hb1 := hob _ (List.mem_singleton.2 rfl)
    have hb2 := obl.1 hb1
    clear hb1 hob hce
    refine hb2.elim fun r hF => ?_
    clear hb2
    simp only [List.length_cons, List.length_nil, Nat.zero_add, Nat.reduceAdd] at hk
    have hr : F_octet_Window_Sub_2 x1 n1 n2 x2 s1 = some r := by rw [lock_eq] at hF; exact hF
    unfold F_octet_Window_Sub_2 at hr
    constructor
    (try cbv)
    have hqe : ∃ qq, F_octet_Window_Bytes_2 x1 n1 n2 x2 s1 = some qq := by
      cases hq : F_octet_Window_Bytes_2 x1 n1 n2 x2 s1 with
      | none => rw [hq] at hr; cases hr
      | some qq => exact ⟨qq, rfl⟩
    refine ⟨obl.2 (by simp only [choice_lk, lock_eq]; exact hqe), (by rintro (⟨_, _, _, _⟩) _ <;> cbv), ?_⟩
    clear hqe
    intro qq hx1
    apply Hidden.out
    simp only [choice_lk, lock_eq] at hx1
    rcases qq with ⟨k1, k2, y1, t1⟩
    all_goals (rw [hx1] at hr; dsimp only at hr; constructor; (try cbv))
    have hqe : ∃ qq, F_octet_Window_Err k1 k2 y1 s1 = some qq := by
      cases hq : F_octet_Window_Err k1 k2 y1 s1 with
      | none => rw [hq] at hr; cases hr
      | some qq => exact ⟨qq, rfl⟩
    refine ⟨obl.2 (by simp only [choice_lk, lock_eq]; exact hqe), (by rintro (_) _ <;> cbv), ?_⟩
    clear hqe
    intro qq hx2
    apply Hidden.out
    simp only [choice_lk, lock_eq] at hx2
    rcases qq with _
    all_goals (rw [hx2] at hr; dsimp only at hr; constructor; (try cbv))
    apply Hidden.out
    have e := Option.some.inj hr
    obtain ⟨u0, u1, u2, u3, u4⟩ := r
    simp only [Prod.mk.injEq] at e
    obtain ⟨e0, e1, e2, e3, e4⟩ := e
    constructor
    refine ⟨_, hF, ?_⟩
    (try cbv); (try simp only [choice_lk, lock_eq, and_self, and_true, true_and]); (try first | exact e | exact e.symm | (and_intros <;> first | assumption | rfl | exact Eq.symm (by assumption)))
  · unfold con_octet_Window_Sub_3 at hce
    split at hce
    rotate_left
    · cases hce
    obtain rfl := Option.some.inj hce
    rename_i x1
    have hb1 := hob _ (List.mem_singleton.2 rfl)
    have hb2 := obl.1 hb1
    clear hb1 hob hce
    refine hb2.elim fun r hF => ?_
    clear hb2
    simp only [List.length_cons, List.length_nil, Nat.zero_add, Nat.reduceAdd] at hk
    have hr : F_octet_Window_Sub_3 x1 = some r := by rw [lock_eq] at hF; exact hF
    unfold F_octet_Window_Sub_3 at hr
    constructor
    (try cbv)
    have hqe : ∃ qq, F_octet_Window_Bytes_3 x1 = some qq := by
      cases hq : F_octet_Window_Bytes_3 x1 with
      | none => rw [hq] at hr; cases hr
      | some qq => exact ⟨qq, rfl⟩
    refine ⟨obl.2 (by simp only [choice_lk, lock_eq]; exact hqe), (by rintro (_) _ <;> cbv), ?_⟩
    clear hqe
    intro qq hx1
    apply Hidden.out
    simp only [choice_lk, lock_eq] at hx1
    rcases qq with _
    all_goals (rw [hx1] at hr; dsimp only at hr; constructor; (try cbv))
    have hqe : ∃ qq, F_octet_Window_Err_3 = some qq := by
      cases hq : F_octet_Window_Err_3 with
      | none => rw [hq] at hr; cases hr
      | some qq => exact ⟨qq, rfl⟩
    refine ⟨obl.2 (by simp only [choice_lk, lock_eq]; exact hqe), (by rintro (_) _ <;> cbv), ?_⟩
    clear hqe
    intro qq hx2
    apply Hidden.out
    simp only [choice_lk, lock_eq] at hx2
    rcases qq with _
    all_goals (rw [hx2] at hr; dsimp only at hr; constructor; (try cbv))
    apply Hidden.out
    have e := Option.some.inj hr
    constructor
    refine ⟨_, hF, ?_⟩
    (try cbv); (try simp only [choice_lk, lock_eq, and_self, and_true, true_and]); (try first | exact e | exact e.symm | (and_intros <;> first | assumption | rfl | exact Eq.symm (by assumption)))
end Go.Proofs.Ytolfegaldhhmkaa
end
section
/-
  The walk of tollbar/octet.Value (printed by a program of ours).
-/
set_option linter.unusedVariables false
set_option linter.unusedSimpArgs false
namespace Go.Proofs.Ytolfegaldhhmkaa
open Go.RowKit

noncomputable def tab_octet_Value : Nat → Option Con := look []
set_option maxHeartbeats 4000000 in
set_option maxRecDepth 100000 in
theorem vc_octet_Value (P : Program) (T : Tab P tab_octet_Value) (hm : P.follows .mixedOrders = true) : FnVC P tab_octet_Value ic_23 [.t 2, .t 3] 23 con_octet_Value := by
  intro cargs ccks ce hce hob C hk
  apply Hidden.out
  replace hce : con_octet_Value_1 cargs ccks = some ce := hce
  · unfold con_octet_Value_1 at hce
    split at hce
    rotate_left
    · cases hce
    obtain rfl := Option.some.inj hce
    rename_i s1
    have hb1 := hob _ (List.mem_singleton.2 rfl)
    have hb2 := obl.1 hb1
    clear hb1 hob hce
    refine hb2.elim fun r hF => ?_
    clear hb2
    simp only [List.length_cons, List.length_nil, Nat.zero_add, Nat.reduceAdd] at hk
    have hr : F_octet_Value s1 = some r := by rw [lock_eq] at hF; exact hF
    unfold F_octet_Value at hr
    constructor
    (try cbv)
    refine LoopOK.iter T (drawOK T hm) (B := (F_octet_Value_L1 s1)) hr (fun | (i1, i2) => ⟨mkFr [(4, (.v (.int .u64 i1))), (7, (.rsl (.bs 5 s1))), (8, (.v (.int .i64 (lock ofN (lock (@xlen UInt8) s1))))), (9, (.v (.int .i64 i2)))] 23 0, [], 0⟩) ?_ ?_
    · rintro ⟨u0, u1⟩ e
      simp only [Prod.mk.injEq] at e
      obtain ⟨e0, e1⟩ := e
      refine le_auto hk ?_
      (try cbv); (try simp only [choice_lk, lock_eq, and_self, and_true, true_and]); (try first | exact e | exact e.symm | (and_intros <;> first | assumption | rfl | exact Eq.symm (by assumption)))
    · clear hr
      intro x bb1 hr ht1
      apply Hidden.out
      obtain ⟨i1, i2⟩ := x
      constructor
      unfold F_octet_Value_L1 at hr
      (try dsimp only at hr)
      (try cbv)
      refine sel_intro (fun h => ?_) (fun h => ?_)
      · have h1 : (ilt i2 (ofN (xlen s1))) = true := by first | exact h | (have h2 := h; simp only [choice_lk, lock_eq] at h2; exact h2) | (simp only [choice_lk, lock_eq] at h; exact h)
        rw [if_pos h1] at hr
        (try cbv)
        have gg := guard_inv hr
        have g := gg.1
        replace hr := gg.2
        clear gg
        refine ⟨obl.2 (by first | (simp only [choice_lk, lock_eq, R.len, R.sub]; exact g) | exact g), ?_⟩
        have gg := guard_inv hr
        have g := gg.1
        replace hr := gg.2
        clear gg
        refine ⟨obl.2 (by first | (simp only [choice_lk, lock_eq, R.len, R.sub]; exact g) | exact g), ?_⟩
        refine sel_intro (fun h => ?_) (fun h => ?_)
        · have h1 : (ilt (0 : Int) (ishr .u64 i1 (56 : Int))) = true := by first | exact h | (have h2 := h; simp only [choice_lk, lock_eq] at h2; exact h2) | (simp only [choice_lk, lock_eq] at h; exact h)
          rw [if_pos h1] at hr
          (try cbv)
          apply Hidden.out
          obtain rfl := Option.some.inj hr
          have e := ht1 _ rfl
          obtain ⟨u0, u1⟩ := r
          simp only [Prod.mk.injEq] at e
          obtain ⟨e0, e1⟩ := e
          constructor
          refine ⟨_, hF, ?_⟩
          (try cbv); (try simp only [choice_lk, lock_eq, and_self, and_true, true_and]); (try first | exact e | exact e.symm | (and_intros <;> first | assumption | rfl | exact Eq.symm (by assumption)))
        · have h1 : (ilt (0 : Int) (ishr .u64 i1 (56 : Int))) = false := by first | exact h | (have h2 := h; simp only [choice_lk, lock_eq] at h2; exact h2) | (simp only [choice_lk, lock_eq] at h; exact h)
          rw [if_neg (by rw [h1]; exact Bool.false_ne_true)] at hr
          (try cbv)
          have gg := guard_inv hr
          have g := gg.1
          replace hr := gg.2
          clear gg
          refine ⟨obl.2 (by first | (simp only [choice_lk, lock_eq, R.len, R.sub]; exact g) | exact g), ?_⟩
          apply Hidden.out
          obtain rfl := Option.some.inj hr
          constructor
          refine ⟨⟨_, rfl⟩, ?_⟩
          rintro ⟨u0, u1⟩ e
          replace e := Sum.inl.inj e
          simp only [Prod.mk.injEq] at e
          obtain ⟨e0, e1⟩ := e
          refine le_auto hk ?_
          (try cbv); (try simp only [choice_lk, lock_eq, and_self, and_true, true_and]); (try first | exact e | exact e.symm | (and_intros <;> first | assumption | rfl | exact Eq.symm (by assumption)))
      · have h1 : (ilt i2 (ofN (xlen s1))) = false := by first | exact h | (have h2 := h; simp only [choice_lk, lock_eq] at h2; exact h2) | (simp only [choice_lk, lock_eq] at h; exact h)
        rw [if_neg (by rw [h1]; exact Bool.false_ne_true)] at hr
        (try cbv)
        apply Hidden.out
        obtain rfl := Option.some.inj hr
        have e := ht1 _ rfl
        obtain ⟨u0, u1⟩ := r
        simp only [Prod.mk.injEq] at e
        obtain ⟨e0, e1⟩ := e
        constructor
        refine ⟨_, hF, ?_⟩
        (try cbv); (try simp only [choice_lk, lock_eq, and_self, and_true, true_and]); (try first | exact e | exact e.symm | (and_intros <;> first | assumption | rfl | exact Eq.symm (by assumption)))
end Go.Proofs.Ytolfegaldhhmkaa
end
section
/-
  The walk of tollbar/octet.Big (printed by a program of ours).
-/
set_option linter.unusedVariables false
set_option linter.unusedSimpArgs false
namespace Go.Proofs.Ytolfegaldhhmkaa
open Go.RowKit

noncomputable def tab_octet_Big : Nat → Option Con := look []
set_option maxHeartbeats 4000000 in
set_option maxRecDepth 100000 in
theorem vc_octet_Big (P : Program) (T : Tab P tab_octet_Big) (hm : P.follows .mixedOrders = true) : FnVC P tab_octet_Big ic_20 [.t 4] 28 con_octet_Big := by
  intro cargs ccks ce hce hob C hk
  apply Hidden.out
  replace hce : con_octet_Big_1 cargs ccks = some ce := hce
  · unfold con_octet_Big_1 at hce
    split at hce
    rotate_left
    · cases hce
    obtain rfl := Option.some.inj hce
    rename_i x1 x2
    have hb1 := hob _ (List.mem_singleton.2 rfl)
    have hb2 := obl.1 hb1
    clear hb1 hob hce
    refine hb2.elim fun r hF => ?_
    clear hb2
    simp only [List.length_cons, List.length_nil, Nat.zero_add, Nat.reduceAdd] at hk
    have hr : F_octet_Big x1 x2 = some r := by rw [lock_eq] at hF; exact hF
    unfold F_octet_Big at hr
    constructor
    (try cbv)
    refine sel_intro (fun h => ?_) (fun h => ?_)
    · have h1 : (ilt x2 (1 : Int)) = true := by first | exact h | (have h2 := h; simp only [choice_lk, lock_eq] at h2; exact h2) | (simp only [choice_lk, lock_eq] at h; exact h)
      rw [if_pos h1] at hr
      (try cbv)
      apply Hidden.out
      have e := Option.some.inj hr
      constructor
      refine ⟨_, hF, ?_⟩
      (try cbv); (try simp only [choice_lk, lock_eq, and_self, and_true, true_and]); (try first | exact e | exact e.symm | (and_intros <;> first | assumption | rfl | exact Eq.symm (by assumption)))
    · have h1 : (ilt x2 (1 : Int)) = false := by first | exact h | (have h2 := h; simp only [choice_lk, lock_eq] at h2; exact h2) | (simp only [choice_lk, lock_eq] at h; exact h)
      rw [if_neg (by rw [h1]; exact Bool.false_ne_true)] at hr
      (try cbv)
      refine sel_intro (fun h => ?_) (fun h => ?_)
      · have h1 : (ilt (8 : Int) x2) = true := by first | exact h | (have h2 := h; simp only [choice_lk, lock_eq] at h2; exact h2) | (simp only [choice_lk, lock_eq] at h; exact h)
        rw [if_pos h1] at hr
        (try cbv)
        apply Hidden.out
        have e := Option.some.inj hr
        constructor
        refine ⟨_, hF, ?_⟩
        (try cbv); (try simp only [choice_lk, lock_eq, and_self, and_true, true_and]); (try first | exact e | exact e.symm | (and_intros <;> first | assumption | rfl | exact Eq.symm (by assumption)))
      · have h1 : (ilt (8 : Int) x2) = false := by first | exact h | (have h2 := h; simp only [choice_lk, lock_eq] at h2; exact h2) | (simp only [choice_lk, lock_eq] at h; exact h)
        rw [if_neg (by rw [h1]; exact Bool.false_ne_true)] at hr
        (try cbv)
        refine LoopOK.iter T (drawOK T hm) (B := (F_octet_Big_L1 x1)) hr (fun | (i1, s1) => ⟨mkFr [(0, (.v (.int .u64 x1))), (5, (.wsl 0)), (6, (.v (.int .i64 i1)))] 28 0, [(0, .row (.bs 5 s1))], 1⟩) ?_ ?_
        · rintro ⟨u0, u1⟩ e
          simp only [Prod.mk.injEq] at e
          obtain ⟨e0, e1⟩ := e
          refine le_auto hk ?_
          (try cbv); (try simp only [choice_lk, lock_eq, and_self, and_true, true_and]); (try first | exact e | exact e.symm | (and_intros <;> first | assumption | rfl | exact Eq.symm (by assumption)))
        · clear hr
          intro x bb1 hr ht1
          apply Hidden.out
          obtain ⟨i1, s1⟩ := x
          constructor
          unfold F_octet_Big_L1 at hr
          (try dsimp only at hr)
          (try cbv)
          refine sel_intro (fun h => ?_) (fun h => ?_)
          · have h1 : (ile (0 : Int) i1) = true := by first | exact h | (have h2 := h; simp only [choice_lk, lock_eq] at h2; exact h2) | (simp only [choice_lk, lock_eq] at h; exact h)
            rw [if_pos h1] at hr
            (try cbv)
            have gg := guard_inv hr
            have g := gg.1
            replace hr := gg.2
            clear gg
            refine ⟨obl.2 (by first | (simp only [choice_lk, lock_eq, R.len, R.sub]; exact g) | exact g), ?_⟩
            have gg := guard_inv hr
            have g := gg.1
            replace hr := gg.2
            clear gg
            refine ⟨obl.2 (by first | (simp only [choice_lk, lock_eq, R.len, R.sub]; exact g) | exact g), ?_⟩
            have gg := guard_inv hr
            have g := gg.1
            replace hr := gg.2
            clear gg
            refine ⟨obl.2 (by first | (simp only [choice_lk, lock_eq, R.len, R.sub]; exact g) | exact g), ?_⟩
            apply Hidden.out
            obtain rfl := Option.some.inj hr
            constructor
            refine ⟨⟨_, rfl⟩, ?_⟩
            rintro ⟨u0, u1⟩ e
            replace e := Sum.inl.inj e
            simp only [Prod.mk.injEq] at e
            obtain ⟨e0, e1⟩ := e
            refine le_auto hk ?_
            (try cbv); (try simp only [choice_lk, lock_eq, and_self, and_true, true_and]); (try first | exact e | exact e.symm | (and_intros <;> first | assumption | rfl | exact Eq.symm (by assumption)))
          · have h1 : (ile (0 : Int) i1) = false := by first | exact h | (have h2 := h; simp only [choice_lk, lock_eq] at h2; exact h2) | (simp only [choice_lk, lock_eq] at h; exact h)
            rw [if_neg (by rw [h1]; exact Bool.false_ne_true)] at hr
            (try cbv)
            apply Hidden.out
            obtain rfl := Option.some.inj hr
            have e := ht1 _ rfl
            constructor
            refine ⟨_, hF, ?_⟩
            (try cbv); (try simp only [choice_lk, lock_eq, and_self, and_true, true_and]); (try first | exact e | exact e.symm | (and_intros <;> first | assumption | rfl | exact Eq.symm (by assumption)))
end Go.Proofs.Ytolfegaldhhmkaa
end
section
/-
  The walk of tollbar/octet.Least (printed by a program of ours).
-/
set_option linter.unusedVariables false
set_option linter.unusedSimpArgs false
namespace Go.Proofs.Ytolfegaldhhmkaa
open Go.RowKit

noncomputable def tab_octet_Least : Nat → Option Con := look [(20, con_octet_Big)]
set_option maxHeartbeats 4000000 in
set_option maxRecDepth 100000 in
theorem vc_octet_Least (P : Program) (T : Tab P tab_octet_Least) (hm : P.follows .mixedOrders = true) : FnVC P tab_octet_Least ic_22 [.t 2] 15 con_octet_Least := by
  intro cargs ccks ce hce hob C hk
  apply Hidden.out
  replace hce : con_octet_Least_1 cargs ccks = some ce := hce
  · unfold con_octet_Least_1 at hce
    split at hce
    rotate_left
    · cases hce
    obtain rfl := Option.some.inj hce
    rename_i x1
    have hb1 := hob _ (List.mem_singleton.2 rfl)
    have hb2 := obl.1 hb1
    clear hb1 hob hce
    refine hb2.elim fun r hF => ?_
    clear hb2
    simp only [List.length_cons, List.length_nil, Nat.zero_add, Nat.reduceAdd] at hk
    have hr : F_octet_Least x1 = some r := by rw [lock_eq] at hF; exact hF
    unfold F_octet_Least at hr
    constructor
    (try cbv)
    refine LoopOK.iter T (drawOK T hm) (B := (F_octet_Least_L1 x1)) hr (fun | (i1, i2) => ⟨mkFr [(0, (.v (.int .u64 x1))), (3, (.v (.int .i64 i1))), (4, (.v (.int .u64 i2)))] 15 0, [], 0⟩) ?_ ?_
    · rintro ⟨u0, u1⟩ e
      simp only [Prod.mk.injEq] at e
      obtain ⟨e0, e1⟩ := e
      refine le_auto hk ?_
      (try cbv); (try simp only [choice_lk, lock_eq, and_self, and_true, true_and]); (try first | exact e | exact e.symm | (and_intros <;> first | assumption | rfl | exact Eq.symm (by assumption)))
    · clear hr
      intro x bb1 hr ht1
      apply Hidden.out
      obtain ⟨i1, i2⟩ := x
      constructor
      unfold F_octet_Least_L1 at hr
      (try dsimp only at hr)
      (try cbv)
      refine sel_intro (fun h => ?_) (fun h => ?_)
      · have h1 : (ilt (0 : Int) i2) = true := by first | exact h | (have h2 := h; simp only [choice_lk, lock_eq] at h2; exact h2) | (simp only [choice_lk, lock_eq] at h; exact h)
        rw [if_pos h1] at hr
        (try cbv)
        have gg := guard_inv hr
        have g := gg.1
        replace hr := gg.2
        clear gg
        refine ⟨obl.2 (by first | (simp only [choice_lk, lock_eq, R.len, R.sub]; exact g) | exact g), ?_⟩
        apply Hidden.out
        obtain rfl := Option.some.inj hr
        constructor
        refine ⟨⟨_, rfl⟩, ?_⟩
        rintro ⟨u0, u1⟩ e
        replace e := Sum.inl.inj e
        simp only [Prod.mk.injEq] at e
        obtain ⟨e0, e1⟩ := e
        refine le_auto hk ?_
        (try cbv); (try simp only [choice_lk, lock_eq, and_self, and_true, true_and]); (try first | exact e | exact e.symm | (and_intros <;> first | assumption | rfl | exact Eq.symm (by assumption)))
      · have h1 : (ilt (0 : Int) i2) = false := by first | exact h | (have h2 := h; simp only [choice_lk, lock_eq] at h2; exact h2) | (simp only [choice_lk, lock_eq] at h; exact h)
        rw [if_neg (by rw [h1]; exact Bool.false_ne_true)] at hr
        (try cbv)
        have hqe : ∃ qq, F_octet_Big x1 i1 = some qq := by
          cases hq : F_octet_Big x1 i1 with
          | none => rw [hq] at hr; cases hr
          | some qq => exact ⟨qq, rfl⟩
        refine ⟨obl.2 (by simp only [choice_lk, lock_eq]; exact hqe), (by rintro (_) _ <;> cbv), ?_⟩
        clear hqe
        intro t1 hx1
        apply Hidden.out
        simp only [choice_lk, lock_eq] at hx1
        all_goals (rw [hx1] at hr; dsimp only at hr; constructor; (try cbv))
        apply Hidden.out
        obtain rfl := Option.some.inj hr
        have e := ht1 _ rfl
        constructor
        refine ⟨_, hF, ?_⟩
        (try cbv); (try simp only [choice_lk, lock_eq, and_self, and_true, true_and]); (try first | exact e | exact e.symm | (and_intros <;> first | assumption | rfl | exact Eq.symm (by assumption)))
end Go.Proofs.Ytolfegaldhhmkaa
end
section
/-
  The walk of (*tollbar/octet.Window).Num (printed by a program of ours).
-/
set_option linter.unusedVariables false
set_option linter.unusedSimpArgs false
namespace Go.Proofs.Ytolfegaldhhmkaa
open Go.RowKit

noncomputable def tab_octet_Window_Num : Nat → Option Con := look [(26, con_octet_Window_fail), (12, con_octet_Window_Bytes), (23, con_octet_Value)]
set_option maxHeartbeats 4000000 in
set_option maxRecDepth 100000 in
theorem vc_octet_Window_Num (P : Program) (T : Tab P tab_octet_Window_Num) (hm : P.follows .mixedOrders = true) : FnVC P tab_octet_Window_Num ic_11 [.t 4] 25 con_octet_Window_Num := by
  intro cargs ccks ce hce hob C hk
  apply Hidden.out
  replace hce : altC (con_octet_Window_Num_1 cargs ccks) (altC (con_octet_Window_Num_2 cargs ccks) (con_octet_Window_Num_3 cargs ccks)) = some ce := hce
  replace hce := altC_inv hce
  rcases hce with hce | hce
  · unfold con_octet_Window_Num_1 at hce
    split at hce
    rotate_left
    · cases hce
    obtain rfl := Option.some.inj hce
    rename_i x1 x2 s1
    have hb1 := hob _ (List.mem_singleton.2 rfl)
    have hb2 := obl.1 hb1
    clear hb1 hob hce
    refine hb2.elim fun r hF => ?_
    clear hb2
    simp only [List.length_cons, List.length_nil, Nat.zero_add, Nat.reduceAdd] at hk
    have hr : F_octet_Window_Num x1 x2 s1 = some r := by rw [lock_eq] at hF; exact hF
    unfold F_octet_Window_Num at hr
    constructor
    (try cbv)
    refine sel_intro (fun h => ?_) (fun h => ?_)
    · have h1 : (ilt x1 (1 : Int)) = true := by first | exact h | (have h2 := h; simp only [choice_lk, lock_eq] at h2; exact h2) | (simp only [choice_lk, lock_eq] at h; exact h)
      rw [if_pos h1] at hr
      (try cbv)
      have hqe : ∃ qq, F_octet_Window_fail (1 : Int) x2 s1 = some qq := by
        cases hq : F_octet_Window_fail (1 : Int) x2 s1 with
        | none => rw [hq] at hr; cases hr
        | some qq => exact ⟨qq, rfl⟩
      refine ⟨obl.2 (by simp only [choice_lk, lock_eq]; exact hqe), (by rintro (_) _ <;> cbv), ?_⟩
      clear hqe
      intro y1 hx1
      apply Hidden.out
      simp only [choice_lk, lock_eq] at hx1
      all_goals (rw [hx1] at hr; dsimp only at hr; constructor; (try cbv))
      apply Hidden.out
      have e := Option.some.inj hr
      obtain ⟨u0, u1, u2, u3⟩ := r
      simp only [Prod.mk.injEq] at e
      obtain ⟨e0, e1, e2, e3⟩ := e
      constructor
      refine ⟨_, hF, ?_⟩
      (try cbv); (try simp only [choice_lk, lock_eq, and_self, and_true, true_and]); (try first | exact e | exact e.symm | (and_intros <;> first | assumption | rfl | exact Eq.symm (by assumption)))
    · have h1 : (ilt x1 (1 : Int)) = false := by first | exact h | (have h2 := h; simp only [choice_lk, lock_eq] at h2; exact h2) | (simp only [choice_lk, lock_eq] at h; exact h)
      rw [if_neg (by rw [h1]; exact Bool.false_ne_true)] at hr
      (try cbv)
      refine sel_intro (fun h => ?_) (fun h => ?_)
      · have h1 : (ilt (8 : Int) x1) = true := by first | exact h | (have h2 := h; simp only [choice_lk, lock_eq] at h2; exact h2) | (simp only [choice_lk, lock_eq] at h; exact h)
        rw [if_pos h1] at hr
        (try cbv)
        have hqe : ∃ qq, F_octet_Window_fail (1 : Int) x2 s1 = some qq := by
          cases hq : F_octet_Window_fail (1 : Int) x2 s1 with
          | none => rw [hq] at hr; cases hr
          | some qq => exact ⟨qq, rfl⟩
        refine ⟨obl.2 (by simp only [choice_lk, lock_eq]; exact hqe), (by rintro (_) _ <;> cbv), ?_⟩
        clear hqe
        intro y2 hx2
        apply Hidden.out
        simp only [choice_lk, lock_eq] at hx2
        all_goals (rw [hx2] at hr; dsimp only at hr; constructor; (try cbv))
        apply Hidden.out
        have e := Option.some.inj hr
        obtain ⟨u0, u1, u2, u3⟩ := r
        simp only [Prod.mk.injEq] at e
        obtain ⟨e0, e1, e2, e3⟩ := e
        constructor
        refine ⟨_, hF, ?_⟩
        (try cbv); (try simp only [choice_lk, lock_eq, and_self, and_true, true_and]); (try first | exact e | exact e.symm | (and_intros <;> first | assumption | rfl | exact Eq.symm (by assumption)))
      · have h1 : (ilt (8 : Int) x1) = false := by first | exact h | (have h2 := h; simp only [choice_lk, lock_eq] at h2; exact h2) | (simp only [choice_lk, lock_eq] at h; exact h)
        rw [if_neg (by rw [h1]; exact Bool.false_ne_true)] at hr
        (try cbv)
        have hqe : ∃ qq, F_octet_Window_Bytes x1 x2 s1 = some qq := by
          cases hq : F_octet_Window_Bytes x1 x2 s1 with
          | none => rw [hq] at hr; cases hr
          | some qq => exact ⟨qq, rfl⟩
        refine ⟨obl.2 (by simp only [choice_lk, lock_eq]; exact hqe), (by rintro (⟨_, _, _, _⟩) _ <;> cbv), ?_⟩
        clear hqe
        intro qq hx3
        apply Hidden.out
        simp only [choice_lk, lock_eq] at hx3
        rcases qq with ⟨k1, k2, y3, t1⟩
        all_goals (rw [hx3] at hr; dsimp only at hr; constructor; (try cbv))
        have hqe : ∃ qq, F_octet_Value t1 = some qq := by
          cases hq : F_octet_Value t1 with
          | none => rw [hq] at hr; cases hr
          | some qq => exact ⟨qq, rfl⟩
        refine ⟨obl.2 (by simp only [choice_lk, lock_eq]; exact hqe), (by rintro (⟨_, _⟩) _ <;> cbv), ?_⟩
        clear hqe
        intro qq hx4
        apply Hidden.out
        simp only [choice_lk, lock_eq] at hx4
        rcases qq with ⟨y4, c1⟩
        all_goals (rw [hx4] at hr; dsimp only at hr; constructor; (try cbv))
        apply Hidden.out
        have e := Option.some.inj hr
        obtain ⟨u0, u1, u2, u3⟩ := r
        simp only [Prod.mk.injEq] at e
        obtain ⟨e0, e1, e2, e3⟩ := e
        constructor
        refine ⟨_, hF, ?_⟩
        (try cbv); (try simp only [choice_lk, lock_eq, and_self, and_true, true_and]); (try first | exact e | exact e.symm | (and_intros <;> first | assumption | rfl | exact Eq.symm (by assumption)))
  replace hce := altC_inv hce
  rcases hce with hce | hce
  · unfold con_octet_Window_Num_2 at hce
    split at hce
    rotate_left
    · cases hce
    obtain rfl := Option.some.inj hce
    rename_i x1 n1 n2 x2 s1
    have hb1 := hob _ (List.mem_singleton.2 rfl)
    have hb2 := obl.1 hb1
    clear hb1 hob hce
    refine hb2.elim fun r hF => ?_
    clear hb2
    simp only [List.length_cons, List.length_nil, Nat.zero_add, Nat.reduceAdd] at hk
    have hr : F_octet_Window_Num_2 x1 n1 n2 x2 s1 = some r := by rw [lock_eq] at hF; exact hF
    unfold F_octet_Window_Num_2 at hr
    constructor
    (try cbv)
    refine sel_intro (fun h => ?_) (fun h => ?_)
    · have h1 : (ilt x1 (1 : Int)) = true := by first | exact h | (have h2 := h; simp only [choice_lk, lock_eq] at h2; exact h2) | (simp only [choice_lk, lock_eq] at h; exact h)
      rw [if_pos h1] at hr
      (try cbv)
      have hqe : ∃ qq, F_octet_Window_fail_2 (1 : Int) n1 n2 x2 s1 = some qq := by
        cases hq : F_octet_Window_fail_2 (1 : Int) n1 n2 x2 s1 with
        | none => rw [hq] at hr; cases hr
        | some qq => exact ⟨qq, rfl⟩
      refine ⟨obl.2 (by simp only [choice_lk, lock_eq]; exact hqe), (by rintro (_) _ <;> cbv), ?_⟩
      clear hqe
      intro y1 hx1
      apply Hidden.out
      simp only [choice_lk, lock_eq] at hx1
      all_goals (rw [hx1] at hr; dsimp only at hr; constructor; (try cbv))
      apply Hidden.out
      have e := Option.some.inj hr
      obtain ⟨u0, u1, u2, u3⟩ := r
      simp only [Prod.mk.injEq] at e
      obtain ⟨e0, e1, e2, e3⟩ := e
      constructor
      refine ⟨_, hF, ?_⟩
      (try cbv); (try simp only [choice_lk, lock_eq, and_self, and_true, true_and]); (try first | exact e | exact e.symm | (and_intros <;> first | assumption | rfl | exact Eq.symm (by assumption)))
    · have h1 : (ilt x1 (1 : Int)) = false := by first | exact h | (have h2 := h; simp only [choice_lk, lock_eq] at h2; exact h2) | (simp only [choice_lk, lock_eq] at h; exact h)
      rw [if_neg (by rw [h1]; exact Bool.false_ne_true)] at hr
      (try cbv)
      refine sel_intro (fun h => ?_) (fun h => ?_)
      · have h1 : (ilt (8 : Int) x1) = true := by first | exact h | (have h2 := h; simp only [choice_lk, lock_eq] at h2; exact h2) | (simp only [choice_lk, lock_eq] at h; exact h)
        rw [if_pos h1] at hr
        (try cbv)
        have hqe : ∃ qq, F_octet_Window_fail_2 (1 : Int) n1 n2 x2 s1 = some qq := by
          cases hq : F_octet_Window_fail_2 (1 : Int) n1 n2 x2 s1 with
          | none => rw [hq] at hr; cases hr
          | some qq => exact ⟨qq, rfl⟩
        refine ⟨obl.2 (by simp only [choice_lk, lock_eq]; exact hqe), (by rintro (_) _ <;> cbv), ?_⟩
        clear hqe
        intro y2 hx2
        apply Hidden.out
        simp only [choice_lk, lock_eq] at hx2
        all_goals (rw [hx2] at hr; dsimp only at hr; constructor; (try cbv))
        apply Hidden.out
        have e := Option.some.inj hr
        obtain ⟨u0, u1, u2, u3⟩ := r
        simp only [Prod.mk.injEq] at e
        obtain ⟨e0, e1, e2, e3⟩ := e
        constructor
        refine ⟨_, hF, ?_⟩
        (try cbv); (try simp only [choice_lk, lock_eq, and_self, and_true, true_and]); (try first | exact e | exact e.symm | (and_intros <;> first | assumption | rfl | exact Eq.symm (by assumption)))
      · have h1 : (ilt (8 : Int) x1) = false := by first | exact h | (have h2 := h; simp only [choice_lk, lock_eq] at h2; exact h2) | (simp only [choice_lk, lock_eq] at h; exact h)
        rw [if_neg (by rw [h1]; exact Bool.false_ne_true)] at hr
        (try cbv)
        have hqe : ∃ qq, F_octet_Window_Bytes_2 x1 n1 n2 x2 s1 = some qq := by
          cases hq : F_octet_Window_Bytes_2 x1 n1 n2 x2 s1 with
          | none => rw [hq] at hr; cases hr
          | some qq => exact ⟨qq, rfl⟩
        refine ⟨obl.2 (by simp only [choice_lk, lock_eq]; exact hqe), (by rintro (⟨_, _, _, _⟩) _ <;> cbv), ?_⟩
        clear hqe
        intro qq hx3
        apply Hidden.out
        simp only [choice_lk, lock_eq] at hx3
        rcases qq with ⟨k1, k2, y3, t1⟩
        all_goals (rw [hx3] at hr; dsimp only at hr; constructor; (try cbv))
        have hqe : ∃ qq, F_octet_Value t1 = some qq := by
          cases hq : F_octet_Value t1 with
          | none => rw [hq] at hr; cases hr
          | some qq => exact ⟨qq, rfl⟩
        refine ⟨obl.2 (by simp only [choice_lk, lock_eq]; exact hqe), (by rintro (⟨_, _⟩) _ <;> cbv), ?_⟩
        clear hqe
        intro qq hx4
        apply Hidden.out
        simp only [choice_lk, lock_eq] at hx4
        rcases qq with ⟨y4, c1⟩
        all_goals (rw [hx4] at hr; dsimp only at hr; constructor; (try cbv))
        apply Hidden.out
        have e := Option.some.inj hr
        obtain ⟨u0, u1, u2, u3⟩ := r
        simp only [Prod.mk.injEq] at e
        obtain ⟨e0, e1, e2, e3⟩ := e
        constructor
        refine ⟨_, hF, ?_⟩
        (try cbv); (try simp only [choice_lk, lock_eq, and_self, and_true, true_and]); (try first | exact e | exact e.symm | (and_intros <;> first | assumption | rfl | exact Eq.symm (by assumption)))
  · unfold con_octet_Window_Num_3 at hce
    split at hce
    rotate_left
    · cases hce
    obtain rfl := Option.some.inj hce
    rename_i x1
    have hb1 := hob _ (List.mem_singleton.2 rfl)
    have hb2 := obl.1 hb1
    clear hb1 hob hce
    refine hb2.elim fun r hF => ?_
    clear hb2
    simp only [List.length_cons, List.length_nil, Nat.zero_add, Nat.reduceAdd] at hk
    have hr : F_octet_Window_Num_3 x1 = some r := by rw [lock_eq] at hF; exact hF
    unfold F_octet_Window_Num_3 at hr
    constructor
    (try cbv)
    apply Hidden.out
    have e := Option.some.inj hr
    constructor
    refine ⟨_, hF, ?_⟩
    (try cbv); (try simp only [choice_lk, lock_eq, and_self, and_true, true_and]); (try first | exact e | exact e.symm | (and_intros <;> first | assumption | rfl | exact Eq.symm (by assumption)))
end Go.Proofs.Ytolfegaldhhmkaa
end
section
/-
  The walk of (*tollbar/octet.Window).Left (printed by a program of ours).
-/
set_option linter.unusedVariables false
set_option linter.unusedSimpArgs false
namespace Go.Proofs.Ytolfegaldhhmkaa
open Go.RowKit

noncomputable def tab_octet_Window_Left : Nat → Option Con := look []
set_option maxHeartbeats 4000000 in
set_option maxRecDepth 100000 in
theorem vc_octet_Window_Left (P : Program) (T : Tab P tab_octet_Window_Left) (hm : P.follows .mixedOrders = true) : FnVC P tab_octet_Window_Left ic_16 [.t 2] 10 con_octet_Window_Left := by
  intro cargs ccks ce hce hob C hk
  apply Hidden.out
  replace hce : altC (con_octet_Window_Left_1 cargs ccks) (con_octet_Window_Left_2 cargs ccks) = some ce := hce
  replace hce := altC_inv hce
  rcases hce with hce | hce
  · unfold con_octet_Window_Left_1 at hce
    split at hce
    rotate_left
    · cases hce
    obtain rfl := Option.some.inj hce
    rename_i n1 n2 x1 s1
    have hb1 := hob _ (List.mem_singleton.2 rfl)
    have hb2 := obl.1 hb1
    clear hb1 hob hce
    refine hb2.elim fun r hF => ?_
    clear hb2
    simp only [List.length_cons, List.length_nil, Nat.zero_add, Nat.reduceAdd] at hk
    have hr : F_octet_Window_Left n1 n2 x1 s1 = some r := by rw [lock_eq] at hF; exact hF
    unfold F_octet_Window_Left at hr
    constructor
    (try cbv)
    apply Hidden.out
    have e := Option.some.inj hr
    constructor
    refine ⟨_, hF, ?_⟩
    (try cbv); (try simp only [choice_lk, lock_eq, and_self, and_true, true_and]); (try first | exact e | exact e.symm | (and_intros <;> first | assumption | rfl | exact Eq.symm (by assumption)))
  · unfold con_octet_Window_Left_2 at hce
    split at hce
    rotate_left
    · cases hce
    obtain rfl := Option.some.inj hce
    have hb1 := hob _ (List.mem_singleton.2 rfl)
    have hb2 := obl.1 hb1
    clear hb1 hob hce
    refine hb2.elim fun r hF => ?_
    clear hb2
    simp only [List.length_cons, List.length_nil, Nat.zero_add, Nat.reduceAdd] at hk
    have hr : F_octet_Window_Left_3 = some r := by rw [lock_eq] at hF; exact hF
    unfold F_octet_Window_Left_3 at hr
    constructor
    (try cbv)
    apply Hidden.out
    have e := Option.some.inj hr
    constructor
    refine ⟨_, hF, ?_⟩
    (try cbv); (try simp only [choice_lk, lock_eq, and_self, and_true, true_and]); (try first | exact e | exact e.symm | (and_intros <;> first | assumption | rfl | exact Eq.symm (by assumption)))
end Go.Proofs.Ytolfegaldhhmkaa
end
section
/-
  The walk of (*tollbar/octet.Window).End (printed by a program of ours).
-/
set_option linter.unusedVariables false
set_option linter.unusedSimpArgs false
namespace Go.Proofs.Ytolfegaldhhmkaa
open Go.RowKit

noncomputable def tab_octet_Window_End : Nat → Option Con := look [(17, con_octet_Window_Err)]
set_option maxHeartbeats 4000000 in
set_option maxRecDepth 100000 in
theorem vc_octet_Window_End (P : Program) (T : Tab P tab_octet_Window_End) (hm : P.follows .mixedOrders = true) : FnVC P tab_octet_Window_End ic_18 [.t 2] 17 con_octet_Window_End := by
  intro cargs ccks ce hce hob C hk
  apply Hidden.out
  replace hce : altC (con_octet_Window_End_1 cargs ccks) (con_octet_Window_End_2 cargs ccks) = some ce := hce
  replace hce := altC_inv hce
  rcases hce with hce | hce
  · unfold con_octet_Window_End_1 at hce
    split at hce
    rotate_left
    · cases hce
    obtain rfl := Option.some.inj hce
    rename_i n1 n2 x1 s1
    have hb1 := hob _ (List.mem_singleton.2 rfl)
    have hb2 := obl.1 hb1
    clear hb1 hob hce
    refine hb2.elim fun r hF => ?_
    clear hb2
    simp only [List.length_cons, List.length_nil, Nat.zero_add, Nat.reduceAdd] at hk
    have hr : F_octet_Window_End n1 n2 x1 s1 = some r := by rw [lock_eq] at hF; exact hF
    unfold F_octet_Window_End at hr
    constructor
    (try cbv)
    have hqe : ∃ qq, F_octet_Window_Err n1 n2 x1 s1 = some qq := by
      cases hq : F_octet_Window_Err n1 n2 x1 s1 with
      | none => rw [hq] at hr; cases hr
      | some qq => exact ⟨qq, rfl⟩
    refine ⟨obl.2 (by simp only [choice_lk, lock_eq]; exact hqe), (by rintro (_) _ <;> cbv), ?_⟩
    clear hqe
    intro qq hx1
    apply Hidden.out
    simp only [choice_lk, lock_eq] at hx1
    rcases qq with _
    all_goals (rw [hx1] at hr; dsimp only at hr; constructor; (try cbv))
    refine sel_intro (fun h => ?_) (fun h => ?_)
    · have h1 : (ieq x1 (0 : Int)) = false := by first | exact (bnot_t.1 h) | (have h2 := (bnot_t.1 h); simp only [choice_lk, lock_eq] at h2; exact h2) | (simp only [choice_lk, lock_eq] at h; exact (bnot_t.1 h))
      rw [if_neg (by rw [h1]; exact Bool.false_ne_true)] at hr
      (try cbv)
      apply Hidden.out
      have e := Option.some.inj hr
      constructor
      refine ⟨_, hF, ?_⟩
      (try cbv); (try simp only [choice_lk, lock_eq, and_self, and_true, true_and]); (try first | exact e | exact e.symm | (and_intros <;> first | assumption | rfl | exact Eq.symm (by assumption)))
    · have h1 : (ieq x1 (0 : Int)) = true := by first | exact (bnot_f.1 h) | (have h2 := (bnot_f.1 h); simp only [choice_lk, lock_eq] at h2; exact h2) | (simp only [choice_lk, lock_eq] at h; exact (bnot_f.1 h))
      rw [if_pos h1] at hr
      (try cbv)
      refine sel_intro (fun h => ?_) (fun h => ?_)
      · have h1 : (ieq (ofN n2) (0 : Int)) = true := by first | exact h | (have h2 := h; simp only [choice_lk, lock_eq] at h2; exact h2) | (simp only [choice_lk, lock_eq] at h; exact h)
        rw [if_pos h1] at hr
        (try cbv)
        apply Hidden.out
        have e := Option.some.inj hr
        constructor
        refine ⟨_, hF, ?_⟩
        (try cbv); (try simp only [choice_lk, lock_eq, and_self, and_true, true_and]); (try first | exact e | exact e.symm | (and_intros <;> first | assumption | rfl | exact Eq.symm (by assumption)))
      · have h1 : (ieq (ofN n2) (0 : Int)) = false := by first | exact h | (have h2 := h; simp only [choice_lk, lock_eq] at h2; exact h2) | (simp only [choice_lk, lock_eq] at h; exact h)
        rw [if_neg (by rw [h1]; exact Bool.false_ne_true)] at hr
        (try cbv)
        apply Hidden.out
        have e := Option.some.inj hr
        constructor
        refine ⟨_, hF, ?_⟩
        (try cbv); (try simp only [choice_lk, lock_eq, and_self, and_true, true_and]); (try first | exact e | exact e.symm | (and_intros <;> first | assumption | rfl | exact Eq.symm (by assumption)))
  · unfold con_octet_Window_End_2 at hce
    split at hce
    rotate_left
    · cases hce
    obtain rfl := Option.some.inj hce
    have hb1 := hob _ (List.mem_singleton.2 rfl)
    have hb2 := obl.1 hb1
    clear hb1 hob hce
    refine hb2.elim fun r hF => ?_
    clear hb2
    simp only [List.length_cons, List.length_nil, Nat.zero_add, Nat.reduceAdd] at hk
    have hr : F_octet_Window_End_3 = some r := by rw [lock_eq] at hF; exact hF
    unfold F_octet_Window_End_3 at hr
    constructor
    (try cbv)
    have hqe : ∃ qq, F_octet_Window_Err_3 = some qq := by
      cases hq : F_octet_Window_Err_3 with
      | none => rw [hq] at hr; cases hr
      | some qq => exact ⟨qq, rfl⟩
    refine ⟨obl.2 (by simp only [choice_lk, lock_eq]; exact hqe), (by rintro (_) _ <;> cbv), ?_⟩
    clear hqe
    intro qq hx1
    apply Hidden.out
    simp only [choice_lk, lock_eq] at hx1
    rcases qq with _
    all_goals (rw [hx1] at hr; dsimp only at hr; constructor; (try cbv))
    refine sel_intro (fun h => ?_) (fun h => ?_)
    · have h1 : (ieq (1 : Int) (0 : Int)) = false := by first | exact (bnot_t.1 h) | (have h2 := (bnot_t.1 h); simp only [choice_lk, lock_eq] at h2; exact h2) | (simp only [choice_lk, lock_eq] at h; exact (bnot_t.1 h))
      rw [if_neg (by rw [h1]; exact Bool.false_ne_true)] at hr
      (try cbv)
      apply Hidden.out
      have e := Option.some.inj hr
      constructor
      refine ⟨_, hF, ?_⟩
      (try cbv); (try simp only [choice_lk, lock_eq, and_self, and_true, true_and]); (try first | exact e | exact e.symm | (and_intros <;> first | assumption | rfl | exact Eq.symm (by assumption)))
    · have h1 : (ieq (1 : Int) (0 : Int)) = true := by first | exact (bnot_f.1 h) | (have h2 := (bnot_f.1 h); simp only [choice_lk, lock_eq] at h2; exact h2) | (simp only [choice_lk, lock_eq] at h; exact (bnot_f.1 h))
      rw [if_pos h1] at hr
      (try cbv)
      cases hr
end Go.Proofs.Ytolfegaldhhmkaa
end
section
/-
  The walk of (*tollbar/octet.Window).Byte (printed by a program of ours).
-/
set_option linter.unusedVariables false
set_option linter.unusedSimpArgs false
namespace Go.Proofs.Ytolfegaldhhmkaa
open Go.RowKit

noncomputable def tab_octet_Window_Byte : Nat → Option Con := look [(11, con_octet_Window_Num)]
set_option maxHeartbeats 4000000 in
set_option maxRecDepth 100000 in
theorem vc_octet_Window_Byte (P : Program) (T : Tab P tab_octet_Window_Byte) (hm : P.follows .mixedOrders = true) : FnVC P tab_octet_Window_Byte ic_9 [.t 2] 6 con_octet_Window_Byte := by
  intro cargs ccks ce hce hob C hk
  apply Hidden.out
  replace hce : altC (con_octet_Window_Byte_1 cargs ccks) (con_octet_Window_Byte_2 cargs ccks) = some ce := hce
  replace hce := altC_inv hce
  rcases hce with hce | hce
  · unfold con_octet_Window_Byte_1 at hce
    split at hce
    rotate_left
    · cases hce
    obtain rfl := Option.some.inj hce
    rename_i n1 n2 x1 s1
    have hb1 := hob _ (List.mem_singleton.2 rfl)
    have hb2 := obl.1 hb1
    clear hb1 hob hce
    refine hb2.elim fun r hF => ?_
    clear hb2
    simp only [List.length_cons, List.length_nil, Nat.zero_add, Nat.reduceAdd] at hk
    have hr : F_octet_Window_Byte n1 n2 x1 s1 = some r := by rw [lock_eq] at hF; exact hF
    unfold F_octet_Window_Byte at hr
    constructor
    (try cbv)
    have hqe : ∃ qq, F_octet_Window_Num_2 (1 : Int) n1 n2 x1 s1 = some qq := by
      cases hq : F_octet_Window_Num_2 (1 : Int) n1 n2 x1 s1 with
      | none => rw [hq] at hr; cases hr
      | some qq => exact ⟨qq, rfl⟩
    refine ⟨obl.2 (by simp only [choice_lk, lock_eq]; exact hqe), (by rintro (⟨_, _, _, _⟩) _ <;> cbv), ?_⟩
    clear hqe
    intro qq hx1
    apply Hidden.out
    simp only [choice_lk, lock_eq] at hx1
    rcases qq with ⟨y1, k1, k2, y2⟩
    all_goals (rw [hx1] at hr; dsimp only at hr; constructor; (try cbv))
    apply Hidden.out
    have e := Option.some.inj hr
    obtain ⟨u0, u1, u2, u3⟩ := r
    simp only [Prod.mk.injEq] at e
    obtain ⟨e0, e1, e2, e3⟩ := e
    constructor
    refine ⟨_, hF, ?_⟩
    (try cbv); (try simp only [choice_lk, lock_eq, and_self, and_true, true_and]); (try first | exact e | exact e.symm | (and_intros <;> first | assumption | rfl | exact Eq.symm (by assumption)))
  · unfold con_octet_Window_Byte_2 at hce
    split at hce
    rotate_left
    · cases hce
    obtain rfl := Option.some.inj hce
    have hb1 := hob _ (List.mem_singleton.2 rfl)
    have hb2 := obl.1 hb1
    clear hb1 hob hce
    refine hb2.elim fun r hF => ?_
    clear hb2
    simp only [List.length_cons, List.length_nil, Nat.zero_add, Nat.reduceAdd] at hk
    have hr : F_octet_Window_Byte_3 = some r := by rw [lock_eq] at hF; exact hF
    unfold F_octet_Window_Byte_3 at hr
    constructor
    (try cbv)
    have hqe : ∃ qq, F_octet_Window_Num_3 (1 : Int) = some qq := by
      cases hq : F_octet_Window_Num_3 (1 : Int) with
      | none => rw [hq] at hr; cases hr
      | some qq => exact ⟨qq, rfl⟩
    refine ⟨obl.2 (by simp only [choice_lk, lock_eq]; exact hqe), (by rintro (_) _ <;> cbv), ?_⟩
    clear hqe
    intro qq hx1
    apply Hidden.out
    simp only [choice_lk, lock_eq] at hx1
    rcases qq with _
    all_goals (rw [hx1] at hr; dsimp only at hr; constructor; (try cbv))
    apply Hidden.out
    have e := Option.some.inj hr
    constructor
    refine ⟨_, hF, ?_⟩
    (try cbv); (try simp only [choice_lk, lock_eq, and_self, and_true, true_and]); (try first | exact e | exact e.symm | (and_intros <;> first | assumption | rfl | exact Eq.symm (by assumption)))
end Go.Proofs.Ytolfegaldhhmkaa
end
section
/-
  The walk of tollbar/tollbarlaw01.awake (printed by a program of ours).
-/
set_option linter.unusedVariables false
set_option linter.unusedSimpArgs false
namespace Go.Proofs.Ytolfegaldhhmkaa
open Go.RowKit

noncomputable def tab_tollbarlaw01_awake : Nat → Option Con := look [(8, con_octet_Open), (14, con_octet_Window_Sub), (23, con_octet_Value), (22, con_octet_Least), (20, con_octet_Big), (11, con_octet_Window_Num), (16, con_octet_Window_Left), (18, con_octet_Window_End), (9, con_octet_Window_Byte), (17, con_octet_Window_Err)]
set_option maxHeartbeats 4000000 in
set_option maxRecDepth 100000 in
theorem vc_tollbarlaw01_awake (P : Program) (T : Tab P tab_tollbarlaw01_awake) (hm : P.follows .mixedOrders = true) : FnVC P tab_tollbarlaw01_awake ic_7 [.t 0] 71 con_tollbarlaw01_awake := by
  intro cargs ccks ce hce hob C hk
  apply Hidden.out
  replace hce : con_tollbarlaw01_awake_1 cargs ccks = some ce := hce
  · unfold con_tollbarlaw01_awake_1 at hce
    split at hce
    rotate_left
    · cases hce
    obtain rfl := Option.some.inj hce
    have hb1 := hob _ (List.mem_singleton.2 rfl)
    have hb2 := obl.1 hb1
    clear hb1 hob hce
    refine hb2.elim fun r hF => ?_
    clear hb2
    simp only [List.length_cons, List.length_nil, Nat.zero_add, Nat.reduceAdd] at hk
    have hr : F_tollbarlaw01_awake = some r := by rw [lock_eq] at hF; exact hF
    unfold F_tollbarlaw01_awake at hr
    constructor
    (try cbv)
    have gg := guard_inv hr
    have g := gg.1
    replace hr := gg.2
    clear gg
    refine ⟨obl.2 (by first | (simp only [choice_lk, lock_eq, R.len, R.sub]; exact g) | exact g), ?_⟩
    have gg := guard_inv hr
    have g := gg.1
    replace hr := gg.2
    clear gg
    refine ⟨obl.2 (by first | (simp only [choice_lk, lock_eq, R.len, R.sub]; exact g) | exact g), ?_⟩
    have gg := guard_inv hr
    have g := gg.1
    replace hr := gg.2
    clear gg
    refine ⟨obl.2 (by first | (simp only [choice_lk, lock_eq, R.len, R.sub]; exact g) | exact g), ?_⟩
    have hqe : ∃ qq, F_octet_Open (byteOf (1 : Int) :: (byteOf (2 : Int) :: (byteOf (3 : Int) :: ([] : List UInt8)))) = some qq := by
      cases hq : F_octet_Open (byteOf (1 : Int) :: (byteOf (2 : Int) :: (byteOf (3 : Int) :: ([] : List UInt8)))) with
      | none => rw [hq] at hr; cases hr
      | some qq => exact ⟨qq, rfl⟩
    refine ⟨obl.2 (by simp only [choice_lk, lock_eq]; exact hqe), (by rintro (_) _ <;> cbv), ?_⟩
    clear hqe
    intro t1 hx1
    apply Hidden.out
    simp only [choice_lk, lock_eq] at hx1
    all_goals (rw [hx1] at hr; dsimp only at hr; constructor; (try cbv))
    have hqe : ∃ qq, F_octet_Window_Sub (2 : Int) (0 : Int) t1 = some qq := by
      cases hq : F_octet_Window_Sub (2 : Int) (0 : Int) t1 with
      | none => rw [hq] at hr; cases hr
      | some qq => exact ⟨qq, rfl⟩
    refine ⟨obl.2 (by simp only [choice_lk, lock_eq]; exact hqe), (by rintro (⟨_, _, _, _, _⟩) _ <;> cbv), ?_⟩
    clear hqe
    intro qq hx2
    apply Hidden.out
    simp only [choice_lk, lock_eq] at hx2
    rcases qq with ⟨k1, k2, y1, y2, t2⟩
    all_goals (rw [hx2] at hr; dsimp only at hr; constructor; (try cbv))
    have gg := guard_inv hr
    have g := gg.1
    replace hr := gg.2
    clear gg
    refine ⟨obl.2 (by first | (simp only [choice_lk, lock_eq, R.len, R.sub]; exact g) | exact g), ?_⟩
    have gg := guard_inv hr
    have g := gg.1
    replace hr := gg.2
    clear gg
    refine ⟨obl.2 (by first | (simp only [choice_lk, lock_eq, R.len, R.sub]; exact g) | exact g), ?_⟩
    have hqe : ∃ qq, F_octet_Value (byteOf (1 : Int) :: (byteOf (0 : Int) :: ([] : List UInt8))) = some qq := by
      cases hq : F_octet_Value (byteOf (1 : Int) :: (byteOf (0 : Int) :: ([] : List UInt8))) with
      | none => rw [hq] at hr; cases hr
      | some qq => exact ⟨qq, rfl⟩
    refine ⟨obl.2 (by simp only [choice_lk, lock_eq]; exact hqe), (by rintro (⟨_, _⟩) _ <;> cbv), ?_⟩
    clear hqe
    intro qq hx3
    apply Hidden.out
    simp only [choice_lk, lock_eq] at hx3
    rcases qq with ⟨y3, c1⟩
    all_goals (rw [hx3] at hr; dsimp only at hr; constructor; (try cbv))
    have hqe : ∃ qq, F_octet_Least (256 : Int) = some qq := by
      cases hq : F_octet_Least (256 : Int) with
      | none => rw [hq] at hr; cases hr
      | some qq => exact ⟨qq, rfl⟩
    refine ⟨obl.2 (by simp only [choice_lk, lock_eq]; exact hqe), (by rintro (_) _ <;> cbv), ?_⟩
    clear hqe
    intro t3 hx4
    apply Hidden.out
    simp only [choice_lk, lock_eq] at hx4
    all_goals (rw [hx4] at hr; dsimp only at hr; constructor; (try cbv))
    refine sel_intro (fun h => ?_) (fun h => ?_)
    · have h1 : (seq t3 ([1, 0] : List UInt8)) = true := by first | exact h | (have h2 := h; simp only [choice_lk, lock_eq] at h2; exact h2) | (simp only [choice_lk, lock_eq] at h; exact h)
      rw [if_pos h1] at hr
      (try cbv)
      have hqe : ∃ qq, F_octet_Least (0 : Int) = some qq := by
        cases hq : F_octet_Least (0 : Int) with
        | none => rw [hq] at hr; cases hr
        | some qq => exact ⟨qq, rfl⟩
      refine ⟨obl.2 (by simp only [choice_lk, lock_eq]; exact hqe), (by rintro (_) _ <;> cbv), ?_⟩
      clear hqe
      intro t4 hx5
      apply Hidden.out
      simp only [choice_lk, lock_eq] at hx5
      all_goals (rw [hx5] at hr; dsimp only at hr; constructor; (try cbv))
      refine sel_intro (fun h => ?_) (fun h => ?_)
      · have h1 : (ieq (ofN (xlen t4)) (0 : Int)) = true := by first | exact h | (have h2 := h; simp only [choice_lk, lock_eq] at h2; exact h2) | (simp only [choice_lk, lock_eq] at h; exact h)
        rw [if_pos h1] at hr
        (try cbv)
        have hqe : ∃ qq, F_octet_Big (5 : Int) (2 : Int) = some qq := by
          cases hq : F_octet_Big (5 : Int) (2 : Int) with
          | none => rw [hq] at hr; cases hr
          | some qq => exact ⟨qq, rfl⟩
        refine ⟨obl.2 (by simp only [choice_lk, lock_eq]; exact hqe), (by rintro (_) _ <;> cbv), ?_⟩
        clear hqe
        intro t5 hx6
        apply Hidden.out
        simp only [choice_lk, lock_eq] at hx6
        all_goals (rw [hx6] at hr; dsimp only at hr; constructor; (try cbv))
        refine sel_intro (fun h => ?_) (fun h => ?_)
        · have h1 : (seq t5 ([0, 5] : List UInt8)) = true := by first | exact h | (have h2 := h; simp only [choice_lk, lock_eq] at h2; exact h2) | (simp only [choice_lk, lock_eq] at h; exact h)
          rw [if_pos h1] at hr
          (try cbv)
          refine sel_intro (fun h => ?_) (fun h => ?_)
          · have h1 : (ieq y3 (256 : Int)) = true := by first | exact h | (have h2 := h; simp only [choice_lk, lock_eq] at h2; exact h2) | (simp only [choice_lk, lock_eq] at h; exact h)
            rw [if_pos h1] at hr
            (try cbv)
            refine sel_intro (fun h => ?_) (fun h => ?_)
            · have h1 : c1 = true := by first | exact h | (have h2 := h; simp only [choice_lk, lock_eq] at h2; exact h2) | (simp only [choice_lk, lock_eq] at h; exact h)
              rw [if_pos h1] at hr
              (try cbv)
              have hqe : ∃ qq, F_octet_Window_Num (2 : Int) y2 t2 = some qq := by
                cases hq : F_octet_Window_Num (2 : Int) y2 t2 with
                | none => rw [hq] at hr; cases hr
                | some qq => exact ⟨qq, rfl⟩
              refine ⟨obl.2 (by simp only [choice_lk, lock_eq]; exact hqe), (by rintro (⟨_, _, _, _⟩) _ <;> cbv), ?_⟩
              clear hqe
              intro qq hx7
              apply Hidden.out
              simp only [choice_lk, lock_eq] at hx7
              rcases qq with ⟨y4, k3, k4, y5⟩
              all_goals (rw [hx7] at hr; dsimp only at hr; constructor; (try cbv))
              refine sel_intro (fun h => ?_) (fun h => ?_)
              · have h1 : (ieq y4 (258 : Int)) = true := by first | exact h | (have h2 := h; simp only [choice_lk, lock_eq] at h2; exact h2) | (simp only [choice_lk, lock_eq] at h; exact h)
                rw [if_pos h1] at hr
                (try cbv)
                have hqe : ∃ qq, F_octet_Window_Left k1 k2 y1 t1 = some qq := by
                  cases hq : F_octet_Window_Left k1 k2 y1 t1 with
                  | none => rw [hq] at hr; cases hr
                  | some qq => exact ⟨qq, rfl⟩
                refine ⟨obl.2 (by simp only [choice_lk, lock_eq]; exact hqe), (by rintro (_) _ <;> cbv), ?_⟩
                clear hqe
                intro y6 hx8
                apply Hidden.out
                simp only [choice_lk, lock_eq] at hx8
                all_goals (rw [hx8] at hr; dsimp only at hr; constructor; (try cbv))
                refine sel_intro (fun h => ?_) (fun h => ?_)
                · have h1 : (ieq y6 (1 : Int)) = true := by first | exact h | (have h2 := h; simp only [choice_lk, lock_eq] at h2; exact h2) | (simp only [choice_lk, lock_eq] at h; exact h)
                  rw [if_pos h1] at hr
                  (try cbv)
                  have hqe : ∃ qq, F_octet_Window_End k1 k2 y1 t1 = some qq := by
                    cases hq : F_octet_Window_End k1 k2 y1 t1 with
                    | none => rw [hq] at hr; cases hr
                    | some qq => exact ⟨qq, rfl⟩
                  refine ⟨obl.2 (by simp only [choice_lk, lock_eq]; exact hqe), (by rintro (_) _ <;> cbv), ?_⟩
                  clear hqe
                  intro y7 hx9
                  apply Hidden.out
                  simp only [choice_lk, lock_eq] at hx9
                  all_goals (rw [hx9] at hr; dsimp only at hr; constructor; (try cbv))
                  refine sel_intro (fun h => ?_) (fun h => ?_)
                  · have h1 : (ieq y7 (11 : Int)) = true := by first | exact h | (have h2 := h; simp only [choice_lk, lock_eq] at h2; exact h2) | (simp only [choice_lk, lock_eq] at h; exact h)
                    rw [if_pos h1] at hr
                    (try cbv)
                    have hqe : ∃ qq, F_octet_Window_Byte k1 k2 y1 t1 = some qq := by
                      cases hq : F_octet_Window_Byte k1 k2 y1 t1 with
                      | none => rw [hq] at hr; cases hr
                      | some qq => exact ⟨qq, rfl⟩
                    refine ⟨obl.2 (by simp only [choice_lk, lock_eq]; exact hqe), (by rintro (⟨_, _, _, _⟩) _ <;> cbv), ?_⟩
                    clear hqe
                    intro qq hx10
                    apply Hidden.out
                    simp only [choice_lk, lock_eq] at hx10
                    rcases qq with ⟨y8, k5, k6, y9⟩
                    all_goals (rw [hx10] at hr; dsimp only at hr; constructor; (try cbv))
                    refine sel_intro (fun h => ?_) (fun h => ?_)
                    · have h1 : (ieq y8 (3 : Int)) = true := by first | exact h | (have h2 := h; simp only [choice_lk, lock_eq] at h2; exact h2) | (simp only [choice_lk, lock_eq] at h; exact h)
                      rw [if_pos h1] at hr
                      (try cbv)
                      have hqe : ∃ qq, F_octet_Window_End k5 k6 y9 t1 = some qq := by
                        cases hq : F_octet_Window_End k5 k6 y9 t1 with
                        | none => rw [hq] at hr; cases hr
                        | some qq => exact ⟨qq, rfl⟩
                      refine ⟨obl.2 (by simp only [choice_lk, lock_eq]; exact hqe), (by rintro (_) _ <;> cbv), ?_⟩
                      clear hqe
                      intro y10 hx11
                      apply Hidden.out
                      simp only [choice_lk, lock_eq] at hx11
                      all_goals (rw [hx11] at hr; dsimp only at hr; constructor; (try cbv))
                      refine sel_intro (fun h => ?_) (fun h => ?_)
                      · have h1 : (ieq y10 (0 : Int)) = true := by first | exact h | (have h2 := h; simp only [choice_lk, lock_eq] at h2; exact h2) | (simp only [choice_lk, lock_eq] at h; exact h)
                        rw [if_pos h1] at hr
                        (try cbv)
                        have hqe : ∃ qq, F_octet_Window_Byte k5 k6 y9 t1 = some qq := by
                          cases hq : F_octet_Window_Byte k5 k6 y9 t1 with
                          | none => rw [hq] at hr; cases hr
                          | some qq => exact ⟨qq, rfl⟩
                        refine ⟨obl.2 (by simp only [choice_lk, lock_eq]; exact hqe), (by rintro (⟨_, _, _, _⟩) _ <;> cbv), ?_⟩
                        clear hqe
                        intro qq hx12
                        apply Hidden.out
                        simp only [choice_lk, lock_eq] at hx12
                        rcases qq with ⟨y11, k7, k8, y12⟩
                        all_goals (rw [hx12] at hr; dsimp only at hr; constructor; (try cbv))
                        refine sel_intro (fun h => ?_) (fun h => ?_)
                        · have h1 : (ieq y11 (0 : Int)) = true := by first | exact h | (have h2 := h; simp only [choice_lk, lock_eq] at h2; exact h2) | (simp only [choice_lk, lock_eq] at h; exact h)
                          rw [if_pos h1] at hr
                          (try cbv)
                          have hqe : ∃ qq, F_octet_Window_Err k7 k8 y12 t1 = some qq := by
                            cases hq : F_octet_Window_Err k7 k8 y12 t1 with
                            | none => rw [hq] at hr; cases hr
                            | some qq => exact ⟨qq, rfl⟩
                          refine ⟨obl.2 (by simp only [choice_lk, lock_eq]; exact hqe), (by rintro (_) _ <;> cbv), ?_⟩
                          clear hqe
                          intro qq hx13
                          apply Hidden.out
                          simp only [choice_lk, lock_eq] at hx13
                          rcases qq with _
                          all_goals (rw [hx13] at hr; dsimp only at hr; constructor; (try cbv))
                          apply Hidden.out
                          have e := Option.some.inj hr
                          constructor
                          refine ⟨_, hF, ?_⟩
                          (try cbv); (try simp only [choice_lk, lock_eq, and_self, and_true, true_and]); (try first | exact e | exact e.symm | (and_intros <;> first | assumption | rfl | exact Eq.symm (by assumption)))
                        · have h1 : (ieq y11 (0 : Int)) = false := by first | exact h | (have h2 := h; simp only [choice_lk, lock_eq] at h2; exact h2) | (simp only [choice_lk, lock_eq] at h; exact h)
                          rw [if_neg (by rw [h1]; exact Bool.false_ne_true)] at hr
                          (try cbv)
                          apply Hidden.out
                          have e := Option.some.inj hr
                          constructor
                          refine ⟨_, hF, ?_⟩
                          (try cbv); (try simp only [choice_lk, lock_eq, and_self, and_true, true_and]); (try first | exact e | exact e.symm | (and_intros <;> first | assumption | rfl | exact Eq.symm (by assumption)))
                      · have h1 : (ieq y10 (0 : Int)) = false := by first | exact h | (have h2 := h; simp only [choice_lk, lock_eq] at h2; exact h2) | (simp only [choice_lk, lock_eq] at h; exact h)
                        rw [if_neg (by rw [h1]; exact Bool.false_ne_true)] at hr
                        (try cbv)
                        apply Hidden.out
                        have e := Option.some.inj hr
                        constructor
                        refine ⟨_, hF, ?_⟩
                        (try cbv); (try simp only [choice_lk, lock_eq, and_self, and_true, true_and]); (try first | exact e | exact e.symm | (and_intros <;> first | assumption | rfl | exact Eq.symm (by assumption)))
                    · have h1 : (ieq y8 (3 : Int)) = false := by first | exact h | (have h2 := h; simp only [choice_lk, lock_eq] at h2; exact h2) | (simp only [choice_lk, lock_eq] at h; exact h)
                      rw [if_neg (by rw [h1]; exact Bool.false_ne_true)] at hr
                      (try cbv)
                      apply Hidden.out
                      have e := Option.some.inj hr
                      constructor
                      refine ⟨_, hF, ?_⟩
                      (try cbv); (try simp only [choice_lk, lock_eq, and_self, and_true, true_and]); (try first | exact e | exact e.symm | (and_intros <;> first | assumption | rfl | exact Eq.symm (by assumption)))
                  · have h1 : (ieq y7 (11 : Int)) = false := by first | exact h | (have h2 := h; simp only [choice_lk, lock_eq] at h2; exact h2) | (simp only [choice_lk, lock_eq] at h; exact h)
                    rw [if_neg (by rw [h1]; exact Bool.false_ne_true)] at hr
                    (try cbv)
                    apply Hidden.out
                    have e := Option.some.inj hr
                    constructor
                    refine ⟨_, hF, ?_⟩
                    (try cbv); (try simp only [choice_lk, lock_eq, and_self, and_true, true_and]); (try first | exact e | exact e.symm | (and_intros <;> first | assumption | rfl | exact Eq.symm (by assumption)))
                · have h1 : (ieq y6 (1 : Int)) = false := by first | exact h | (have h2 := h; simp only [choice_lk, lock_eq] at h2; exact h2) | (simp only [choice_lk, lock_eq] at h; exact h)
                  rw [if_neg (by rw [h1]; exact Bool.false_ne_true)] at hr
                  (try cbv)
                  apply Hidden.out
                  have e := Option.some.inj hr
                  constructor
                  refine ⟨_, hF, ?_⟩
                  (try cbv); (try simp only [choice_lk, lock_eq, and_self, and_true, true_and]); (try first | exact e | exact e.symm | (and_intros <;> first | assumption | rfl | exact Eq.symm (by assumption)))
              · have h1 : (ieq y4 (258 : Int)) = false := by first | exact h | (have h2 := h; simp only [choice_lk, lock_eq] at h2; exact h2) | (simp only [choice_lk, lock_eq] at h; exact h)
                rw [if_neg (by rw [h1]; exact Bool.false_ne_true)] at hr
                (try cbv)
                apply Hidden.out
                have e := Option.some.inj hr
                constructor
                refine ⟨_, hF, ?_⟩
                (try cbv); (try simp only [choice_lk, lock_eq, and_self, and_true, true_and]); (try first | exact e | exact e.symm | (and_intros <;> first | assumption | rfl | exact Eq.symm (by assumption)))
            · have h1 : c1 = false := by first | exact h | (have h2 := h; simp only [choice_lk, lock_eq] at h2; exact h2) | (simp only [choice_lk, lock_eq] at h; exact h)
              rw [if_neg (by rw [h1]; exact Bool.false_ne_true)] at hr
              (try cbv)
              apply Hidden.out
              have e := Option.some.inj hr
              constructor
              refine ⟨_, hF, ?_⟩
              (try cbv); (try simp only [choice_lk, lock_eq, and_self, and_true, true_and]); (try first | exact e | exact e.symm | (and_intros <;> first | assumption | rfl | exact Eq.symm (by assumption)))
          · have h1 : (ieq y3 (256 : Int)) = false := by first | exact h | (have h2 := h; simp only [choice_lk, lock_eq] at h2; exact h2) | (simp only [choice_lk, lock_eq] at h; exact h)
            rw [if_neg (by rw [h1]; exact Bool.false_ne_true)] at hr
            (try cbv)
            apply Hidden.out
            have e := Option.some.inj hr
            constructor
            refine ⟨_, hF, ?_⟩
            (try cbv); (try simp only [choice_lk, lock_eq, and_self, and_true, true_and]); (try first | exact e | exact e.symm | (and_intros <;> first | assumption | rfl | exact Eq.symm (by assumption)))
        · have h1 : (seq t5 ([0, 5] : List UInt8)) = false := by first | exact h | (have h2 := h; simp only [choice_lk, lock_eq] at h2; exact h2) | (simp only [choice_lk, lock_eq] at h; exact h)
          rw [if_neg (by rw [h1]; exact Bool.false_ne_true)] at hr
          (try cbv)
          apply Hidden.out
          have e := Option.some.inj hr
          constructor
          refine ⟨_, hF, ?_⟩
          (try cbv); (try simp only [choice_lk, lock_eq, and_self, and_true, true_and]); (try first | exact e | exact e.symm | (and_intros <;> first | assumption | rfl | exact Eq.symm (by assumption)))
      · have h1 : (ieq (ofN (xlen t4)) (0 : Int)) = false := by first | exact h | (have h2 := h; simp only [choice_lk, lock_eq] at h2; exact h2) | (simp only [choice_lk, lock_eq] at h; exact h)
        rw [if_neg (by rw [h1]; exact Bool.false_ne_true)] at hr
        (try cbv)
        apply Hidden.out
        have e := Option.some.inj hr
        constructor
        refine ⟨_, hF, ?_⟩
        (try cbv); (try simp only [choice_lk, lock_eq, and_self, and_true, true_and]); (try first | exact e | exact e.symm | (and_intros <;> first | assumption | rfl | exact Eq.symm (by assumption)))
    · have h1 : (seq t3 ([1, 0] : List UInt8)) = false := by first | exact h | (have h2 := h; simp only [choice_lk, lock_eq] at h2; exact h2) | (simp only [choice_lk, lock_eq] at h; exact h)
      rw [if_neg (by rw [h1]; exact Bool.false_ne_true)] at hr
      (try cbv)
      apply Hidden.out
      have e := Option.some.inj hr
      constructor
      refine ⟨_, hF, ?_⟩
      (try cbv); (try simp only [choice_lk, lock_eq, and_self, and_true, true_and]); (try first | exact e | exact e.symm | (and_intros <;> first | assumption | rfl | exact Eq.symm (by assumption)))
end Go.Proofs.Ytolfegaldhhmkaa
end
section
/-
  The walk of tollbar/tollbarlaw01.power (printed by a program of ours).
-/
set_option linter.unusedVariables false
set_option linter.unusedSimpArgs false
namespace Go.Proofs.Ytolfegaldhhmkaa
open Go.RowKit

noncomputable def tab_tollbarlaw01_power : Nat → Option Con := look []
set_option maxHeartbeats 4000000 in
set_option maxRecDepth 100000 in
theorem vc_tollbarlaw01_power (P : Program) (T : Tab P tab_tollbarlaw01_power) (hm : P.follows .mixedOrders = true) : FnVC P tab_tollbarlaw01_power ic_21 [.t 2] 13 con_tollbarlaw01_power := by
  intro cargs ccks ce hce hob C hk
  apply Hidden.out
  replace hce : con_tollbarlaw01_power_1 cargs ccks = some ce := hce
  · unfold con_tollbarlaw01_power_1 at hce
    split at hce
    rotate_left
    · cases hce
    obtain rfl := Option.some.inj hce
    rename_i x1
    have hb1 := hob _ (List.mem_singleton.2 rfl)
    have hb2 := obl.1 hb1
    clear hb1 hob hce
    refine hb2.elim fun r hF => ?_
    clear hb2
    simp only [List.length_cons, List.length_nil, Nat.zero_add, Nat.reduceAdd] at hk
    have hr : F_tollbarlaw01_power x1 = some r := by rw [lock_eq] at hF; exact hF
    unfold F_tollbarlaw01_power at hr
    constructor
    (try cbv)
    refine LoopOK.iter T (drawOK T hm) (B := (F_tollbarlaw01_power_L1 x1)) hr (fun | (i1, i2) => ⟨mkFr [(0, (.v (.int .i64 x1))), (3, (.v (.int .u64 i1))), (4, (.v (.int .i64 i2)))] 13 0, [], 0⟩) ?_ ?_
    · rintro ⟨u0, u1⟩ e
      simp only [Prod.mk.injEq] at e
      obtain ⟨e0, e1⟩ := e
      refine le_auto hk ?_
      (try cbv); (try simp only [choice_lk, lock_eq, and_self, and_true, true_and]); (try first | exact e | exact e.symm | (and_intros <;> first | assumption | rfl | exact Eq.symm (by assumption)))
    · clear hr
      intro x bb1 hr ht1
      apply Hidden.out
      obtain ⟨i1, i2⟩ := x
      constructor
      unfold F_tollbarlaw01_power_L1 at hr
      (try dsimp only at hr)
      (try cbv)
      refine sel_intro (fun h => ?_) (fun h => ?_)
      · have h1 : (ilt i2 x1) = true := by first | exact h | (have h2 := h; simp only [choice_lk, lock_eq] at h2; exact h2) | (simp only [choice_lk, lock_eq] at h; exact h)
        rw [if_pos h1] at hr
        (try cbv)
        apply Hidden.out
        obtain rfl := Option.some.inj hr
        constructor
        refine ⟨⟨_, rfl⟩, ?_⟩
        rintro ⟨u0, u1⟩ e
        replace e := Sum.inl.inj e
        simp only [Prod.mk.injEq] at e
        obtain ⟨e0, e1⟩ := e
        refine le_auto hk ?_
        (try cbv); (try simp only [choice_lk, lock_eq, and_self, and_true, true_and]); (try first | exact e | exact e.symm | (and_intros <;> first | assumption | rfl | exact Eq.symm (by assumption)))
      · have h1 : (ilt i2 x1) = false := by first | exact h | (have h2 := h; simp only [choice_lk, lock_eq] at h2; exact h2) | (simp only [choice_lk, lock_eq] at h; exact h)
        rw [if_neg (by rw [h1]; exact Bool.false_ne_true)] at hr
        (try cbv)
        apply Hidden.out
        obtain rfl := Option.some.inj hr
        have e := ht1 _ rfl
        constructor
        refine ⟨_, hF, ?_⟩
        (try cbv); (try simp only [choice_lk, lock_eq, and_self, and_true, true_and]); (try first | exact e | exact e.symm | (and_intros <;> first | assumption | rfl | exact Eq.symm (by assumption)))
end Go.Proofs.Ytolfegaldhhmkaa
end
section
/-
  The walk of tollbar/tollbarlaw01.OctetBack (printed by a program of ours).
-/
set_option linter.unusedVariables false
set_option linter.unusedSimpArgs false
namespace Go.Proofs.Ytolfegaldhhmkaa
open Go.RowKit

noncomputable def tab_tollbarlaw01_OctetBack : Nat → Option Con := look [(7, con_tollbarlaw01_awake), (20, con_octet_Big), (8, con_octet_Open), (21, con_tollbarlaw01_power), (11, con_octet_Window_Num), (18, con_octet_Window_End)]
set_option maxHeartbeats 4000000 in
set_option maxRecDepth 100000 in
theorem vc_tollbarlaw01_OctetBack (P : Program) (T : Tab P tab_tollbarlaw01_OctetBack) (hm : P.follows .mixedOrders = true) : FnVC P tab_tollbarlaw01_OctetBack ic_4 [.t 4] 116 con_tollbarlaw01_OctetBack := by
  intro cargs ccks ce hce hob C hk
  apply Hidden.out
  replace hce : con_tollbarlaw01_OctetBack_1 cargs ccks = some ce := hce
  · unfold con_tollbarlaw01_OctetBack_1 at hce
    split at hce
    rotate_left
    · cases hce
    obtain rfl := Option.some.inj hce
    rename_i l1 s1
    have hb1 := hob _ (List.mem_singleton.2 rfl)
    have hb2 := obl.1 hb1
    clear hb1 hob hce
    refine hb2.elim fun r hF => ?_
    clear hb2
    simp only [List.length_cons, List.length_nil, Nat.zero_add, Nat.reduceAdd] at hk
    have hr : F_tollbarlaw01_OctetBack l1 s1 = some r := by rw [lock_eq] at hF; exact hF
    unfold F_tollbarlaw01_OctetBack at hr
    constructor
    (try cbv)
    have hqe : ∃ qq, F_tollbarlaw01_awake = some qq := by
      cases hq : F_tollbarlaw01_awake with
      | none => rw [hq] at hr; cases hr
      | some qq => exact ⟨qq, rfl⟩
    refine ⟨obl.2 (by simp only [choice_lk, lock_eq]; exact hqe), (by rintro (_) _ <;> cbv), ?_⟩
    clear hqe
    intro c1 hx1
    apply Hidden.out
    simp only [choice_lk, lock_eq] at hx1
    all_goals (rw [hx1] at hr; dsimp only at hr; constructor; (try cbv))
    refine sel_intro (fun h => ?_) (fun h => ?_)
    · have h1 : c1 = false := by first | exact (bnot_t.1 h) | (have h2 := (bnot_t.1 h); simp only [choice_lk, lock_eq] at h2; exact h2) | (simp only [choice_lk, lock_eq] at h; exact (bnot_t.1 h))
      rw [if_neg (by rw [h1]; exact Bool.false_ne_true)] at hr
      (try cbv)
      apply Hidden.out
      have e := Option.some.inj hr
      constructor
      refine ⟨_, hF, ?_⟩
      (try cbv); (try simp only [choice_lk, lock_eq, and_self, and_true, true_and]); (try first | exact e | exact e.symm | (and_intros <;> first | assumption | rfl | exact Eq.symm (by assumption)))
    · have h1 : c1 = true := by first | exact (bnot_f.1 h) | (have h2 := (bnot_f.1 h); simp only [choice_lk, lock_eq] at h2; exact h2) | (simp only [choice_lk, lock_eq] at h; exact (bnot_f.1 h))
      rw [if_pos h1] at hr
      (try cbv)
      refine sel_intro (fun h => ?_) (fun h => ?_)
      · have h1 : (ilt (40 : Int) (ofN (xlen l1))) = true := by first | exact h | (have h2 := h; simp only [choice_lk, lock_eq] at h2; exact h2) | (simp only [choice_lk, lock_eq] at h; exact h)
        rw [if_pos h1] at hr
        (try cbv)
        apply Hidden.out
        have e := Option.some.inj hr
        constructor
        refine ⟨_, hF, ?_⟩
        (try cbv); (try simp only [choice_lk, lock_eq, and_self, and_true, true_and]); (try first | exact e | exact e.symm | (and_intros <;> first | assumption | rfl | exact Eq.symm (by assumption)))
      · have h1 : (ilt (40 : Int) (ofN (xlen l1))) = false := by first | exact h | (have h2 := h; simp only [choice_lk, lock_eq] at h2; exact h2) | (simp only [choice_lk, lock_eq] at h; exact h)
        rw [if_neg (by rw [h1]; exact Bool.false_ne_true)] at hr
        (try cbv)
        refine sel_intro (fun h => ?_) (fun h => ?_)
        · have h1 : (ilt (ofN (xlen s1)) (ofN (xlen l1))) = true := by first | exact h | (have h2 := h; simp only [choice_lk, lock_eq] at h2; exact h2) | (simp only [choice_lk, lock_eq] at h; exact h)
          rw [if_pos h1] at hr
          (try cbv)
          apply Hidden.out
          have e := Option.some.inj hr
          constructor
          refine ⟨_, hF, ?_⟩
          (try cbv); (try simp only [choice_lk, lock_eq, and_self, and_true, true_and]); (try first | exact e | exact e.symm | (and_intros <;> first | assumption | rfl | exact Eq.symm (by assumption)))
        · have h1 : (ilt (ofN (xlen s1)) (ofN (xlen l1))) = false := by first | exact h | (have h2 := h; simp only [choice_lk, lock_eq] at h2; exact h2) | (simp only [choice_lk, lock_eq] at h; exact h)
          rw [if_neg (by rw [h1]; exact Bool.false_ne_true)] at hr
          (try cbv)
          refine LoopOK.iter T (drawOK T hm) (B := (F_tollbarlaw01_OctetBack_L1 l1 s1)) hr (fun | (i1, s2) => ⟨mkFr [(0, (.rsl (.ints 33 .u64 l1))), (1, (.rsl (.bs 5 s1))), (6, (.wsl 0)), (7, (.v (.int .i64 i1)))] 116 0, [(0, .row (.bs 5 s2))], 1⟩) ?_ ?_
          · rintro ⟨u0, u1⟩ e
            simp only [Prod.mk.injEq] at e
            obtain ⟨e0, e1⟩ := e
            refine le_auto hk ?_
            (try cbv); (try simp only [choice_lk, lock_eq, and_self, and_true, true_and]); (try first | exact e | exact e.symm | (and_intros <;> first | assumption | rfl | exact Eq.symm (by assumption)))
          · clear hr
            intro x bb1 hr ht1
            apply Hidden.out
            obtain ⟨i1, s2⟩ := x
            constructor
            unfold F_tollbarlaw01_OctetBack_L1 at hr
            (try dsimp only at hr)
            (try cbv)
            refine sel_intro (fun h => ?_) (fun h => ?_)
            · have h1 : (ilt i1 (ofN (xlen l1))) = true := by first | exact h | (have h2 := h; simp only [choice_lk, lock_eq] at h2; exact h2) | (simp only [choice_lk, lock_eq] at h; exact h)
              rw [if_pos h1] at hr
              (try cbv)
              have gg := guard_inv hr
              have g := gg.1
              replace hr := gg.2
              clear gg
              refine ⟨obl.2 (by first | (simp only [choice_lk, lock_eq, R.len, R.sub]; exact g) | exact g), ?_⟩
              have gg := guard_inv hr
              have g := gg.1
              replace hr := gg.2
              clear gg
              refine ⟨obl.2 (by first | (simp only [choice_lk, lock_eq, R.len, R.sub]; exact g) | exact g), ?_⟩
              have hqe : ∃ qq, F_octet_Big (getI l1 (toN i1)) (iadd .i64 (iconv .i64 (irem (getB s1 (toN i1)) (8 : Int))) (1 : Int)) = some qq := by
                cases hq : F_octet_Big (getI l1 (toN i1)) (iadd .i64 (iconv .i64 (irem (getB s1 (toN i1)) (8 : Int))) (1 : Int)) with
                | none => rw [hq] at hr; cases hr
                | some qq => exact ⟨qq, rfl⟩
              refine ⟨(by simp only [choice_lk, lock_eq]; exact hqe), obl.2 (by simp only [choice_lk, lock_eq]; exact hqe), (by rintro (_) _ <;> cbv), ?_⟩
              clear hqe
              intro t4 hx5
              apply Hidden.out
              simp only [choice_lk, lock_eq] at hx5
              all_goals (rw [hx5] at hr; dsimp only at hr; constructor; (try cbv))
              have gg := guard_inv hr
              have g := gg.1
              replace hr := gg.2
              clear gg
              refine ⟨obl.2 (by first | (simp only [choice_lk, lock_eq, R.len, R.sub]; exact g) | exact g), ?_⟩
              apply Hidden.out
              obtain rfl := Option.some.inj hr
              constructor
              refine ⟨⟨_, rfl⟩, ?_⟩
              rintro ⟨u0, u1⟩ e
              replace e := Sum.inl.inj e
              simp only [Prod.mk.injEq] at e
              obtain ⟨e0, e1⟩ := e
              refine le_auto hk ?_
              (try cbv); (try simp only [choice_lk, lock_eq, and_self, and_true, true_and]); (try first | exact e | exact e.symm | (and_intros <;> first | assumption | rfl | exact Eq.symm (by assumption)))
            · have h1 : (ilt i1 (ofN (xlen l1))) = false := by first | exact h | (have h2 := h; simp only [choice_lk, lock_eq] at h2; exact h2) | (simp only [choice_lk, lock_eq] at h; exact h)
              rw [if_neg (by rw [h1]; exact Bool.false_ne_true)] at hr
              (try cbv)
              have hqe : ∃ qq, F_octet_Open s2 = some qq := by
                cases hq : F_octet_Open s2 with
                | none => rw [hq] at hr; cases hr
                | some qq => exact ⟨qq, rfl⟩
              refine ⟨obl.2 (by simp only [choice_lk, lock_eq]; exact hqe), (by rintro (_) _ <;> cbv), ?_⟩
              clear hqe
              intro t5 hx6
              apply Hidden.out
              simp only [choice_lk, lock_eq] at hx6
              all_goals (rw [hx6] at hr; dsimp only at hr; constructor; (try cbv))
              apply Hidden.out
              obtain ⟨t, hr2, hw⟩ := map_inv hr
              clear hr
              subst hw
              have e := (ht1 _ rfl).symm
              subst e
              have hr := hr2
              clear hr2
              constructor
              refine LoopOK.iter T (drawOK T hm) (B := (F_tollbarlaw01_OctetBack_L2 l1 s1 t5 s2)) hr (fun | (i6, n1, n2, i7) => ⟨mkFr [(0, (.rsl (.ints 33 .u64 l1))), (1, (.rsl (.bs 5 s1))), (6, (.wsl 0)), (8, (.ptr 1 0)), (9, (.v (.int .i64 i6)))] 116 0, [(0, .row (.bs 5 s2)), (1, .blk 54 [(.sl 2 n1 n2), (.v (.int .i64 i7))]), (2, .row (.bs 5 t5))], 3⟩) ?_ ?_
              · rintro ⟨u0, u1, u2, u3⟩ e
                simp only [Prod.mk.injEq] at e
                obtain ⟨e0, e1, e2, e3⟩ := e
                refine le_auto hk ?_
                (try cbv); (try simp only [choice_lk, lock_eq, and_self, and_true, true_and]); (try first | exact e | exact e.symm | (and_intros <;> first | assumption | rfl | exact Eq.symm (by assumption)))
              · clear hr
                intro x bb1 hr ht1
                apply Hidden.out
                obtain ⟨i6, n1, n2, i7⟩ := x
                constructor
                unfold F_tollbarlaw01_OctetBack_L2 at hr
                (try dsimp only at hr)
                (try cbv)
                refine sel_intro (fun h => ?_) (fun h => ?_)
                · have h1 : (ilt i6 (ofN (xlen l1))) = true := by first | exact h | (have h2 := h; simp only [choice_lk, lock_eq] at h2; exact h2) | (simp only [choice_lk, lock_eq] at h; exact h)
                  rw [if_pos h1] at hr
                  (try cbv)
                  have gg := guard_inv hr
                  have g := gg.1
                  replace hr := gg.2
                  clear gg
                  refine ⟨obl.2 (by first | (simp only [choice_lk, lock_eq, R.len, R.sub]; exact g) | exact g), ?_⟩
                  have gg := guard_inv hr
                  have g := gg.1
                  replace hr := gg.2
                  clear gg
                  refine ⟨obl.2 (by first | (simp only [choice_lk, lock_eq, R.len, R.sub]; exact g) | exact g), ?_⟩
                  refine LoopOK.iter T (drawOK T hm) (B := (F_tollbarlaw01_OctetBack_L3 s1 i6 n1 n2 i7 t5)) hr (fun | (i10, i11) => ⟨mkFr [(0, (.rsl (.ints 33 .u64 l1))), (1, (.rsl (.bs 5 s1))), (6, (.wsl 0)), (8, (.ptr 1 0)), (9, (.v (.int .i64 i6))), (10, (.v (.int .i64 (lock iadd .i64 (lock iconv .i64 (lock irem (lock getB s1 (lock toN i6)) (8 : Int))) (1 : Int))))), (11, (.v (.int .u64 i10))), (12, (.v (.int .i64 i11)))] 116 0, [(0, .row (.bs 5 s2)), (1, .blk 54 [(.sl 2 n1 n2), (.v (.int .i64 i7))]), (2, .row (.bs 5 t5))], 3⟩) ?_ ?_
                  · rintro ⟨u0, u1⟩ e
                    simp only [Prod.mk.injEq] at e
                    obtain ⟨e0, e1⟩ := e
                    refine le_auto hk ?_
                    (try cbv); (try simp only [choice_lk, lock_eq, and_self, and_true, true_and]); (try first | exact e | exact e.symm | (and_intros <;> first | assumption | rfl | exact Eq.symm (by assumption)))
                  · clear hr
                    intro x bb2 hr ht2
                    apply Hidden.out
                    obtain ⟨i10, i11⟩ := x
                    constructor
                    unfold F_tollbarlaw01_OctetBack_L3 at hr
                    (try dsimp only at hr)
                    (try cbv)
                    refine sel_intro (fun h => ?_) (fun h => ?_)
                    · have h1 : (ile (iadd .i64 (iconv .i64 (irem (getB s1 (toN i6)) (8 : Int))) (1 : Int)) i11) = true := by first | exact h | (have h2 := h; simp only [choice_lk, lock_eq] at h2; exact h2) | (simp only [choice_lk, lock_eq] at h; exact h)
                      rw [if_pos h1] at hr
                      (try cbv)
                      have hqe : ∃ qq, F_tollbarlaw01_power i11 = some qq := by
                        cases hq : F_tollbarlaw01_power i11 with
                        | none => rw [hq] at hr; cases hr
                        | some qq => exact ⟨qq, rfl⟩
                      refine ⟨obl.2 (by simp only [choice_lk, lock_eq]; exact hqe), (by rintro (_) _ <;> cbv), ?_⟩
                      clear hqe
                      intro y18 hx21
                      apply Hidden.out
                      simp only [choice_lk, lock_eq] at hx21
                      all_goals (rw [hx21] at hr; dsimp only at hr; constructor; (try cbv))
                      have gg := guard_inv hr
                      have g := gg.1
                      replace hr := gg.2
                      clear gg
                      refine ⟨by first | (simp only [choice_lk, lock_eq]; exact g) | exact g, ?_⟩
                      apply Hidden.out
                      obtain rfl := Option.some.inj hr
                      constructor
                      refine ⟨⟨_, rfl⟩, ?_⟩
                      rintro ⟨u0, u1⟩ e
                      replace e := Sum.inl.inj e
                      simp only [Prod.mk.injEq] at e
                      obtain ⟨e0, e1⟩ := e
                      refine le_auto hk ?_
                      (try cbv); (try simp only [choice_lk, lock_eq, and_self, and_true, true_and]); (try first | exact e | exact e.symm | (and_intros <;> first | assumption | rfl | exact Eq.symm (by assumption)))
                    · have h1 : (ile (iadd .i64 (iconv .i64 (irem (getB s1 (toN i6)) (8 : Int))) (1 : Int)) i11) = false := by first | exact h | (have h2 := h; simp only [choice_lk, lock_eq] at h2; exact h2) | (simp only [choice_lk, lock_eq] at h; exact h)
                      rw [if_neg (by rw [h1]; exact Bool.false_ne_true)] at hr
                      (try cbv)
                      have hqe : ∃ qq, F_octet_Window_Num_2 (iadd .i64 (iconv .i64 (irem (getB s1 (toN i6)) (8 : Int))) (1 : Int)) n1 n2 i7 t5 = some qq := by
                        cases hq : F_octet_Window_Num_2 (iadd .i64 (iconv .i64 (irem (getB s1 (toN i6)) (8 : Int))) (1 : Int)) n1 n2 i7 t5 with
                        | none => rw [hq] at hr; cases hr
                        | some qq => exact ⟨qq, rfl⟩
                      refine ⟨obl.2 (by simp only [choice_lk, lock_eq]; exact hqe), (by rintro (⟨_, _, _, _⟩) _ <;> cbv), ?_⟩
                      clear hqe
                      intro qq hx22
                      apply Hidden.out
                      simp only [choice_lk, lock_eq] at hx22
                      rcases qq with ⟨y19, k7, k8, y20⟩
                      all_goals (rw [hx22] at hr; dsimp only at hr; constructor; (try cbv))
                      refine sel_intro (fun h => ?_) (fun h => ?_)
                      · have h1 : (ieq y19 i10) = false := by first | exact (bnot_t.1 h) | (have h2 := (bnot_t.1 h); simp only [choice_lk, lock_eq] at h2; exact h2) | (simp only [choice_lk, lock_eq] at h; exact (bnot_t.1 h))
                        rw [if_neg (by rw [h1]; exact Bool.false_ne_true)] at hr
                        (try cbv)
                        apply Hidden.out
                        obtain rfl := Option.some.inj hr
                        have e := (ht2 _ rfl).symm
                        subst e
                        have e := ht1 _ rfl
                        constructor
                        refine ⟨_, hF, ?_⟩
                        (try cbv); (try simp only [choice_lk, lock_eq, and_self, and_true, true_and]); (try first | exact e | exact e.symm | (and_intros <;> first | assumption | rfl | exact Eq.symm (by assumption)))
                      · have h1 : (ieq y19 i10) = true := by first | exact (bnot_f.1 h) | (have h2 := (bnot_f.1 h); simp only [choice_lk, lock_eq] at h2; exact h2) | (simp only [choice_lk, lock_eq] at h; exact (bnot_f.1 h))
                        rw [if_pos h1] at hr
                        (try cbv)
                        apply Hidden.out
                        obtain rfl := Option.some.inj hr
                        have e := (ht2 _ rfl).symm
                        subst e
                        constructor
                        refine ⟨⟨_, rfl⟩, ?_⟩
                        rintro ⟨u0, u1, u2, u3⟩ e
                        replace e := Sum.inl.inj e
                        simp only [Prod.mk.injEq] at e
                        obtain ⟨e0, e1, e2, e3⟩ := e
                        refine le_auto hk ?_
                        (try cbv); (try simp only [choice_lk, lock_eq, and_self, and_true, true_and]); (try first | exact e | exact e.symm | (and_intros <;> first | assumption | rfl | exact Eq.symm (by assumption)))
                · have h1 : (ilt i6 (ofN (xlen l1))) = false := by first | exact h | (have h2 := h; simp only [choice_lk, lock_eq] at h2; exact h2) | (simp only [choice_lk, lock_eq] at h; exact h)
                  rw [if_neg (by rw [h1]; exact Bool.false_ne_true)] at hr
                  (try cbv)
                  have hqe : ∃ qq, F_octet_Window_End n1 n2 i7 t5 = some qq := by
                    cases hq : F_octet_Window_End n1 n2 i7 t5 with
                    | none => rw [hq] at hr; cases hr
                    | some qq => exact ⟨qq, rfl⟩
                  refine ⟨obl.2 (by simp only [choice_lk, lock_eq]; exact hqe), (by rintro (_) _ <;> cbv), ?_⟩
                  clear hqe
                  intro y21 hx23
                  apply Hidden.out
                  simp only [choice_lk, lock_eq] at hx23
                  all_goals (rw [hx23] at hr; dsimp only at hr; constructor; (try cbv))
                  refine sel_intro (fun h => ?_) (fun h => ?_)
                  · have h1 : (ieq y21 (0 : Int)) = false := by first | exact (bnot_t.1 h) | (have h2 := (bnot_t.1 h); simp only [choice_lk, lock_eq] at h2; exact h2) | (simp only [choice_lk, lock_eq] at h; exact (bnot_t.1 h))
                    rw [if_neg (by rw [h1]; exact Bool.false_ne_true)] at hr
                    (try cbv)
                    refine ⟨obl.2 (by simp only [choice_lk, lock_eq]; exact ⟨_, hx23⟩), (by rintro (_) _ <;> cbv), ?_⟩
                    intro qq hx
                    apply Hidden.out
                    simp only [choice_lk, lock_eq] at hx
                    obtain rfl := Option.some.inj (hx23.symm.trans hx)
                    constructor
                    (try cbv)
                    apply Hidden.out
                    obtain rfl := Option.some.inj hr
                    have e := ht1 _ rfl
                    constructor
                    refine ⟨_, hF, ?_⟩
                    (try cbv); (try simp only [choice_lk, lock_eq, and_self, and_true, true_and]); (try first | exact e | exact e.symm | (and_intros <;> first | assumption | rfl | exact Eq.symm (by assumption)))
                  · have h1 : (ieq y21 (0 : Int)) = true := by first | exact (bnot_f.1 h) | (have h2 := (bnot_f.1 h); simp only [choice_lk, lock_eq] at h2; exact h2) | (simp only [choice_lk, lock_eq] at h; exact (bnot_f.1 h))
                    rw [if_pos h1] at hr
                    (try cbv)
                    refine sel_intro (fun h => ?_) (fun h => ?_)
                    · have h1 : (ieq (ofN (xlen l1)) (0 : Int)) = true := by first | exact h | (have h2 := h; simp only [choice_lk, lock_eq] at h2; exact h2) | (simp only [choice_lk, lock_eq] at h; exact h)
                      rw [if_pos h1] at hr
                      (try cbv)
                      refine ⟨obl.2 (by simp only [choice_lk, lock_eq]; exact ⟨_, hx23⟩), (by rintro (_) _ <;> cbv), ?_⟩
                      intro qq hx
                      apply Hidden.out
                      simp only [choice_lk, lock_eq] at hx
                      obtain rfl := Option.some.inj (hx23.symm.trans hx)
                      constructor
                      (try cbv)
                      apply Hidden.out
                      obtain rfl := Option.some.inj hr
                      have e := ht1 _ rfl
                      constructor
                      refine ⟨_, hF, ?_⟩
                      (try cbv); (try simp only [choice_lk, lock_eq, and_self, and_true, true_and]); (try first | exact e | exact e.symm | (and_intros <;> first | assumption | rfl | exact Eq.symm (by assumption)))
                    · have h1 : (ieq (ofN (xlen l1)) (0 : Int)) = false := by first | exact h | (have h2 := h; simp only [choice_lk, lock_eq] at h2; exact h2) | (simp only [choice_lk, lock_eq] at h; exact h)
                      rw [if_neg (by rw [h1]; exact Bool.false_ne_true)] at hr
                      (try cbv)
                      have gg := guard_inv hr
                      have g := gg.1
                      replace hr := gg.2
                      clear gg
                      refine ⟨obl.2 (by first | (simp only [choice_lk, lock_eq, R.len, R.sub]; exact g) | exact g), ?_⟩
                      have hqe : ∃ qq, F_octet_Open (lsub s2 0 (toN (isub .i64 (ofN (xlen s2)) (1 : Int)))) = some qq := by
                        cases hq : F_octet_Open (lsub s2 0 (toN (isub .i64 (ofN (xlen s2)) (1 : Int)))) with
                        | none => rw [hq] at hr; cases hr
                        | some qq => exact ⟨qq, rfl⟩
                      refine ⟨obl.2 (by simp only [choice_lk, lock_eq]; exact hqe), (by rintro (_) _ <;> cbv), ?_⟩
                      clear hqe
                      intro t6 hx26
                      apply Hidden.out
                      simp only [choice_lk, lock_eq] at hx26
                      all_goals (rw [hx26] at hr; dsimp only at hr; constructor; (try cbv))
                      apply Hidden.out
                      obtain ⟨t, hr2, hw⟩ := map_inv hr
                      clear hr
                      subst hw
                      have e := (ht1 _ rfl).symm
                      subst e
                      have hr := hr2
                      clear hr2
                      constructor
                      refine LoopOK.iter T (drawOK T hm) (B := (F_tollbarlaw01_OctetBack_L4 l1 s1 t6)) hr (fun | (i12, n3, n4, i13) => ⟨mkFr [(0, (.rsl (.ints 33 .u64 l1))), (1, (.rsl (.bs 5 s1))), (13, (.ptr 0 0)), (14, (.v (.int .i64 i12)))] 116 0, [(0, .blk 54 [(.sl 1 n3 n4), (.v (.int .i64 i13))]), (1, .row (.bs 5 t6))], 2⟩) ?_ ?_
                      · rintro ⟨u0, u1, u2, u3⟩ e
                        simp only [Prod.mk.injEq] at e
                        obtain ⟨e0, e1, e2, e3⟩ := e
                        refine le_auto hk ?_
                        (try cbv); (try simp only [choice_lk, lock_eq, and_self, and_true, true_and]); (try first | exact e | exact e.symm | (and_intros <;> first | assumption | rfl | exact Eq.symm (by assumption)))
                      · clear hr
                        intro x bb1 hr ht1
                        apply Hidden.out
                        obtain ⟨i12, n3, n4, i13⟩ := x
                        constructor
                        unfold F_tollbarlaw01_OctetBack_L4 at hr
                        (try dsimp only at hr)
                        (try cbv)
                        refine sel_intro (fun h => ?_) (fun h => ?_)
                        · have h1 : (ilt i12 (ofN (xlen l1))) = true := by first | exact h | (have h2 := h; simp only [choice_lk, lock_eq] at h2; exact h2) | (simp only [choice_lk, lock_eq] at h; exact h)
                          rw [if_pos h1] at hr
                          (try cbv)
                          have gg := guard_inv hr
                          have g := gg.1
                          replace hr := gg.2
                          clear gg
                          refine ⟨obl.2 (by first | (simp only [choice_lk, lock_eq, R.len, R.sub]; exact g) | exact g), ?_⟩
                          have hqe : ∃ qq, F_octet_Window_Num_2 (iadd .i64 (iconv .i64 (irem (getB s1 (toN i12)) (8 : Int))) (1 : Int)) n3 n4 i13 t6 = some qq := by
                            cases hq : F_octet_Window_Num_2 (iadd .i64 (iconv .i64 (irem (getB s1 (toN i12)) (8 : Int))) (1 : Int)) n3 n4 i13 t6 with
                            | none => rw [hq] at hr; cases hr
                            | some qq => exact ⟨qq, rfl⟩
                          refine ⟨obl.2 (by simp only [choice_lk, lock_eq]; exact hqe), (by rintro (⟨_, _, _, _⟩) _ <;> cbv), ?_⟩
                          clear hqe
                          intro qq hx30
                          apply Hidden.out
                          simp only [choice_lk, lock_eq] at hx30
                          rcases qq with ⟨y28, k15, k16, y29⟩
                          all_goals (rw [hx30] at hr; dsimp only at hr; constructor; (try cbv))
                          apply Hidden.out
                          obtain rfl := Option.some.inj hr
                          constructor
                          refine ⟨⟨_, rfl⟩, ?_⟩
                          rintro ⟨u0, u1, u2, u3⟩ e
                          replace e := Sum.inl.inj e
                          simp only [Prod.mk.injEq] at e
                          obtain ⟨e0, e1, e2, e3⟩ := e
                          refine le_auto hk ?_
                          (try cbv); (try simp only [choice_lk, lock_eq, and_self, and_true, true_and]); (try first | exact e | exact e.symm | (and_intros <;> first | assumption | rfl | exact Eq.symm (by assumption)))
                        · have h1 : (ilt i12 (ofN (xlen l1))) = false := by first | exact h | (have h2 := h; simp only [choice_lk, lock_eq] at h2; exact h2) | (simp only [choice_lk, lock_eq] at h; exact h)
                          rw [if_neg (by rw [h1]; exact Bool.false_ne_true)] at hr
                          (try cbv)
                          have hqe : ∃ qq, F_octet_Window_End n3 n4 i13 t6 = some qq := by
                            cases hq : F_octet_Window_End n3 n4 i13 t6 with
                            | none => rw [hq] at hr; cases hr
                            | some qq => exact ⟨qq, rfl⟩
                          refine ⟨obl.2 (by simp only [choice_lk, lock_eq]; exact hqe), (by rintro (_) _ <;> cbv), ?_⟩
                          clear hqe
                          intro y30 hx31
                          apply Hidden.out
                          simp only [choice_lk, lock_eq] at hx31
                          all_goals (rw [hx31] at hr; dsimp only at hr; constructor; (try cbv))
                          apply Hidden.out
                          obtain rfl := Option.some.inj hr
                          have e := ht1 _ rfl
                          constructor
                          refine ⟨_, hF, ?_⟩
                          (try cbv); (try simp only [choice_lk, lock_eq, and_self, and_true, true_and]); (try first | exact e | exact e.symm | (and_intros <;> first | assumption | rfl | exact Eq.symm (by assumption)))
end Go.Proofs.Ytolfegaldhhmkaa
end
section
/-
  A walk that reckons: from a contract to what a row asks for.
-/
set_option linter.unusedVariables false
set_option linter.unusedSimpArgs false
namespace Go.Proofs.Ytolfegaldhhmkaa
open Go.RowKit

/-- A function that but reads what it is given, and answers true. -/
theorem law_calls {P : Program} {f : FuncId} {con : Con} (h : FnOK P f con) {cargs : List SV} {obs : List Prop} (hc : con.f cargs [] = some ⟨obs, .one (.v (.bool true)) []⟩) (hob : ∀ p ∈ obs, p) {W : World} {args : List Value} (hd : DensA (fun _ => none) W (fun _ => False) cargs args) :
    Calls P f args.toArray W fun e W' => e = .returned (.bool true) ∧ Below W.heap.size W W' := by
  have hO : ∀ b, ¬ Own (fun _ => none) (canon 0 ([] : List Ck)) b := by
    rintro b ⟨id, c, p, h1, h2, h3⟩
    cases h2
  have hS : HSat (ctxOf W (fun _ => False) (fun _ => none) []) (fun _ => none) (canon 0 []) (fun i => ([] : List Ck).length ≤ i) W := by
    refine ⟨fun id c hc => by simp [canon, hget] at hc, fun i j c d p q b h1 => by simp [canon, hget] at h1, fun b hb => absurd hb (hO b), rfl, rfl, rfl, Nat.le_refl _, fun _ _ _ => rfl, fun b hb => hb.elim, fun _ _ => rfl, fun id hid => rfl⟩
  have hA : Avo (ctxOf W (fun _ => False) (fun _ => none) []) (fun _ => none) (canon 0 []) = fun _ => False := by
    funext b
    simp only [Avo, ctxOf, false_or, eq_iff_iff, iff_false]
    exact hO b
  have key := h cargs [] _ hc hob (fun _ => False) (fun _ => none) W args hS (by rw [hA]; exact hd)
  refine key.mono ?_
  rintro e W' ⟨u, PL', rfl, H, D⟩
  cases D
  refine ⟨rfl, ?_⟩
  exact ⟨H.os, H.tape, H.output, H.size, fun k hk => H.old k hk (hO k)⟩

/-- The same, by a contract that leaves open what it yields. -/
theorem law_many {P : Program} {f : FuncId} {con : Con} (h : FnOK P f con) {cargs : List SV} {obs : List Prop} {X : Type} {Pr : X → Prop} {v : X → SV} {post : X → List PostC} (hc : con.f cargs [] = some ⟨obs, .many X Pr v post⟩) (hob : ∀ p ∈ obs, p) (hv : ∀ x, Pr x → v x = .v (.bool true) ∧ post x = []) {W : World} {args : List Value} (hd : DensA (fun _ => none) W (fun _ => False) cargs args) :
    Calls P f args.toArray W fun e W' => e = .returned (.bool true) ∧ Below W.heap.size W W' := by
  have hO : ∀ b, ¬ Own (fun _ => none) (canon 0 ([] : List Ck)) b := by
    rintro b ⟨id, c, p, h1, h2, h3⟩
    cases h2
  have hS : HSat (ctxOf W (fun _ => False) (fun _ => none) []) (fun _ => none) (canon 0 []) (fun i => ([] : List Ck).length ≤ i) W := by
    refine ⟨fun id c hc => by simp [canon, hget] at hc, fun i j c d p q b h1 => by simp [canon, hget] at h1, fun b hb => absurd hb (hO b), rfl, rfl, rfl, Nat.le_refl _, fun _ _ _ => rfl, fun b hb => hb.elim, fun _ _ => rfl, fun id hid => rfl⟩
  have hA : Avo (ctxOf W (fun _ => False) (fun _ => none) []) (fun _ => none) (canon 0 []) = fun _ => False := by
    funext b
    simp only [Avo, ctxOf, false_or, eq_iff_iff, iff_false]
    exact hO b
  have key := h cargs [] _ hc hob (fun _ => False) (fun _ => none) W args hS (by rw [hA]; exact hd)
  refine key.mono ?_
  rintro e W' ⟨u, PL', rfl, x, hx, H, D⟩
  obtain ⟨e1, e2⟩ := hv x hx
  rw [e1] at D
  cases D
  refine ⟨rfl, ?_⟩
  exact ⟨H.os, H.tape, H.output, H.size, fun k hk => H.old k hk (hO k)⟩
theorem densA_nil {PL : Nat → Option Pl} {w : World} {Av : Nat → Prop} : DensA PL w Av [] [] := ⟨rfl, fun j h1 _ => absurd h1 (by simp)⟩
theorem densA_cons {PL : Nat → Option Pl} {w : World} {Av : Nat → Prop} {x : SV} {l : List SV} {c : Value} {cs : List Value} (h : Den PL w Av x c) (k : DensA PL w Av l cs) : DensA PL w Av (x :: l) (c :: cs) :=
  ⟨by simp [k.1], fun j h1 h2 => by
    cases j with
    | zero => exact h
    | succ j => exact k.2 j (by simpa using h1) (by simpa using h2)⟩
theorem den_str {PL : Nat → Option Pl} {w : World} {Av : Nat → Prop} (b : ByteArray) : Den PL w Av (.str b.data.toList) (.string b) := by
  have := Den.str (PL := PL) (w := w) (Av := Av) b.data.toList
  simpa using this
end Go.Proofs.Ytolfegaldhhmkaa
end
section
/-
  The walks of the functions that tollbar/tollbarlaw01.OctetBack reaches, tied to the program (printed by a program of ours).
-/
set_option linter.unusedVariables false
set_option linter.unusedSimpArgs false
namespace Go.Proofs.Ytolfegaldhhmkaa
open Go.RowKit

theorem mixed : Try.prog.follows .mixedOrders = true := by kernel_rfl
theorem tabok_slices_Clone : Tab Try.prog tab_slices_Clone := Tab.nil _
theorem ok_slices_Clone : FnOK Try.prog 24 con_slices_Clone := FnOK.of tabok_slices_Clone mixed Try.func24 comp_24 (vc_slices_Clone _ tabok_slices_Clone mixed)
theorem tabok_octet_Open : Tab Try.prog tab_octet_Open := Tab.cons (Tab.nil _) ok_slices_Clone Try.func24 rfl rfl
theorem ok_octet_Open : FnOK Try.prog 8 con_octet_Open := FnOK.of tabok_octet_Open mixed Try.func8 comp_8 (vc_octet_Open _ tabok_octet_Open mixed)
theorem tabok_octet_Window_fail : Tab Try.prog tab_octet_Window_fail := Tab.nil _
theorem ok_octet_Window_fail : FnOK Try.prog 26 con_octet_Window_fail := FnOK.of tabok_octet_Window_fail mixed Try.func26 comp_26 (vc_octet_Window_fail _ tabok_octet_Window_fail mixed)
theorem tabok_octet_Window_Bytes : Tab Try.prog tab_octet_Window_Bytes := Tab.cons (Tab.nil _) ok_octet_Window_fail Try.func26 rfl rfl
theorem ok_octet_Window_Bytes : FnOK Try.prog 12 con_octet_Window_Bytes := FnOK.of tabok_octet_Window_Bytes mixed Try.func12 comp_12 (vc_octet_Window_Bytes _ tabok_octet_Window_Bytes mixed)
theorem tabok_octet_Window_Err : Tab Try.prog tab_octet_Window_Err := Tab.nil _
theorem ok_octet_Window_Err : FnOK Try.prog 17 con_octet_Window_Err := FnOK.of tabok_octet_Window_Err mixed Try.func17 comp_17 (vc_octet_Window_Err _ tabok_octet_Window_Err mixed)
theorem tabok_octet_Window_Sub : Tab Try.prog tab_octet_Window_Sub := Tab.cons (Tab.cons (Tab.nil _) ok_octet_Window_Err Try.func17 rfl rfl) ok_octet_Window_Bytes Try.func12 rfl rfl
theorem ok_octet_Window_Sub : FnOK Try.prog 14 con_octet_Window_Sub := FnOK.of tabok_octet_Window_Sub mixed Try.func14 comp_14 (vc_octet_Window_Sub _ tabok_octet_Window_Sub mixed)
theorem tabok_octet_Value : Tab Try.prog tab_octet_Value := Tab.nil _
theorem ok_octet_Value : FnOK Try.prog 23 con_octet_Value := FnOK.of tabok_octet_Value mixed Try.func23 comp_23 (vc_octet_Value _ tabok_octet_Value mixed)
theorem tabok_octet_Big : Tab Try.prog tab_octet_Big := Tab.nil _
theorem ok_octet_Big : FnOK Try.prog 20 con_octet_Big := FnOK.of tabok_octet_Big mixed Try.func20 comp_20 (vc_octet_Big _ tabok_octet_Big mixed)
theorem tabok_octet_Least : Tab Try.prog tab_octet_Least := Tab.cons (Tab.nil _) ok_octet_Big Try.func20 rfl rfl
theorem ok_octet_Least : FnOK Try.prog 22 con_octet_Least := FnOK.of tabok_octet_Least mixed Try.func22 comp_22 (vc_octet_Least _ tabok_octet_Least mixed)
theorem tabok_octet_Window_Num : Tab Try.prog tab_octet_Window_Num := Tab.cons (Tab.cons (Tab.cons (Tab.nil _) ok_octet_Value Try.func23 rfl rfl) ok_octet_Window_Bytes Try.func12 rfl rfl) ok_octet_Window_fail Try.func26 rfl rfl
theorem ok_octet_Window_Num : FnOK Try.prog 11 con_octet_Window_Num := FnOK.of tabok_octet_Window_Num mixed Try.func11 comp_11 (vc_octet_Window_Num _ tabok_octet_Window_Num mixed)
theorem tabok_octet_Window_Left : Tab Try.prog tab_octet_Window_Left := Tab.nil _
theorem ok_octet_Window_Left : FnOK Try.prog 16 con_octet_Window_Left := FnOK.of tabok_octet_Window_Left mixed Try.func16 comp_16 (vc_octet_Window_Left _ tabok_octet_Window_Left mixed)
theorem tabok_octet_Window_End : Tab Try.prog tab_octet_Window_End := Tab.cons (Tab.nil _) ok_octet_Window_Err Try.func17 rfl rfl
theorem ok_octet_Window_End : FnOK Try.prog 18 con_octet_Window_End := FnOK.of tabok_octet_Window_End mixed Try.func18 comp_18 (vc_octet_Window_End _ tabok_octet_Window_End mixed)
theorem tabok_octet_Window_Byte : Tab Try.prog tab_octet_Window_Byte := Tab.cons (Tab.nil _) ok_octet_Window_Num Try.func11 rfl rfl
theorem ok_octet_Window_Byte : FnOK Try.prog 9 con_octet_Window_Byte := FnOK.of tabok_octet_Window_Byte mixed Try.func9 comp_9 (vc_octet_Window_Byte _ tabok_octet_Window_Byte mixed)
theorem tabok_tollbarlaw01_awake : Tab Try.prog tab_tollbarlaw01_awake := Tab.cons (Tab.cons (Tab.cons (Tab.cons (Tab.cons (Tab.cons (Tab.cons (Tab.cons (Tab.cons (Tab.cons (Tab.nil _) ok_octet_Window_Err Try.func17 rfl rfl) ok_octet_Window_Byte Try.func9 rfl rfl) ok_octet_Window_End Try.func18 rfl rfl) ok_octet_Window_Left Try.func16 rfl rfl) ok_octet_Window_Num Try.func11 rfl rfl) ok_octet_Big Try.func20 rfl rfl) ok_octet_Least Try.func22 rfl rfl) ok_octet_Value Try.func23 rfl rfl) ok_octet_Window_Sub Try.func14 rfl rfl) ok_octet_Open Try.func8 rfl rfl
theorem ok_tollbarlaw01_awake : FnOK Try.prog 7 con_tollbarlaw01_awake := FnOK.of tabok_tollbarlaw01_awake mixed Try.func7 comp_7 (vc_tollbarlaw01_awake _ tabok_tollbarlaw01_awake mixed)
theorem tabok_tollbarlaw01_power : Tab Try.prog tab_tollbarlaw01_power := Tab.nil _
theorem ok_tollbarlaw01_power : FnOK Try.prog 21 con_tollbarlaw01_power := FnOK.of tabok_tollbarlaw01_power mixed Try.func21 comp_21 (vc_tollbarlaw01_power _ tabok_tollbarlaw01_power mixed)
theorem tabok_tollbarlaw01_OctetBack : Tab Try.prog tab_tollbarlaw01_OctetBack := Tab.cons (Tab.cons (Tab.cons (Tab.cons (Tab.cons (Tab.cons (Tab.nil _) ok_octet_Window_End Try.func18 rfl rfl) ok_octet_Window_Num Try.func11 rfl rfl) ok_tollbarlaw01_power Try.func21 rfl rfl) ok_octet_Open Try.func8 rfl rfl) ok_octet_Big Try.func20 rfl rfl) ok_tollbarlaw01_awake Try.func7 rfl rfl
theorem ok_tollbarlaw01_OctetBack : FnOK Try.prog 4 con_tollbarlaw01_OctetBack := FnOK.of tabok_tollbarlaw01_OctetBack mixed Try.func4 comp_4 (vc_tollbarlaw01_OctetBack _ tabok_tollbarlaw01_OctetBack mixed)

end Go.Proofs.Ytolfegaldhhmkaa
end
