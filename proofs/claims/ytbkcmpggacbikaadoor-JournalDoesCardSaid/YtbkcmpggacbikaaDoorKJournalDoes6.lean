/-
  Texts that the row of this claim stands on, one behind the other.
-/
import Derived.Test.YtbkcmpggacbikaaDoorRows
import Derived.ProofKit
import Derived.LaidMore
import Derived.OpenShut
import Derived.Stop.Joined
import Derived.Test.YtbkcmpggacbikaaDoorKJournalDoes1
import Derived.Test.YtbkcmpggacbikaaDoorKJournalDoes2
import Derived.Test.YtbkcmpggacbikaaDoorKJournalDoes3
import Derived.Test.YtbkcmpggacbikaaDoorKJournalDoes4
import Derived.Test.YtbkcmpggacbikaaDoorKJournalDoes5
section
/-
  What the functions of package block and its reference do, in plain words.
-/
set_option linter.unusedVariables false
set_option linter.unusedSimpArgs false
set_option maxRecDepth 10000
namespace Go.Proofs.YtbkcmpggacbikaaDoor
def fl (d : D) : List Int := (List.range 64).map fun j => D.toI (D.fld d j)
structure Is (d : D) (bs : List UInt8) : Prop where
 len : bs.length = 64
 at_ : ∀ j, j < 64 → D.toI (D.fld d j) = getB bs j
theorem u8lt (b : UInt8) : b.toNat < 256 := b.toNat_lt
theorem getB_rng (bs : List UInt8) (j : Nat) : 0 ≤ getB bs j ∧ getB bs j < 256 := by
 have := u8lt (bs.getD j 0)
 simp only [getB]
 omega
theorem allU8_of {l : List Int} (h : ∀ x ∈ l, 0 ≤ x ∧ x < 256) : allU8 l := by
 induction l with
 | nil => trivial
 | cons x l ih => exact ⟨h x (List.mem_cons_self ..), ih fun y hy => h y (List.mem_cons_of_mem _ hy)⟩
theorem bsL_map (l : List Int) : bsL l = l.map byteOf := by
 induction l with
 | nil => rfl
 | cons x l ih => rw [bsL, ih]; rfl
theorem byteOf_toNat (b : UInt8) : byteOf (b.toNat : Int) = b := by simp [byteOf]
theorem Is.ok {d : D} {bs : List UInt8} (h : Is d bs) : allU8 (fl d) ∧ bsL (fl d) = bs := by
 constructor
 ·refine allU8_of fun x hx => ?_
  obtain ⟨j, hj, rfl⟩ := List.mem_map.1 hx
  rw [h.at_ j (by simpa using hj)]
  exact getB_rng _ _
 ·rw [bsL_map]
  apply List.ext_getElem
  ·simp [fl, h.len]
  ·intro j h1 h2
   have hj : j < 64 := by rw [← h.len]; exact h2
   simp only [fl, List.getElem_map, List.getElem_range]
   rw [h.at_ j hj, pgetB h2, byteOf_toNat]
def arr64 (s : List UInt8) : D := .l ((List.range 64).map fun j => .i (D.toI (D.fld (getD [arrD s] 0) j)))
theorem fld_map {f : Nat → D} {n j : Nat} (h : j < n) : D.fld (.l ((List.range n).map f)) j = f j := by
 simp only [D.fld, D.toL]
 rw [List.getD_eq_getElem?_getD, List.getElem?_eq_getElem (by simpa using h)]
 simp
theorem arrD_fld {s : List UInt8} {j : Nat} (h : j < s.length) : D.toI (D.fld (arrD s) j) = getB s j := by
 simp only [arrD, D.fld, D.toL]
 rw [List.getD_eq_getElem?_getD, List.getElem?_eq_getElem (by simpa using h), pgetB h]
 simp [D.toI]
theorem Is.arr {s : List UInt8} (h : s.length = 64) : Is (arr64 s) s := by
 refine ⟨h, fun j hj => ?_⟩
 unfold arr64
 rw [fld_map hj]
 show D.toI (D.fld (arrD s) j) = _
 exact arrD_fld (by omega)
theorem Is.cp {d : D} {bs s : List UInt8} (h : Is d bs) (hs : s.length ≤ 64) : Is (cpA 64 d s) (s ++ bs.drop s.length) := by
 have hb := h.len
 refine ⟨by simp; omega, fun j hj => ?_⟩
 unfold cpA
 rw [fld_map hj]
 by_cases c : j < s.length
 ·rw [if_pos c]
  rw [pgetB (by simp; omega), List.getElem_append_left c]
  simp [D.toI, c]
 ·rw [if_neg c, h.at_ j hj, pgetB (by omega), pgetB (by simp; omega), List.getElem_append_right (by omega)]
  simp only [List.getElem_drop]
  congr 4
  omega
def Z64 : D := .l ((List.range 64).map fun _ => .i 0)
def N64 : List UInt8 := List.replicate 64 0
theorem Is.zero : Is Z64 N64 := by
 refine ⟨by simp [N64], fun j hj => ?_⟩
 unfold Z64
 rw [fld_map hj, pgetB (by simp [N64]; omega)]
 simp only [N64, List.getElem_replicate]
 rfl
theorem new_eq (x : Int) : F_block_New x = if (ilt x 1) = true then some (.inl ()) else if (ilt 1024 x) = true then some (.inl ()) else
  if 0 ≤ x ∧ x ≤ x ∧ x * ((64 : Nat) : Int) ≤ 140737488355328 ∧ x ≤ 9223372036854775807 then some (.inr (lrep (toN x) Z64)) else none := rfl
theorem p_new {n : Nat} (h : 1 ≤ n ∧ n ≤ 1024) : F_block_New (n : Int) = some (.inr (List.replicate n Z64)) := by
 rw [new_eq, if_neg (by rw [pilt]; omega), if_neg (by rw [pilt]; omega), if_pos (by omega)]
 rfl
def mayV (b : Bool) (n : Nat) (x : Int) : Int := if b = true then 3 else if x < 0 then 2 else if (n : Int) ≤ x then 2 else 0
theorem mayV0 {b : Bool} {n : Nat} {x : Int} (h : mayV b n x = 0) : b = false ∧ 0 ≤ x ∧ x < n := by
 unfold mayV at h
 cases b
 ·simp only [Bool.false_eq_true, if_false] at h
  by_cases c1 : x < 0
  ·rw [if_pos c1] at h; omega
  ·rw [if_neg c1] at h
   by_cases c2 : (n : Int) ≤ x
   ·rw [if_pos c2] at h; omega
   ·exact ⟨rfl, by omega, by omega⟩
 ·simp at h
theorem p_may (x : Int) (b : Bool) (y : Int) (r : List D) : F_block_Device_may x b y r = some (mayV b r.length x) := by
 unfold F_block_Device_may mayV
 cases b
 ·simp only [Bool.false_eq_true, if_false]
  by_cases c1 : x < 0
  ·rw [if_pos (by rw [pilt]; exact c1), if_pos c1]
  ·rw [if_neg (by rw [pilt]; exact c1), if_neg c1]
   by_cases c2 : (r.length : Int) ≤ x
   ·rw [if_pos (by rw [pile]; exact c2), if_pos c2]
   ·rw [if_neg (by rw [pile]; exact c2), if_neg c2]
 ·simp
theorem p_may2 (x : Int) (b : Bool) (y : Int) (r : List D) (z u : Int) : F_block_Device_may_3 x b y r z u = some (mayV b r.length x) := p_may x b y r
structure Rel (r q : List D) : Prop where
 len : r.length = q.length
 at_ : ∀ k, k < q.length → Is (getD r k) (D.toS (getD q k))
theorem read_eq (x : Int) (b : Bool) (y : Int) (r : List D) : F_block_Device_Read x b y r = match F_block_Device_may x b y r with
  | none => none
  | some v => if (ieq v 0) = true then if 0 ≤ x ∧ x < ofN (xlen r) then if allU8 (fl (getD r (toN x))) then some (0, bsL (fl (getD r (toN x)))) else none else none else some (v, []) := rfl
theorem read_eq3 (x : Int) (b : Bool) (y : Int) (r : List D) (z u : Int) : F_block_Device_Read_2 x b y r z u = match F_block_Device_may_3 x b y r z u with
  | none => none
  | some v => if (ieq v 0) = true then if 0 ≤ x ∧ x < ofN (xlen r) then if allU8 (fl (getD r (toN x))) then some (0, bsL (fl (getD r (toN x)))) else none else none else some (v, []) := rfl
def readV (b : Bool) (q : List D) (x : Int) : List UInt8 := if mayV b q.length x = 0 then D.toS (getD q (toN x)) else []
theorem p_read {r q : List D} (h : Rel r q) (x : Int) (b : Bool) (y : Int) : F_block_Device_Read x b y r = some (mayV b q.length x, readV b q x) := by
 have hl := h.len
 rw [read_eq, p_may, hl]
 simp only []
 unfold readV
 by_cases c : mayV b q.length x = 0
 ·obtain ⟨_, h1, h2⟩ := mayV0 c
  have hi := (h.at_ (toN x) (by simp only [toN]; omega)).ok
  rw [if_pos (by rw [pieq]; exact c), if_pos (by simp only [ofN, xlen]; omega), if_pos hi.1, if_pos c, hi.2, c]
 ·rw [if_neg (by rw [pieq]; exact c), if_neg c]
theorem p_read3 {r q : List D} (h : Rel r q) (x : Int) (b : Bool) (y z u : Int) : F_block_Device_Read_2 x b y r z u = some (mayV b q.length x, readV b q x) := p_read h x b y
theorem p_rread (b : Bool) (x1 x2 x3 x : Int) (q : List D) : F_tollbarref31_Read b x1 x2 x3 x q = some (readV b q x, mayV b q.length x) := by
 unfold F_tollbarref31_Read readV mayV
 cases b
 ·simp only [Bool.false_eq_true, if_false]
  by_cases c1 : x < 0
  ·rw [if_pos (by rw [pilt]; exact c1), if_pos c1]; rfl
  ·rw [if_neg (by rw [pilt]; exact c1), if_neg c1]
   by_cases c2 : (q.length : Int) ≤ x
   ·rw [if_pos (by rw [pile]; exact c2), if_pos c2]; rfl
   ·rw [if_neg (by rw [pile]; exact c2), if_neg c2, if_pos (by simp only [ofN, xlen]; omega)]; rfl
 ·rfl
theorem p_with {q : List D} {x : Int} (s : List UInt8) (h : 0 ≤ x ∧ x < q.length) (hq : q.length ≤ 2000) : F_tollbarref31_with q x s = some (setD q (toN x) (.s s)) := by
 unfold F_tollbarref31_with
 rw [if_pos (by simp only [xlen]; omega), if_pos (by simp only [ofN, xlen]; omega)]
theorem Rel.set {r q : List D} (h : Rel r q) {k : Nat} (hk : k < q.length) {d : D} {s : List UInt8} (hi : Is d s) : Rel (setD r k d) (setD q k (.s s)) := by
 have hl := h.len
 refine ⟨by simp [setD, hl], fun j hj => ?_⟩
 have hj' : j < q.length := by simpa [setD] using hj
 by_cases e : j = k
 ·subst e
  have e1 : getD (setD r j d) j = d := by simp [getD, setD, hl, hk]
  have e2 : getD (setD q j (.s s)) j = .s s := by simp [getD, setD, hk]
  rw [e1, e2]
  exact hi
 ·have e1 : getD (setD r k d) j = getD r j := by simp [getD, setD, List.getElem?_set_ne (Ne.symm e)]
  have e2 : getD (setD q k (.s s)) j = getD q j := by simp [getD, setD, List.getElem?_set_ne (Ne.symm e)]
  rw [e1, e2]
  exact h.at_ j hj'
theorem write_eq (x : Int) (s : List UInt8) (b : Bool) (y : Int) (r : List D) : F_block_Device_Write x s b y r = match F_block_Device_may x b y r with
  | none => none
  | some v => if (ieq v 0) = true then if (ieq (ofN (xlen s)) 64) = true then if 64 ≤ xlen s then if 0 ≤ x ∧ x < ofN (xlen r) then
    some (0, iadd .i64 y 1, setD r (toN x) (arr64 s)) else none else none else some (1, y, r) else some (v, y, r) := rfl
theorem write_eq2 (x : Int) (s : List UInt8) (b : Bool) (y : Int) (r : List D) (z u : Int) : F_block_Device_Write_4 x s b y r z u = match F_block_Device_may_3 x b y r z u with
  | none => none
  | some v => if (ieq v 0) = true then if (ieq (ofN (xlen s)) 64) = true then
    if (ieq z 0) = true then if 0 ≤ x ∧ x < ofN (xlen r) then if 0 ≤ u ∧ u ≤ ofN (xlen s) then some (.inr (setD r (toN x) (cpA 64 (getD r (toN x)) (lsub s 0 (toN u))))) else none else none
    else if 64 ≤ xlen s then if 0 ≤ x ∧ x < ofN (xlen r) then
     some (.inl (0, iadd .i64 y 1, setD r (toN x) (arr64 s), isub .i64 z 1)) else none else none else some (.inl (1, y, r, z)) else some (.inl (v, y, r, z)) := rfl
def wV (b : Bool) (n : Nat) (x : Int) (s : List UInt8) : Int := if mayV b n x = 0 then if s.length = 64 then 0 else 1 else mayV b n x
theorem wV0 {b : Bool} {n : Nat} {x : Int} {s : List UInt8} (h : wV b n x s = 0) : b = false ∧ 0 ≤ x ∧ x < n ∧ s.length = 64 := by
 unfold wV at h
 by_cases c : mayV b n x = 0
 ·rw [if_pos c] at h
  obtain ⟨h1, h2, h3⟩ := mayV0 c
  by_cases c2 : s.length = 64
  ·exact ⟨h1, h2, h3, c2⟩
  ·rw [if_neg c2] at h; omega
 ·rw [if_neg c] at h; exact absurd h c
theorem wV_of {n : Nat} {x : Int} {s : List UInt8} (h1 : 0 ≤ x) (h2 : x < n) (h3 : s.length = 64) : wV false n x s = 0 := by
 unfold wV mayV
 simp [h3]
 omega
theorem p_write (x : Int) (s : List UInt8) (b : Bool) (y : Int) (r : List D) :
  F_block_Device_Write x s b y r = if wV b r.length x s = 0 then some (0, iadd .i64 y 1, setD r (toN x) (arr64 s)) else some (wV b r.length x s, y, r) := by
 rw [write_eq, p_may]
 simp only []
 unfold wV
 by_cases c : mayV b r.length x = 0
 ·obtain ⟨_, h1, h2⟩ := mayV0 c
  rw [if_pos (by rw [pieq]; exact c), if_pos c]
  by_cases c2 : s.length = 64
  ·rw [if_pos (by rw [pieq]; simp only [ofN, xlen]; omega), if_pos (by simp only [xlen]; omega), if_pos (by simp only [ofN, xlen]; omega), if_pos c2, if_pos rfl]
  ·rw [if_neg (by rw [pieq]; simp only [ofN, xlen]; omega), if_neg c2, if_neg (by omega)]
 ·rw [if_neg (by rw [pieq]; exact c), if_neg c, if_neg c]
theorem p_write2 (x : Int) (s : List UInt8) (b : Bool) (y : Int) (r : List D) (z u : Int) (hu : 0 ≤ u ∧ u ≤ 64) :
  F_block_Device_Write_4 x s b y r z u = if wV b r.length x s = 0 then if z = 0 then some (.inr (setD r (toN x) (cpA 64 (getD r (toN x)) (s.take (toN u))))) else some (.inl (0, iadd .i64 y 1, setD r (toN x) (arr64 s), isub .i64 z 1))
   else some (.inl (wV b r.length x s, y, r, z)) := by
 rw [write_eq2, p_may2]
 simp only []
 unfold wV
 by_cases c : mayV b r.length x = 0
 ·obtain ⟨_, h1, h2⟩ := mayV0 c
  rw [if_pos (by rw [pieq]; exact c), if_pos c]
  by_cases c2 : s.length = 64
  ·rw [if_pos (by rw [pieq]; simp only [ofN, xlen]; omega), if_pos c2, if_pos rfl]
   by_cases c3 : z = 0
   ·rw [if_pos (by rw [pieq]; exact c3), if_pos (by simp only [ofN, xlen]; omega), if_pos (by simp only [ofN, xlen]; omega), if_pos c3]
    rfl
   ·rw [if_neg (by rw [pieq]; exact c3), if_pos (by simp only [xlen]; omega), if_pos (by simp only [ofN, xlen]; omega), if_neg c3]
  ·rw [if_neg (by rw [pieq]; simp only [ofN, xlen]; omega), if_neg c2, if_neg (by omega)]
 ·rw [if_neg (by rw [pieq]; exact c), if_neg c, if_neg c]
theorem p_rwrite {q : List D} (b : Bool) (x1 x2 x3 x : Int) (s : List UInt8) (hq : q.length ≤ 2000) (hq64 : ∀ k, k < q.length → (D.toS (getD q k)).length = 64) (h2 : x1 = 0 → 0 ≤ x2 ∧ x2 ≤ 64) :
  F_tollbarref31_Write b x1 x2 x3 x s q = if wV b q.length x s = 0 then
    if x1 = 0 then some (true, -1, 0, x3, 3, setD q (toN x) (.s (s.take (toN x2) ++ (D.toS (getD q (toN x))).drop (toN x2))))
    else some (b, (if 0 < x1 then isub .i64 x1 1 else x1), x2, iadd .i64 x3 1, 0, setD q (toN x) (.s s))
   else some (b, x1, x2, x3, wV b q.length x s, q) := by
 unfold F_tollbarref31_Write
 rw [p_rread]
 simp only []
 unfold wV
 by_cases c : mayV b q.length x = 0
 ·obtain ⟨_, g1, g2⟩ := mayV0 c
  rw [if_pos (by rw [pieq]; exact c), if_pos c]
  by_cases c2 : s.length = 64
  ·rw [if_pos (by rw [pieq]; simp only [ofN, xlen]; omega), if_pos (by rw [pieq]; exact c), if_pos c2, if_pos rfl]
   by_cases c3 : x1 = 0
   ·have h64 := hq64 (toN x) (by simp only [toN]; omega)
    obtain ⟨k1, k2⟩ := h2 c3
    have e1 : lsub s 0 (toN x2) = s.take (toN x2) := rfl
    have e2 : lsub (D.toS (getD q (toN x))) (toN x2) (ndec (xlen (D.toS (getD q (toN x)))) (toN x2)) = (D.toS (getD q (toN x))).drop (toN x2) := by
     simp only [lsub, ndec, xlen]
     exact List.take_of_length_le (by simp)
    rw [if_pos (by rw [pieq]; exact c3), if_pos (by simp only [ofN, xlen]; omega), if_pos (by simp only [ofN, xlen]; omega), if_pos (by simp only [ofN, xlen]; omega), e1, e2,
     if_pos (by simp only [xlen, List.length_take, List.length_drop]; omega), p_with _ ⟨g1, g2⟩ hq, if_pos c3]
    rfl
   ·rw [if_neg (by rw [pieq]; exact c3), p_with _ ⟨g1, g2⟩ hq, if_neg c3]
    simp only []
    by_cases c4 : 0 < x1
    ·rw [if_pos (by rw [pilt]; exact c4), if_pos c4]
    ·rw [if_neg (by rw [pilt]; exact c4), if_neg c4]
  ·rw [if_neg (by rw [pieq]; simp only [ofN, xlen]; omega), if_neg (by rw [pieq]; omega), if_neg c2, if_neg (by omega)]
 ·rw [if_neg (by rw [pieq]; exact c), if_neg (by rw [pieq]; exact c), if_neg c, if_neg c]
end Go.Proofs.YtbkcmpggacbikaaDoor
end
section
/-
  A shift.
-/
set_option linter.unusedVariables false
set_option linter.unusedSimpArgs false
namespace Go.Proofs.YtbkcmpggacbikaaDoor
theorem pshr {x : Int} {n : Nat} (h : n < 64) : ishr .u64 x (n : Int) = x / 2 ^ n := by
 simp only [ishr, IntKind.bits]
 have : min (n : Int).toNat 64 = n := by simp; omega
 rw [this, Int.fdiv_eq_ediv_of_nonneg _ (Int.le_of_lt (Int.pow_pos (by omega)))]
end Go.Proofs.YtbkcmpggacbikaaDoor
end
section
/-
  What the functions of package octet tell that package journal calls.
-/
set_option linter.unusedVariables false
set_option linter.unusedSimpArgs false
namespace Go.Proofs.YtbkcmpggacbikaaDoor
theorem pshl8 {x : Int} (h0 : 0 ≤ x) (h : x < 72057594037927936) : ishl .u64 x 8 = x * 256 := by
 simp only [ishl, IntKind.bits]
 rw [show min (8 : Int).toNat 64 = 8 from rfl, show (2 : Int) ^ 8 = 256 from rfl, pu64 (by omega) (by omega)]
theorem por8 {x c : Int} (h0 : 0 ≤ x) (h : x < 72057594037927936) (hc : 0 ≤ c) (hc2 : c < 256) : ior .u64 (x * 256) c = x * 256 + c := by
 obtain ⟨a, rfl⟩ := Int.eq_ofNat_of_zero_le h0
 obtain ⟨b, rfl⟩ := Int.eq_ofNat_of_zero_le hc
 show IntKind.u64.wrap (((BitVec.ofInt 64 ((a : Int) * 256) ||| BitVec.ofInt 64 (b : Int)).toNat : Nat) : Int) = _
 have e1 : BitVec.ofInt 64 ((a : Int) * 256) = BitVec.ofNat 64 (a * 256) := by
  rw [show ((a : Int) * 256) = ((a * 256 : Nat) : Int) by omega]; exact BitVec.ofInt_natCast 64 _
 have e2 : BitVec.ofInt 64 (b : Int) = BitVec.ofNat 64 b := BitVec.ofInt_natCast 64 _
 rw [e1, e2, BitVec.toNat_or, BitVec.toNat_ofNat, BitVec.toNat_ofNat, Nat.mod_eq_of_lt (by omega), Nat.mod_eq_of_lt (by omega)]
 have e3 : a * 256 ||| b = a * 256 + b := by
  have := Nat.shiftLeft_add_eq_or_of_lt (i := 8) (b := b) (by omega) a
  rw [Nat.shiftLeft_eq] at this
  exact this.symm
 rw [e3, pu64 (by omega) (by omega)]
 omega
def valB (s : List UInt8) : Nat := s.foldl (fun x c => x * 256 + c.toNat) 0
theorem valB_snoc (s : List UInt8) (c : UInt8) : valB (s ++ [c]) = valB s * 256 + c.toNat := by simp [valB]
theorem valB_take {s : List UInt8} {i : Nat} (h : i < s.length) : valB (s.take (i + 1)) = valB (s.take i) * 256 + s[i].toNat := by
 rw [List.take_succ_eq_append_getElem h, valB_snoc]
theorem valB_mono {s : List UInt8} : ∀ (n i : Nat), i + n ≤ s.length → valB (s.take i) ≤ valB (s.take (i + n))
 | 0, i, h => Nat.le_refl _
 | n + 1, i, h => by
  have ih := valB_mono (s := s) n i (by omega)
  rw [← Nat.add_assoc, valB_take (by omega)]
  omega
theorem p_value (s : List UInt8) (hl : s.length ≤ 1000000) : F_octet_Value s = some (if valB s < 18446744073709551616 then ((valB s : Int), true) else (0, false)) := by
 unfold F_octet_Value
 have key : ∀ (m i : Nat), i + m = s.length → valB (s.take i) < 18446744073709551616 → iter (F_octet_Value_L1 s) ((valB (s.take i) : Int), (i : Int)) = some (if valB s < 18446744073709551616 then ((valB s : Int), true) else (0, false)) := by
  intro m
  induction m with
  | zero =>
   intro i hi hv
   have : s.take i = s := List.take_of_length_le (by omega)
   rw [this] at hv ⊢
   apply iter_inr
   unfold F_octet_Value_L1
   dsimp only
   rw [if_neg (by simp only [pilt, ofN, xlen]; omega), if_pos hv]
  | succ m ih =>
   intro i hi hv
   have hlt : i < s.length := by omega
   have es : ishr .u64 (valB (s.take i) : Int) 56 = ((valB (s.take i) / 72057594037927936 : Nat) : Int) := by
    have := pshr (x := (valB (s.take i) : Int)) (n := 56) (by omega)
    rw [show ((56 : Nat) : Int) = 56 from rfl] at this
    rw [this]
    omega
   have eg : getB s (toN (i : Int)) = ((s[i].toNat : Nat) : Int) := pgetB (by exact hlt)
   have hc : s[i].toNat < 256 := s[i].toNat_lt
   by_cases hb : 72057594037927936 ≤ valB (s.take i)
   ·apply iter_inr
    unfold F_octet_Value_L1
    dsimp only
    rw [if_pos (by simp only [pilt, ofN, xlen]; omega), if_pos (by simp only [ofN, xlen]; omega), if_pos (by omega), es, if_pos (by rw [pilt]; omega)]
    have h1 := valB_take hlt
    have h2 := valB_mono (s := s) (s.length - (i + 1)) (i + 1) (by omega)
    rw [show i + 1 + (s.length - (i + 1)) = s.length by omega, List.take_of_length_le (Nat.le_refl _)] at h2
    rw [if_neg (by omega)]
   ·rw [iter_inl (y := ((valB (s.take (i + 1)) : Int), ((i + 1 : Nat) : Int)))]
    ·refine ih (i + 1) (by omega) ?_
     rw [valB_take hlt]; omega
    ·unfold F_octet_Value_L1
     dsimp only
     have ec : iconv .u64 ((s[i].toNat : Nat) : Int) = ((s[i].toNat : Nat) : Int) := by simp only [iconv]; rw [pu64 (by omega) (by omega)]
     rw [if_pos (by simp only [pilt, ofN, xlen]; omega), if_pos (by simp only [ofN, xlen]; omega), if_pos (by omega), es, if_neg (by rw [pilt]; omega), if_pos (by omega), pshl8 (by omega) (by omega), eg, ec, por8 (by omega) (by omega) (by omega) (by omega), pnext (by omega), valB_take hlt]
     congr 3
 exact key s.length 0 (by omega) (by simp [valB])
theorem valB_lt : ∀ (s : List UInt8), valB s < 256 ^ s.length := by
 intro s
 have key : ∀ (s : List UInt8) (x : Nat), s.foldl (fun x c => x * 256 + c.toNat) x < (x + 1) * 256 ^ s.length := by
  intro s
  induction s with
  | nil => intro x; simp
  | cons c s ih =>
   intro x
   have := ih (x * 256 + c.toNat)
   have hc : c.toNat < 256 := c.toNat_lt
   simp only [List.foldl_cons, List.length_cons, Nat.pow_succ]
   refine Nat.lt_of_lt_of_le this ?_
   rw [Nat.mul_comm (256 ^ s.length) 256, ← Nat.mul_assoc]
   exact Nat.mul_le_mul_right _ (by omega)
 simpa [valB] using key s 0
def wB (n : Int) (w : List UInt8) (e : Int) : List UInt8 × List UInt8 × Int :=
 if e ≠ 0 then ([], w, e) else if n < 0 then ([], w, 1) else if (w.length : Int) < n then ([], w, 10) else (w.take n.toNat, w.drop n.toNat, 0)
def wN (n : Int) (w : List UInt8) (e : Int) : Int × List UInt8 × Int :=
 if e ≠ 0 then (0, w, e) else if n < 1 ∨ 8 < n then (0, w, 1) else ((valB (wB n w e).1 : Int), (wB n w e).2.1, (wB n w e).2.2)
theorem wB_len {n : Int} {w : List UInt8} {e : Int} : (wB n w e).1.length ≤ w.length ∧ (wB n w e).2.1.length ≤ w.length := by
 unfold wB
 split
 ·exact ⟨by simp, Nat.le_refl _⟩
 ·split
  ·exact ⟨by simp, Nat.le_refl _⟩
  ·split
   ·exact ⟨by simp, Nat.le_refl _⟩
   ·exact ⟨by simp [List.length_take]; omega, by simp⟩
theorem wB_len8 {n : Int} {w : List UInt8} {e : Int} (h : n ≤ 8) : (wB n w e).1.length ≤ 8 := by
 unfold wB
 split
 ·simp
 ·split
  ·simp
  ·split
   ·simp
   ·simp [List.length_take]; omega
theorem valB8 {s : List UInt8} (h : s.length ≤ 8) : valB s < 18446744073709551616 := by
 have h1 := valB_lt s
 have h2 : 256 ^ s.length ≤ 256 ^ 8 := Nat.pow_le_pow_right (by omega) h
 have h3 : (256 : Nat) ^ 8 = 18446744073709551616 := by decide
 omega
structure WS (s : List UInt8) (n1 n2 : Nat) (w : List UInt8) : Prop where
 h : n1 + n2 ≤ s.length
 w : lsub s n1 n2 = w
theorem WS.len {s : List UInt8} {n1 n2 : Nat} {w : List UInt8} (h : WS s n1 n2 w) : w.length = n2 := by
 have := h.h
 rw [← h.w]
 simp [lsub]
 omega
theorem WS.all (s : List UInt8) : WS s 0 s.length s := ⟨by omega, by simp [lsub]⟩
theorem WS.cut {s : List UInt8} {n1 n2 : Nat} {w : List UInt8} (h : WS s n1 n2 w) {k : Nat} (hk : k ≤ n2) : WS s (n1 + k) (n2 - k) (w.drop k) := by
 have := h.h
 refine ⟨by omega, ?_⟩
 rw [← h.w]
 simp only [lsub]
 rw [List.drop_take, List.drop_drop]
theorem p_fail2 {x e : Int} {n1 n2 : Nat} {s : List UInt8} : F_octet_Window_fail_2 x n1 n2 e s = some (if e = 0 then x else e) := by
 unfold F_octet_Window_fail_2
 by_cases h : e = 0
 ·rw [if_pos (by rw [pieq]; exact h), if_pos h]
 ·rw [if_neg (by rw [pieq]; exact h), if_neg h]
theorem p_fail {x e : Int} {s : List UInt8} : F_octet_Window_fail x e s = some (if e = 0 then x else e) := by
 unfold F_octet_Window_fail
 by_cases h : e = 0
 ·rw [if_pos (by rw [pieq]; exact h), if_pos h]
 ·rw [if_neg (by rw [pieq]; exact h), if_neg h]
theorem copy_take {w : List UInt8} {n : Nat} (h : n ≤ w.length) : lspl (@lrep UInt8 n 0) 0 (lsub w 0 (nmin (xlen (@lrep UInt8 n 0)) (xlen w))) = w.take n := by
 have : min n w.length = n := by omega
 simp [lspl, lrep, lsub, nmin, xlen, this]
theorem p_bytes2 {n e : Int} {s w : List UInt8} {n1 n2 : Nat} (hW : WS s n1 n2 w) (hs : s.length ≤ 1000000) : ∃ k1 k2, F_octet_Window_Bytes_2 n n1 n2 e s = some (k1, k2, (wB n w e).2.2, (wB n w e).1) ∧ WS s k1 k2 (wB n w e).2.1 := by
 have hl := hW.len
 have hh := hW.h
 unfold F_octet_Window_Bytes_2 wB
 by_cases e0 : e = 0
 ·subst e0
  rw [if_neg (show ¬ (0 : Int) ≠ 0 by simp)]
  by_cases h1 : n < 0
  ·rw [if_pos h1]
   refine ⟨n1, n2, ?_, hW⟩
   rw [if_pos (by rw [pilt]; exact h1), p_fail2, if_pos rfl]
   dsimp only
   rw [if_neg (by rw [pieq]; omega)]
  ·rw [if_neg h1]
   by_cases h2 : (w.length : Int) < n
   ·rw [if_pos h2]
    refine ⟨n1, n2, ?_, hW⟩
    rw [if_neg (by rw [pilt]; exact h1), if_pos (by rw [pilt]; simp only [ofN]; omega), p_fail2, if_pos rfl]
    dsimp only
    rw [if_neg (by rw [pieq]; omega)]
   ·rw [if_neg h2]
    obtain ⟨k, rfl⟩ : ∃ k : Nat, n = (k : Int) := ⟨n.toNat, by omega⟩
    have hk : k ≤ w.length := by omega
    have em : nmin (xlen (@lrep UInt8 (toN (k : Int)) 0)) (xlen (lsub s n1 n2)) = k := by
     rw [hW.w]; simp [nmin, xlen, lrep, toN]; omega
    refine ⟨n1 + k, n2 - k, ?_, hW.cut (by omega)⟩
    rw [if_neg (by rw [pilt]; exact h1), if_neg (by rw [pilt]; simp only [ofN]; omega), if_pos (by rw [pieq]), if_pos ⟨by omega, by omega, by simp; omega, by omega⟩, em, if_pos (by simp only [ofN]; omega)]
    have ec := copy_take hk
    have em2 : nmin (xlen (@lrep UInt8 k 0)) (xlen w) = k := by simp [nmin, xlen, lrep]; omega
    rw [em2] at ec
    rw [hW.w]
    show some (n1 + k, n2 - k, (0 : Int), lspl (@lrep UInt8 k 0) 0 (lsub w 0 k)) = _
    rw [ec]
    rfl
 ·rw [if_pos e0]
  refine ⟨n1, n2, ?_, hW⟩
  by_cases h1 : n < 0
  ·rw [if_pos (by rw [pilt]; exact h1), p_fail2, if_neg e0]
   dsimp only
   rw [if_neg (by rw [pieq]; exact e0)]
  ·rw [if_neg (by rw [pilt]; exact h1)]
   by_cases h2 : (n2 : Int) < n
   ·rw [if_pos (by rw [pilt]; exact h2), p_fail2, if_neg e0]
    dsimp only
    rw [if_neg (by rw [pieq]; exact e0)]
   ·rw [if_neg (by rw [pilt]; exact h2), if_neg (by rw [pieq]; exact e0)]
theorem p_bytes1 {n e : Int} {s : List UInt8} (hs : s.length ≤ 1000000) : ∃ k1 k2, F_octet_Window_Bytes n e s = some (k1, k2, (wB n s e).2.2, (wB n s e).1) ∧ WS s k1 k2 (wB n s e).2.1 := by
 have hW := WS.all s
 unfold F_octet_Window_Bytes wB
 have hx : xlen s = s.length := rfl
 by_cases e0 : e = 0
 ·subst e0
  rw [if_neg (show ¬ (0 : Int) ≠ 0 by simp)]
  by_cases h1 : n < 0
  ·rw [if_pos h1]
   refine ⟨0, s.length, ?_, hW⟩
   rw [if_pos (by rw [pilt]; exact h1), p_fail, if_pos rfl]
   dsimp only
   rw [if_neg (by rw [pieq]; omega), hx]
  ·rw [if_neg h1]
   by_cases h2 : (s.length : Int) < n
   ·rw [if_pos h2]
    refine ⟨0, s.length, ?_, hW⟩
    rw [if_neg (by rw [pilt]; exact h1), if_pos (by rw [pilt]; simp only [ofN, xlen]; omega), p_fail, if_pos rfl]
    dsimp only
    rw [if_neg (by rw [pieq]; omega), hx]
   ·rw [if_neg h2]
    obtain ⟨k, rfl⟩ : ∃ k : Nat, n = (k : Int) := ⟨n.toNat, by omega⟩
    have hk : k ≤ s.length := by omega
    have em : nmin (xlen (@lrep UInt8 (toN (k : Int)) 0)) (xlen s) = k := by simp [nmin, xlen, lrep, toN]; omega
    refine ⟨0 + k, s.length - k, ?_, hW.cut hk⟩
    rw [if_neg (by rw [pilt]; exact h1), if_neg (by rw [pilt]; simp only [ofN, xlen]; omega), if_pos (by rw [pieq]), if_pos ⟨by omega, by omega, by simp; omega, by omega⟩, em, if_pos (by simp only [ofN, xlen]; omega)]
    have ec := copy_take hk
    have em2 : nmin (xlen (@lrep UInt8 k 0)) (xlen s) = k := by simp [nmin, xlen, lrep]; omega
    rw [em2] at ec
    show some (k, s.length - k, (0 : Int), lspl (@lrep UInt8 k 0) 0 (lsub s 0 k)) = _
    rw [ec, Nat.zero_add]
    rfl
 ·rw [if_pos e0]
  refine ⟨0, s.length, ?_, hW⟩
  by_cases h1 : n < 0
  ·rw [if_pos (by rw [pilt]; exact h1), p_fail, if_neg e0]
   dsimp only
   rw [if_neg (by rw [pieq]; exact e0), hx]
  ·rw [if_neg (by rw [pilt]; exact h1)]
   by_cases h2 : (s.length : Int) < n
   ·rw [if_pos (by rw [pilt]; exact h2), p_fail, if_neg e0]
    dsimp only
    rw [if_neg (by rw [pieq]; exact e0), hx]
   ·rw [if_neg (by rw [pilt]; exact h2), if_neg (by rw [pieq]; exact e0), hx]
theorem p_num2 {n e : Int} {s w : List UInt8} {n1 n2 : Nat} (hW : WS s n1 n2 w) (hs : s.length ≤ 1000000) : ∃ k1 k2, F_octet_Window_Num_2 n n1 n2 e s = some ((wN n w e).1, k1, k2, (wN n w e).2.2) ∧ WS s k1 k2 (wN n w e).2.1 := by
 unfold F_octet_Window_Num_2 wN
 by_cases h1 : n < 1
 ·refine ⟨n1, n2, ?_, ?_⟩
  ·rw [if_pos (by rw [pilt]; exact h1), p_fail2]
   by_cases e0 : e = 0
   ·rw [if_pos e0, if_neg (by simp [e0]), if_pos (.inl h1)]
   ·rw [if_neg e0, if_pos e0]
  ·by_cases e0 : e = 0
   ·rw [if_neg (by simp [e0]), if_pos (.inl h1)]; exact hW
   ·rw [if_pos e0]; exact hW
 ·by_cases h8 : 8 < n
  ·refine ⟨n1, n2, ?_, ?_⟩
   ·rw [if_neg (by rw [pilt]; exact h1), if_pos (by rw [pilt]; exact h8), p_fail2]
    by_cases e0 : e = 0
    ·rw [if_pos e0, if_neg (by simp [e0]), if_pos (.inr h8)]
    ·rw [if_neg e0, if_pos e0]
   ·by_cases e0 : e = 0
    ·rw [if_neg (by simp [e0]), if_pos (.inr h8)]; exact hW
    ·rw [if_pos e0]; exact hW
  ·obtain ⟨k1, k2, eb, hk⟩ := p_bytes2 (n := n) (e := e) hW hs
   have hlen := wB_len8 (w := w) (e := e) (n := n) (by omega)
   have hv := valB8 hlen
   rw [if_neg (by rw [pilt]; exact h1), if_neg (by rw [pilt]; exact h8), eb]
   dsimp only
   rw [p_value _ (by omega), if_pos hv]
   dsimp only
   by_cases e0 : e = 0
   ·rw [if_neg (show ¬ e ≠ 0 by simp [e0]), if_neg (by omega)]
    exact ⟨k1, k2, rfl, hk⟩
   ·rw [if_pos e0]
    have e1 : wB n w e = ([], w, e) := by unfold wB; rw [if_pos e0]
    rw [e1] at hk ⊢
    exact ⟨k1, k2, rfl, hk⟩
theorem p_open {s : List UInt8} (h : s.length ≤ 1000000) : F_octet_Open s = some s := by
 have : cloneB s = some s := by
  unfold cloneB
  rw [if_pos (by simp [xlen]; omega)]
 unfold F_octet_Open
 rw [this]
theorem wN1 {w : List UInt8} {e : Int} : 0 ≤ (wN 1 w e).1 ∧ (wN 1 w e).1 < 256 := by
 unfold wN
 split
 ·omega
 ·split
  ·omega
  ·have h : (wB 1 w e).1.length ≤ 1 := by
    unfold wB
    split
    ·simp
    ·split
     ·simp
     ·split
      ·simp
      ·simp [List.length_take]; omega
   have h1 := valB_lt (wB 1 w e).1
   have h2 : 256 ^ (wB 1 w e).1.length ≤ 256 ^ 1 := Nat.pow_le_pow_right (by omega) h
   omega
end Go.Proofs.YtbkcmpggacbikaaDoor
end
section
/-
  The sum of package frame: half a byte at a time, and bit by bit.
-/
set_option linter.unusedVariables false
set_option linter.unusedSimpArgs false
namespace Go.Proofs.YtbkcmpggacbikaaDoor
def stepC (x : BitVec 32) : BitVec 32 := (x >>> 1) ^^^ (if x.getLsbD 0 = true then 2197175160#32 else 0#32)
def step4 (x : BitVec 32) : BitVec 32 := stepC (stepC (stepC (stepC x)))
def crcB (x : BitVec 32) (c : UInt8) : BitVec 32 := step4 (step4 (x ^^^ BitVec.ofNat 32 c.toNat))
def crcs (x : BitVec 32) (s : List UInt8) : BitVec 32 := s.foldl crcB x
def sumV (s : List UInt8) : BitVec 32 := 4294967295#32 ^^^ crcs 4294967295#32 s
theorem stepC_t {x : BitVec 32} (h : x.getLsbD 0 = true) : stepC x = (x >>> 1) ^^^ 2197175160#32 := by unfold stepC; rw [if_pos h]
theorem stepC_f {x : BitVec 32} (h : x.getLsbD 0 = false) : stepC x = x >>> 1 := by unfold stepC; rw [h, if_neg (by simp)]; simp
theorem stepC_xor (a b : BitVec 32) : stepC (a ^^^ b) = stepC a ^^^ stepC b := by
 have hx : (a ^^^ b).getLsbD 0 = (a.getLsbD 0 ^^ b.getLsbD 0) := by simp
 cases ha : a.getLsbD 0 <;> cases hb : b.getLsbD 0 <;> rw [ha, hb] at hx
 ·rw [stepC_f ha, stepC_f hb, stepC_f hx, BitVec.ushiftRight_xor_distrib]
 ·rw [stepC_f ha, stepC_t hb, stepC_t hx, BitVec.ushiftRight_xor_distrib, BitVec.xor_assoc]
 ·rw [stepC_t ha, stepC_f hb, stepC_t hx, BitVec.ushiftRight_xor_distrib, BitVec.xor_assoc, BitVec.xor_assoc, BitVec.xor_comm (b >>> 1)]
 ·rw [stepC_t ha, stepC_t hb, stepC_f hx, BitVec.ushiftRight_xor_distrib, BitVec.xor_assoc, BitVec.xor_comm (b >>> 1), ← BitVec.xor_assoc 2197175160#32, BitVec.xor_self, BitVec.zero_xor]
theorem step4_xor (a b : BitVec 32) : step4 (a ^^^ b) = step4 a ^^^ step4 b := by
 unfold step4
 rw [stepC_xor, stepC_xor, stepC_xor, stepC_xor]
def halfV : List Int := [0, 274646895, 549293790, 820201905, 1098587580, 1361435347, 1640403810, 1905808397, 2197175160, 2460548119, 2722870694, 2987750089, 3280807620, 3553878443, 3811616794, 4084100981]
theorem step4_low : ∀ n : Fin 16, ((step4 (BitVec.ofNat 32 n.val)).toNat : Int) = getI halfV n.val := by decide +kernel
theorem step4_high (x : BitVec 32) : step4 (x &&& ~~~(15#32)) = x >>> 4 := by
 have g : ∀ i, i < 4 → (x &&& ~~~(15#32)).getLsbD i = false := by
  intro i hi
  have : i = 0 ∨ i = 1 ∨ i = 2 ∨ i = 3 := by omega
  rcases this with rfl | rfl | rfl | rfl <;> simp
 have s1 : stepC (x &&& ~~~(15#32)) = (x &&& ~~~(15#32)) >>> 1 := stepC_f (g 0 (by omega))
 have s2 : stepC ((x &&& ~~~(15#32)) >>> 1) = ((x &&& ~~~(15#32)) >>> 1) >>> 1 := stepC_f (by rw [BitVec.getLsbD_ushiftRight]; exact g 1 (by omega))
 have s3 : stepC (((x &&& ~~~(15#32)) >>> 1) >>> 1) = (((x &&& ~~~(15#32)) >>> 1) >>> 1) >>> 1 := stepC_f (by rw [BitVec.getLsbD_ushiftRight, BitVec.getLsbD_ushiftRight]; exact g 2 (by omega))
 have s4 : stepC ((((x &&& ~~~(15#32)) >>> 1) >>> 1) >>> 1) = ((((x &&& ~~~(15#32)) >>> 1) >>> 1) >>> 1) >>> 1 := stepC_f (by rw [BitVec.getLsbD_ushiftRight, BitVec.getLsbD_ushiftRight, BitVec.getLsbD_ushiftRight]; exact g 3 (by omega))
 unfold step4
 rw [s1, s2, s3, s4, ← BitVec.shiftRight_add, ← BitVec.shiftRight_add, ← BitVec.shiftRight_add]
 apply BitVec.eq_of_getLsbD_eq
 intro i hi
 simp only [BitVec.getLsbD_ushiftRight, BitVec.getLsbD_and, BitVec.getLsbD_not]
 by_cases h : 4 + i < 32
 ·have key : ∀ j : Fin 32, 4 ≤ j.val → (15#32).getLsbD j.val = false := by decide
  have h15 := key ⟨4 + i, h⟩ (Nat.le_add_right 4 i)
  simp only [] at h15
  rw [h15]
  simp only [h, decide_true, Bool.not_false, Bool.and_true]
 ·rw [BitVec.getLsbD_of_ge x _ (by omega)]
  simp
theorem vlow (x : BitVec 32) : ∃ n : Fin 16, x &&& 15#32 = BitVec.ofNat 32 n.val := by
 have h : (x &&& 15#32).toNat < 16 := by
  rw [BitVec.toNat_and]
  exact Nat.lt_of_le_of_lt Nat.and_le_right (by decide)
 refine ⟨⟨_, h⟩, ?_⟩
 simp
theorem vsplit (x : BitVec 32) : x = (x &&& ~~~(15#32)) ^^^ (x &&& 15#32) := by
 apply BitVec.eq_of_getLsbD_eq
 intro i hi
 simp only [BitVec.getLsbD_xor, BitVec.getLsbD_and, BitVec.getLsbD_not, hi, decide_true, Bool.true_and]
 cases x.getLsbD i <;> cases (15#32).getLsbD i <;> rfl
theorem ofV (x : BitVec 32) : BitVec.ofInt 32 (x.toNat : Int) = x := by
 rw [show BitVec.ofInt 32 (x.toNat : Int) = BitVec.ofNat 32 x.toNat from BitVec.ofInt_natCast 32 _]
 simp
theorem wV32 (x : BitVec 32) : IntKind.u32.wrap (x.toNat : Int) = (x.toNat : Int) := pu32 (by omega) (by have := x.isLt; omega)
theorem ixV (a b : BitVec 32) : ixor .u32 (a.toNat : Int) (b.toNat : Int) = ((a ^^^ b).toNat : Int) := by
 show IntKind.u32.wrap (((BitVec.ofInt 32 (a.toNat : Int) ^^^ BitVec.ofInt 32 (b.toNat : Int)).toNat : Nat) : Int) = _
 rw [ofV, ofV, wV32]
theorem iaV (a b : BitVec 32) : iand .u32 (a.toNat : Int) (b.toNat : Int) = ((a &&& b).toNat : Int) := by
 show IntKind.u32.wrap (((BitVec.ofInt 32 (a.toNat : Int) &&& BitVec.ofInt 32 (b.toNat : Int)).toNat : Nat) : Int) = _
 rw [ofV, ofV, wV32]
theorem ishV (a : BitVec 32) : ishr .u32 (a.toNat : Int) 4 = ((a >>> 4).toNat : Int) := by
 show (a.toNat : Int).fdiv (2 ^ 4) = _
 rw [BitVec.toNat_ushiftRight, Nat.shiftRight_eq_div_pow, Int.fdiv_eq_ediv_of_nonneg _ (by decide)]
 rfl
theorem half_step (x : BitVec 32) : ixor .u32 (ishr .u32 (x.toNat : Int) 4) (getI halfV (toN (iand .u32 (x.toNat : Int) 15))) = ((step4 x).toNat : Int) := by
 obtain ⟨n, hn⟩ := vlow x
 have e15 : (15 : Int) = ((15#32).toNat : Int) := rfl
 rw [e15, iaV, ishV, hn]
 have en : toN (((BitVec.ofNat 32 n.val).toNat : Nat) : Int) = n.val := by
  show (BitVec.ofNat 32 n.val).toNat = n.val
  rw [BitVec.toNat_ofNat]
  have := n.isLt
  omega
 rw [en, ← step4_low n, ixV, ← hn, ← step4_high x, ← step4_xor, ← vsplit]
theorem half_in (x : BitVec 32) : 0 ≤ iand .u32 (x.toNat : Int) 15 ∧ iand .u32 (x.toNat : Int) 15 < 16 := by
 obtain ⟨n, hn⟩ := vlow x
 have e15 : (15 : Int) = ((15#32).toNat : Int) := rfl
 rw [e15, iaV, hn, BitVec.toNat_ofNat]
 have := n.isLt
 omega
theorem u8V (c : UInt8) : iconv .u32 ((c.toNat : Nat) : Int) = ((BitVec.ofNat 32 c.toNat).toNat : Int) := by
 have := c.toNat_lt
 simp only [iconv]
 rw [pu32 (by omega) (by omega), BitVec.toNat_ofNat]
 omega
theorem crcs_take {s : List UInt8} {x : BitVec 32} {i : Nat} (h : i < s.length) : crcs x (s.take (i + 1)) = crcB (crcs x (s.take i)) s[i] := by
 unfold crcs
 rw [List.take_succ_eq_append_getElem h, List.foldl_append]
 rfl
theorem p_sum {s : List UInt8} (hs : s.length ≤ 1000000) : F_frame_Sum s = some ((sumV s).toNat : Int) := by
 have key : ∀ m i : Nat, i + m = s.length → iter (F_frame_Sum_L1 s) (((crcs 4294967295#32 (s.take i)).toNat : Int), (i : Int)) = some ((sumV s).toNat : Int) := by
  intro m
  induction m with
  | zero =>
   intro i hi
   apply iter_inr
   unfold F_frame_Sum_L1
   dsimp only
   have e : (4294967295 : Int) = ((4294967295#32).toNat : Int) := rfl
   rw [if_neg (by rw [pilt]; simp only [ofN, xlen]; omega), e, ixV, List.take_of_length_le (by omega)]
   rfl
  | succ m ih =>
   intro i hi
   have hlt : i < s.length := by omega
   rw [iter_inl (y := (((crcs 4294967295#32 (s.take (i + 1))).toNat : Int), ((i + 1 : Nat) : Int)))]
   ·exact ih (i + 1) (by omega)
   ·unfold F_frame_Sum_L1
    dsimp only
    rw [if_pos (by rw [pilt]; simp only [ofN, xlen]; omega), if_pos (by simp only [ofN, xlen]; omega), ptoN, pgetB hlt, u8V, ixV, crcs_take hlt]
    generalize crcs 4294967295#32 (s.take i) = x
    have one : ∀ (y : BitVec 32) (j : Nat), j < 2 → F_frame_Sum_L2 (i : Int) ((y.toNat : Int), (j : Int)) = some (.inl (((step4 y).toNat : Int), ((j + 1 : Nat) : Int))) := by
     intro y j hj
     have hh := half_step y
     have hi2 := half_in y
     unfold halfV at hh
     unfold F_frame_Sum_L2
     dsimp only
     rw [if_pos (by rw [pilt]; omega), if_pos (by omega), if_pos (by simp only [ofN, xlen, List.length_cons, List.length_nil]; omega), hh, pnext (by omega)]
    have h0 := one (x ^^^ BitVec.ofNat 32 s[i].toNat) 0 (by omega)
    have h1 := one (step4 (x ^^^ BitVec.ofNat 32 s[i].toNat)) 1 (by omega)
    have e0 : ((0 : Nat) : Int) = 0 := rfl
    rw [e0] at h0
    rw [iter_inl h0, iter_inl h1]
    apply iter_inr
    unfold F_frame_Sum_L2
    dsimp only
    rw [if_neg (by rw [pilt]; omega), pnext (by omega)]
    rfl
 unfold F_frame_Sum
 exact key s.length 0 (by omega)
end Go.Proofs.YtbkcmpggacbikaaDoor
end
section
/-
  Package frame in plain words: the document's sum, numbers as bytes.
-/
set_option linter.unusedVariables false
set_option linter.unusedSimpArgs false
namespace Go.Proofs.YtbkcmpggacbikaaDoor
def bigB (x : Nat) : Nat → List UInt8
 | 0 => []
 | n + 1 => UInt8.ofNat (x / 256 ^ n % 256) :: bigB x n
theorem bigB_len (x : Nat) : ∀ n, (bigB x n).length = n
 | 0 => rfl
 | n + 1 => by simp [bigB, bigB_len x n]
theorem p_byte {x : Nat} {i : Nat} (hx : x < 18446744073709551616) (hi : i < 8) : iconv .u8 (ishr .u64 (x : Int) (imul .i64 8 (i : Int))) = ((x / 256 ^ i % 256 : Nat) : Int) := by
 have e1 : imul .i64 8 (i : Int) = ((8 * i : Nat) : Int) := by
  simp only [imul]; rw [pwi64 (by omega) (by omega)]; omega
 rw [e1, pshr (by omega)]
 have e2 : (x : Int) / 2 ^ (8 * i) = ((x / 256 ^ i : Nat) : Int) := by
  have : (256 : Nat) ^ i = 2 ^ (8 * i) := by rw [Nat.pow_mul]
  rw [this]
  have h2 : ((2 ^ (8 * i) : Nat) : Int) = (2 : Int) ^ (8 * i) := by simp
  rw [← h2]
  exact (Int.natCast_ediv x (2 ^ (8 * i))).symm
 rw [e2]
 simp only [iconv]
 rw [pwu8]
 omega
theorem p_big {x : Nat} (hx : x < 18446744073709551616) (n : Nat) (h : n ≤ 8) : F_octet_Big (x : Int) (n : Int) = some (bigB x n) := by
 unfold F_octet_Big
 by_cases h1 : n < 1
 ·have : n = 0 := by omega
  subst this
  rw [if_pos (by rw [pilt]; omega)]
  rfl
 rw [if_neg (by rw [pilt]; omega), if_neg (by rw [pilt]; omega)]
 have key : ∀ (k : Nat) (acc : List UInt8), k ≤ 8 → acc.length + k ≤ 8 → iter (F_octet_Big_L1 (x : Int)) ((k : Int) - 1, acc) = some (acc ++ bigB x k) := by
  intro k
  induction k with
  | zero =>
   intro acc _ _
   apply iter_inr
   unfold F_octet_Big_L1
   dsimp only
   rw [if_neg (by rw [pile]; omega)]
   simp [bigB]
  | succ k ih =>
   intro acc hk ha
   have hb := p_byte hx (show k < 8 by omega)
   have e0 : ((k + 1 : Nat) : Int) - 1 = (k : Int) := by omega
   have e1 : imul .i64 8 (k : Int) = ((8 * k : Nat) : Int) := by
    simp only [imul]; rw [pwi64 (by omega) (by omega)]; omega
   have hlt : x / 256 ^ k % 256 < 256 := Nat.mod_lt _ (by omega)
   have e2 : isub .i64 (k : Int) 1 = (k : Int) - 1 := by simp only [isub]; rw [pwi64 (by omega) (by omega)]
   rw [e0, iter_inl (y := ((k : Int) - 1, acc ++ [UInt8.ofNat (x / 256 ^ k % 256)]))]
   ·rw [ih _ (by omega) (by simp; omega)]
    simp [bigB]
   ·unfold F_octet_Big_L1
    dsimp only
    rw [if_pos (by rw [pile]; omega), if_pos (by rw [e1]; omega), hb, if_pos ⟨by omega, by omega⟩, if_pos (by simp [xlen]; omega), e2]
    rfl
 have e : isub .i64 (n : Int) 1 = (n : Int) - 1 := by simp only [isub]; rw [pwi64 (by omega) (by omega)]
 rw [e, key n [] h (by simp; omega)]
 rfl
theorem notV (x : BitVec 32) : isub .u32 4294967295 (x.toNat : Int) = ((4294967295#32 ^^^ x).toNat : Int) := by
 have e : 4294967295#32 ^^^ x = ~~~x := by
  apply BitVec.eq_of_getLsbD_eq
  intro i hi
  have h1 : (4294967295#32).getLsbD i = true := by
   have key : ∀ j : Fin 32, (4294967295#32).getLsbD j.val = true := by decide
   exact key ⟨i, hi⟩
  rw [BitVec.getLsbD_xor, BitVec.getLsbD_not, h1]
  simp [hi]
 have := x.isLt
 rw [e, BitVec.toNat_not]
 simp only [isub]
 rw [pu32 (by omega) (by omega)]
 omega
theorem bit_step (y : BitVec 32) : (if ieq (irem (y.toNat : Int) 2) 1 = true then ixor .u32 (iquo .u32 (y.toNat : Int) 2) 2197175160 else iquo .u32 (y.toNat : Int) 2) = ((stepC y).toNat : Int) := by
 have hq : iquo .u32 (y.toNat : Int) 2 = ((y >>> 1).toNat : Int) := by
  have := y.isLt
  simp only [iquo]
  rw [Int.tdiv_eq_ediv_of_nonneg (by omega), pu32 (by omega) (by omega), BitVec.toNat_ushiftRight, Nat.shiftRight_eq_div_pow]
  rfl
 have hb : y.getLsbD 0 = decide (y.toNat % 2 = 1) := by
  rw [BitVec.getLsbD, Nat.testBit_zero]
 have hr : irem (y.toNat : Int) 2 = ((y.toNat % 2 : Nat) : Int) := by
  simp only [irem]
  rw [Int.tmod_eq_emod_of_nonneg (by omega)]
  omega
 by_cases h : y.toNat % 2 = 1
 ·rw [if_pos (by rw [pieq, hr, h]; rfl), hq, stepC_t (by rw [hb]; simp [h])]
  exact ixV _ 2197175160#32
 ·rw [if_neg (by rw [pieq, hr]; omega), hq, stepC_f (by rw [hb]; simp [h])]
theorem p_rsum {s : List UInt8} (hs : s.length ≤ 1000000) : F_tollbarref04_Sum s = some ((sumV s).toNat : Int) := by
 have key : ∀ m i : Nat, i + m = s.length → iter (F_tollbarref04_Sum_L1 s) (((crcs 4294967295#32 (s.take i)).toNat : Int), (i : Int)) = some ((sumV s).toNat : Int) := by
  intro m
  induction m with
  | zero =>
   intro i hi
   apply iter_inr
   unfold F_tollbarref04_Sum_L1
   dsimp only
   rw [if_neg (by rw [pilt]; simp only [ofN, xlen]; omega), notV, List.take_of_length_le (by omega)]
   rfl
  | succ m ih =>
   intro i hi
   have hlt : i < s.length := by omega
   rw [iter_inl (y := (((crcs 4294967295#32 (s.take (i + 1))).toNat : Int), ((i + 1 : Nat) : Int)))]
   ·exact ih (i + 1) (by omega)
   ·unfold F_tollbarref04_Sum_L1
    dsimp only
    rw [if_pos (by rw [pilt]; simp only [ofN, xlen]; omega), if_pos (by simp only [ofN, xlen]; omega), ptoN, pgetB hlt, u8V, ixV, crcs_take hlt]
    generalize crcs 4294967295#32 (s.take i) = x
    have one : ∀ (y : BitVec 32) (j : Nat), j < 8 → F_tollbarref04_Sum_L2 (i : Int) ((y.toNat : Int), (j : Int)) = some (.inl (((stepC y).toNat : Int), ((j + 1 : Nat) : Int))) := by
     intro y j hj
     have hh := bit_step y
     unfold F_tollbarref04_Sum_L2
     dsimp only
     rw [if_pos (by rw [pilt]; omega), pnext (by omega)]
     by_cases h : ieq (irem (y.toNat : Int) 2) 1 = true
     ·rw [if_pos h] at hh
      rw [if_pos h, hh]
     ·rw [if_neg h] at hh
      rw [if_neg h, hh]
    generalize hy : x ^^^ BitVec.ofNat 32 s[i].toNat = y
    have e0 : (0 : Int) = ((0 : Nat) : Int) := rfl
    rw [e0, iter_inl (one y 0 (by omega)), iter_inl (one _ 1 (by omega)), iter_inl (one _ 2 (by omega)), iter_inl (one _ 3 (by omega)), iter_inl (one _ 4 (by omega)), iter_inl (one _ 5 (by omega)), iter_inl (one _ 6 (by omega)), iter_inl (one _ 7 (by omega))]
    apply iter_inr
    unfold F_tollbarref04_Sum_L2
    dsimp only
    rw [if_neg (by rw [pilt]; omega), pnext (by omega)]
    unfold crcB
    rw [hy]
    rfl
 unfold F_tollbarref04_Sum
 exact key s.length 0 (by omega)
theorem p_rbig {x : Nat} (hx : x < 18446744073709551616) (n : Nat) (hn : n ≤ 8) : F_tollbarref01_Big (x : Int) (n : Int) = some (bigB x n) := by
 have key : ∀ m j : Nat, j + m = n → iter (F_tollbarref01_Big_L1 (n : Int)) (((x / 256 ^ j : Nat) : Int), bigB x j, (j : Int)) = some (bigB x n) := by
  intro m
  induction m with
  | zero =>
   intro j hj
   obtain rfl : j = n := by omega
   apply iter_inr
   unfold F_tollbarref01_Big_L1
   dsimp only
   rw [if_neg (by rw [pilt]; omega)]
  | succ m ih =>
   intro j hj
   rw [iter_inl (y := (((x / 256 ^ (j + 1) : Nat) : Int), bigB x (j + 1), ((j + 1 : Nat) : Int)))]
   ·exact ih (j + 1) (by omega)
   ·have hlt : x / 256 ^ j < 18446744073709551616 := Nat.lt_of_le_of_lt (Nat.div_le_self _ _) hx
    have hd : x / 256 ^ (j + 1) = x / 256 ^ j / 256 := by rw [Nat.pow_succ, Nat.div_div_eq_div_mul]
    have hb : bigB x (j + 1) = UInt8.ofNat (x / 256 ^ j % 256) :: bigB x j := rfl
    have hl := bigB_len x j
    rw [hd, hb]
    generalize x / 256 ^ j = z at *
    have er : iconv .u8 (irem (z : Int) 256) = ((z % 256 : Nat) : Int) := by
     simp only [iconv, irem]
     rw [Int.tmod_eq_emod_of_nonneg (by omega), pu8 (by omega) (by omega)]
     omega
    have eo : F_tollbarref01_one (z : Int) = some [UInt8.ofNat (z % 256)] := by
     unfold F_tollbarref01_one
     rw [er, if_pos (by omega)]
     rfl
    have eq : iquo .u64 (z : Int) 256 = ((z / 256 : Nat) : Int) := by
     simp only [iquo]
     rw [Int.tdiv_eq_ediv_of_nonneg (by omega), pu64 (by omega) (by omega)]
     omega
    unfold F_tollbarref01_Big_L1
    dsimp only
    rw [if_pos (by rw [pilt]; omega), if_pos (by rw [pile]; omega), eo]
    dsimp only
    rw [if_pos (by simp only [xlen, List.length_cons, List.length_nil]; omega), eq, pnext (by omega)]
    rfl
 have h := key n 0 (by omega)
 rw [Nat.pow_zero, Nat.div_one] at h
 exact h
theorem sum64 (s : List UInt8) : (sumV s).toNat < 18446744073709551616 := by have := (sumV s).isLt; omega
theorem cv64 (s : List UInt8) : iconv .u64 ((sumV s).toNat : Int) = ((sumV s).toNat : Int) := by
 have := sum64 s
 simp only [iconv]
 rw [pu64 (by omega) (by omega)]
theorem p_big4 (s : List UInt8) : F_octet_Big (iconv .u64 ((sumV s).toNat : Int)) 4 = some (bigB (sumV s).toNat 4) := by
 rw [cv64]
 exact p_big (sum64 s) 4 (by omega)
theorem p_rbig4 (s : List UInt8) : F_tollbarref01_Big (iconv .u64 ((sumV s).toNat : Int)) 4 = some (bigB (sumV s).toNat 4) := by
 rw [cv64]
 exact p_rbig (sum64 s) 4 (by omega)
theorem cvlen {n : Nat} (h : n ≤ 1000000) : iconv .u64 (ofN n) = (n : Int) := by
 simp only [iconv, ofN]
 rw [pu64 (by omega) (by omega)]
end Go.Proofs.YtbkcmpggacbikaaDoor
end
section
/-
  What is known of arguments: their numbers fit.
-/
set_option linter.unusedVariables false
set_option linter.unusedSimpArgs false
namespace Go.Proofs.YtbkcmpggacbikaaDoor
theorem wf_U {x : Int} (h : (Lit.int .u64 x).wf = true) : U x := by
 have : 0 ≤ x ∧ x ≤ 18446744073709551615 := by simpa [Lit.wf, IntKind.min, IntKind.max, IntKind.signed, IntKind.bits, Int.lt_add_one_iff, Int.le_sub_one_iff] using h
 unfold U; omega
theorem wf_u32 {x : Int} (h : (Lit.int .u32 x).wf = true) : 0 ≤ x ∧ x < 4294967296 := by
 have : 0 ≤ x ∧ x ≤ 4294967295 := by simpa [Lit.wf, IntKind.min, IntKind.max, IntKind.signed, IntKind.bits, Int.lt_add_one_iff, Int.le_sub_one_iff] using h
 omega
theorem wf_u16 {x : Int} (h : (Lit.int .u16 x).wf = true) : 0 ≤ x ∧ x < 65536 := by
 have : 0 ≤ x ∧ x ≤ 65535 := by simpa [Lit.wf, IntKind.min, IntKind.max, IntKind.signed, IntKind.bits, Int.lt_add_one_iff, Int.le_sub_one_iff] using h
 omega
theorem wf_u8 {x : Int} (h : (Lit.int .u8 x).wf = true) : 0 ≤ x ∧ x < 256 := by
 have : 0 ≤ x ∧ x ≤ 255 := by simpa [Lit.wf, IntKind.min, IntKind.max, IntKind.signed, IntKind.bits, Int.lt_add_one_iff, Int.le_sub_one_iff] using h
 omega
theorem wf_i64 {x : Int} (h : (Lit.int .i64 x).wf = true) : -9223372036854775808 ≤ x ∧ x ≤ 9223372036854775807 := by
 simpa [Lit.wf, IntKind.min, IntKind.max, IntKind.signed, IntKind.bits, Int.lt_add_one_iff, Int.le_sub_one_iff] using h
end Go.Proofs.YtbkcmpggacbikaaDoor
end
section
/-
  What a journal holds, in plain words: areas, their bytes and numbers.
-/
set_option linter.unusedVariables false
set_option linter.unusedSimpArgs false
namespace Go.Proofs.YtbkcmpggacbikaaDoor
theorem p_num1 {n e : Int} {s : List UInt8} (hs : s.length ≤ 1000000) : ∃ k1 k2, F_octet_Window_Num n e s = some ((wN n s e).1, k1, k2, (wN n s e).2.2) ∧ WS s k1 k2 (wN n s e).2.1 := by
 have hW := WS.all s
 have hx : xlen s = s.length := rfl
 unfold F_octet_Window_Num wN
 by_cases h1 : n < 1
 ·refine ⟨0, s.length, ?_, ?_⟩
  ·rw [if_pos (by rw [pilt]; exact h1), p_fail]
   by_cases e0 : e = 0
   ·rw [if_pos e0, if_neg (by simp [e0]), if_pos (.inl h1), hx]
   ·rw [if_neg e0, if_pos e0, hx]
  ·by_cases e0 : e = 0
   ·rw [if_neg (by simp [e0]), if_pos (.inl h1)]; exact hW
   ·rw [if_pos e0]; exact hW
 ·by_cases h8 : 8 < n
  ·refine ⟨0, s.length, ?_, ?_⟩
   ·rw [if_neg (by rw [pilt]; exact h1), if_pos (by rw [pilt]; exact h8), p_fail]
    by_cases e0 : e = 0
    ·rw [if_pos e0, if_neg (by simp [e0]), if_pos (.inr h8), hx]
    ·rw [if_neg e0, if_pos e0, hx]
   ·by_cases e0 : e = 0
    ·rw [if_neg (by simp [e0]), if_pos (.inr h8)]; exact hW
    ·rw [if_pos e0]; exact hW
  ·obtain ⟨k1, k2, eb, hk⟩ := p_bytes1 (n := n) (e := e) hs
   have hlen := wB_len8 (w := s) (e := e) (n := n) (by omega)
   have hv := valB8 hlen
   rw [if_neg (by rw [pilt]; exact h1), if_neg (by rw [pilt]; exact h8), eb]
   dsimp only
   rw [p_value _ (by omega), if_pos hv]
   dsimp only
   by_cases e0 : e = 0
   ·rw [if_neg (show ¬ e ≠ 0 by simp [e0]), if_neg (by omega)]
    exact ⟨k1, k2, rfl, hk⟩
   ·rw [if_pos e0]
    have e1 : wB n s e = ([], s, e) := by unfold wB; rw [if_pos e0]
    rw [e1] at hk ⊢
    exact ⟨k1, k2, rfl, hk⟩
structure Holds (r : List D) (n : Nat) (f : Nat → List UInt8) : Prop where
 len : r.length = n
 at_ : ∀ k, k < n → Is (getD r k) (f k)
theorem Holds.set {r : List D} {n : Nat} {f g : Nat → List UInt8} (h : Holds r n f) {k : Nat} (hk : k < n) {d : D} {s : List UInt8} (hi : Is d s) (hg : ∀ j, j < n → g j = if j = k then s else f j) : Holds (setD r k d) n g := by
 have hl := h.len
 refine ⟨by simp [setD, hl], fun j hj => ?_⟩
 rw [hg j hj]
 by_cases e : j = k
 ·subst e
  have e1 : getD (setD r j d) j = d := by simp [getD, setD, hl, hj]
  rw [e1, if_pos rfl]
  exact hi
 ·have e1 : getD (setD r k d) j = getD r j := by simp [getD, setD, List.getElem?_set_ne (Ne.symm e)]
  rw [e1, if_neg e]
  exact h.at_ j hj
theorem Holds.congr {r : List D} {n : Nat} {f g : Nat → List UInt8} (h : Holds r n f) (hg : ∀ j, j < n → g j = f j) : Holds r n g :=
 ⟨h.len, fun k hk => by rw [hg k hk]; exact h.at_ k hk⟩
theorem Holds.rel {r : List D} {n : Nat} {f : Nat → List UInt8} (h : Holds r n f) : Rel r ((List.range n).map fun k => .s (f k)) := by
 refine ⟨by simp [h.len], fun k hk => ?_⟩
 have hk' : k < n := by simpa using hk
 have : getD ((List.range n).map fun k => D.s (f k)) k = .s (f k) := by rw [pgetD hk]; simp
 rw [this]
 exact h.at_ k hk'
theorem Holds.read {r : List D} {n : Nat} {f : Nat → List UInt8} (h : Holds r n f) {i : Nat} (hi : i < n) (y : Int) : F_block_Device_Read (i : Int) false y r = some (0, f i) := by
 have hl : ((List.range n).map fun k => D.s (f k)).length = n := by simp
 have hm : mayV false ((List.range n).map fun k => D.s (f k)).length (i : Int) = 0 := by
  rw [hl]
  unfold mayV
  rw [if_neg (by simp), if_neg (by omega), if_neg (by omega)]
 have hr : readV false ((List.range n).map fun k => D.s (f k)) (i : Int) = f i := by
  unfold readV
  rw [if_pos hm, ptoN, pgetD (by simpa using hi)]
  simp [D.toS]
 rw [p_read h.rel, hm, hr]
theorem Holds.write {r : List D} {n : Nat} {f : Nat → List UInt8} (h : Holds r n f) {i : Nat} (hi : i < n) (y : Int) {s : List UInt8} (hs : s.length = 64) :
  F_block_Device_Write (i : Int) s false y r = some (0, iadd .i64 y 1, setD r i (arr64 s)) := by
 rw [p_write, if_pos (wV_of (by omega) (by rw [h.len]; omega) hs), ptoN]
theorem write_down {r : List D} {i y : Int} {s : List UInt8} : F_block_Device_Write i s true y r = some (3, y, r) := by
 rw [p_write]
 have : wV true r.length i s = 3 := by unfold wV mayV; simp
 rw [if_neg (by omega), this]
theorem Holds.write2 {r : List D} {n : Nat} {f : Nat → List UInt8} (h : Holds r n f) {i : Nat} (hi : i < n) (y z : Int) {u : Nat} (hu : u ≤ 64) {s : List UInt8} (hs : s.length = 64) :
  F_block_Device_Write_4 (i : Int) s false y r z (u : Int) = if z = 0 then some (.inr (setD r i (cpA 64 (getD r i) (s.take u)))) else some (.inl (0, iadd .i64 y 1, setD r i (arr64 s), isub .i64 z 1)) := by
 rw [p_write2 _ _ _ _ _ _ _ ⟨by omega, by omega⟩, if_pos (wV_of (by omega) (by rw [h.len]; omega) hs), ptoN, ptoN]
theorem Is.torn {d : D} {bs s : List UInt8} (h : Is d bs) (hs : s.length = 64) {u : Nat} (hu : u ≤ 64) : Is (cpA 64 d (s.take u)) (s.take u ++ bs.drop u) := by
 have := h.cp (s := s.take u) (by rw [List.length_take]; omega)
 rwa [show (s.take u).length = u by rw [List.length_take]; omega] at this
theorem Holds.l64 {r : List D} {n : Nat} {f : Nat → List UInt8} (h : Holds r n f) {k : Nat} (hk : k < n) : (f k).length = 64 := (h.at_ k hk).len
theorem holds_new (n : Nat) : Holds (List.replicate n Z64) n (fun _ => N64) := by
 refine ⟨by simp, fun k hk => ?_⟩
 have : getD (List.replicate n Z64) k = Z64 := by simp [getD, hk]
 rw [this]
 exact Is.zero
theorem foldB (s : List UInt8) : ∀ a : Nat, s.foldl (fun x c => x * 256 + c.toNat) a = a * 256 ^ s.length + valB s := by
 induction s with
 | nil => intro a; simp [valB]
 | cons c s ih =>
  intro a
  have e1 : valB (c :: s) = c.toNat * 256 ^ s.length + valB s := by
   show s.foldl (fun x c => x * 256 + c.toNat) (0 * 256 + c.toNat) = _
   rw [ih, Nat.zero_mul, Nat.zero_add]
  rw [List.foldl_cons, ih, e1, List.length_cons, Nat.pow_succ, Nat.add_mul, Nat.mul_assoc, Nat.mul_comm 256 (256 ^ s.length), Nat.add_assoc]
theorem valB_cons (c : UInt8) (s : List UInt8) : valB (c :: s) = c.toNat * 256 ^ s.length + valB s := by
 show s.foldl (fun x c => x * 256 + c.toNat) (0 * 256 + c.toNat) = _
 rw [foldB, Nat.zero_mul, Nat.zero_add]
theorem valB_bigB (x : Nat) : ∀ n, valB (bigB x n) = x % 256 ^ n
 | 0 => by simp [bigB, valB, Nat.mod_one]
 | n + 1 => by
  have hlt : x / 256 ^ n % 256 < 256 := Nat.mod_lt _ (by omega)
  rw [bigB, valB_cons, bigB_len, valB_bigB x n, UInt8.toNat_ofNat', Nat.mod_eq_of_lt hlt, Nat.pow_succ, Nat.mod_mul, Nat.mul_comm]
  omega
theorem bigB_mod (x : Nat) : ∀ n, bigB (x % 256 ^ n) n = bigB x n
 | 0 => rfl
 | n + 1 => by
  have h1 : x % 256 ^ (n + 1) % 256 ^ n = x % 256 ^ n := Nat.mod_mod_of_dvd _ ⟨256, by rw [Nat.pow_succ]⟩
  have h2 : x % 256 ^ (n + 1) / 256 ^ n % 256 = x / 256 ^ n % 256 := by
   rw [Nat.pow_succ, Nat.mod_mul_right_div_self, Nat.mod_mod]
  have h3 := bigB_mod (x % 256 ^ (n + 1)) n
  have h4 := bigB_mod x n
  simp only [bigB]
  rw [h2, ← h3, h1, h4]
theorem bigB_cat (x : Nat) (c : UInt8) (s : List UInt8) (n : Nat) (h : s.length = n) : bigB (c.toNat * 256 ^ n + valB s) (n + 1) = c :: bigB (valB s) n := by
 have hv : valB s < 256 ^ n := by rw [← h]; exact valB_lt s
 have hc := u8lt c
 have e1 : (c.toNat * 256 ^ n + valB s) / 256 ^ n = c.toNat := by
  rw [Nat.mul_comm, Nat.mul_add_div (Nat.pow_pos (by omega)), Nat.div_eq_of_lt hv]
  rfl
 have e2 : bigB (c.toNat * 256 ^ n + valB s) n = bigB (valB s) n := by
  rw [← bigB_mod]
  congr 1
  rw [Nat.mul_comm, Nat.mul_add_mod, Nat.mod_eq_of_lt hv]
 simp only [bigB]
 rw [e1, e2, Nat.mod_eq_of_lt hc]
 simp
theorem bigB_valB : ∀ (s : List UInt8), bigB (valB s) s.length = s
 | [] => rfl
 | c :: s => by
  rw [valB_cons, List.length_cons, bigB_cat 0 c s s.length rfl, bigB_valB s]
theorem big_iff {s : List UInt8} {n x : Nat} (hs : s.length = n) (hx : x < 256 ^ n) : s = bigB x n ↔ valB s = x := by
 constructor
 ·intro h
  rw [h, valB_bigB, Nat.mod_eq_of_lt hx]
 ·intro h
  rw [← h, ← hs, bigB_valB]
def dataV (f : Nat → List UInt8) (a : Nat) : Nat → List UInt8
 | 0 => []
 | m + 1 => dataV f a m ++ f (130 * a + 1 + m)
theorem dataV_len {f : Nat → List UInt8} {a : Nat} : ∀ {m : Nat}, (∀ i, i < m → (f (130 * a + 1 + i)).length = 64) → (dataV f a m).length = 64 * m
 | 0, _ => rfl
 | m + 1, h => by
  rw [dataV, List.length_append, dataV_len (fun i hi => h i (by omega)), h m (by omega)]
  omega
theorem dataV_congr {f g : Nat → List UInt8} {a : Nat} : ∀ {m : Nat}, (∀ i, i < m → f (130 * a + 1 + i) = g (130 * a + 1 + i)) → dataV f a m = dataV g a m
 | 0, _ => rfl
 | m + 1, h => by rw [dataV, dataV, dataV_congr (fun i hi => h i (by omega)), h m (by omega)]
def readD (f : Nat → List UInt8) (a L : Nat) : List UInt8 := (dataV f a ((L + 63) / 64)).take L
theorem readD_len {f : Nat → List UInt8} {a L : Nat} (h : ∀ i, i < (L + 63) / 64 → (f (130 * a + 1 + i)).length = 64) : (readD f a L).length = L := by
 rw [readD, List.length_take, dataV_len h]
 omega
def headV (n : Nat) (b : List UInt8) : List UInt8 := bigB n 8 ++ (bigB b.length 4 ++ (bigB (sumV b).toNat 4 ++ (List.replicate 40 0 ++ bigB n 8)))
theorem headV_len (n : Nat) (b : List UInt8) : (headV n b).length = 64 := by
 simp [headV, bigB_len]
def numW (w : List UInt8) : Nat := valB (w.take 8)
def lenW (w : List UInt8) : Nat := valB ((w.drop 8).take 4)
theorem numW_lt {w : List UInt8} (h : w.length = 64) : numW w < 18446744073709551616 := valB8 (by simp; omega)
theorem lenW_lt {w : List UInt8} (h : w.length = 64) : lenW w < 4294967296 := by
 have := valB_lt ((w.drop 8).take 4)
 have e : ((w.drop 8).take 4).length = 4 := by simp; omega
 rw [e] at this
 exact this
def wholeV (f : Nat → List UInt8) (a : Nat) : List UInt8 × Nat :=
 if numW (f (130 * a)) ≠ 0 ∧ numW (f (130 * a)) % 2 = a ∧ lenW (f (130 * a)) ≤ 8192 ∧ f (130 * a) = headV (numW (f (130 * a))) (readD f a (lenW (f (130 * a)))) then
  (readD f a (lenW (f (130 * a))), numW (f (130 * a))) else ([], 0)
def loadV (f : Nat → List UInt8) : List UInt8 × Nat × Int :=
 if (wholeV f 0).2 = 0 ∧ (wholeV f 1).2 = 0 then ([], 0, 39) else if (wholeV f 1).2 < (wholeV f 0).2 then ((wholeV f 0).1, (wholeV f 0).2, 0) else ((wholeV f 1).1, (wholeV f 1).2, 0)
theorem p_jhead {n : Nat} (hn : n < 18446744073709551616) {t : List UInt8} {k : Nat} (hk : (lsub t 0 k).length = k) (hk2 : k ≤ 8192) : F_journal_head (n : Int) 0 k t = some (headV n (lsub t 0 k)) := by
 have e1 : iconv .u64 (ofN k) = ((k : Nat) : Int) := cvlen (by omega)
 have b8 : F_octet_Big (n : Int) 8 = some (bigB n 8) := p_big hn 8 (by omega)
 have b4 : F_octet_Big ((k : Nat) : Int) 4 = some (bigB k 4) := p_big (by omega) 4 (by omega)
 unfold F_journal_head
 rw [b8]
 dsimp only
 rw [e1, b4]
 dsimp only
 rw [p_sum (by omega)]
 dsimp only
 rw [p_big4]
 dsimp only
 rw [if_pos (by omega)]
 have hj : joinL [D.s (bigB n 8), D.s (bigB k 4), D.s (bigB (sumV (lsub t 0 k)).toNat 4), D.s (@lrep UInt8 (toN 40) 0), D.s (bigB n 8)] = headV n (lsub t 0 k) := by
  simp only [joinL, headV, List.map_cons, List.map_nil, D.toS, List.flatten_cons, List.flatten_nil, List.append_nil, hk]
  rfl
 have hjl : (joinL [D.s (bigB n 8), D.s (bigB k 4), D.s (bigB (sumV (lsub t 0 k)).toNat 4), D.s (@lrep UInt8 (toN 40) 0), D.s (bigB n 8)]).length = 64 := by rw [hj]; exact headV_len _ _
 unfold joinB
 rw [if_pos ⟨by simp [xlen], by simp [xlen], by simp only [xlen]; omega⟩, hj]
theorem p_jhead2 {n : Nat} (hn : n < 18446744073709551616) {s : List UInt8} (hs : s.length ≤ 8192) : F_journal_head_2 (n : Int) s = some (headV n s) := by
 have h := p_jhead hn (t := s) (k := s.length) (by simp [lsub]) hs
 have e : lsub s 0 s.length = s := by simp [lsub]
 rw [e] at h
 rw [← h]
 unfold F_journal_head F_journal_head_2
 rw [e]
 rfl
theorem p_jread {r : List D} {N : Nat} {f : Nat → List UInt8} (hR : Holds r N f) (hN : 260 ≤ N ∧ N ≤ 2000) {a L : Nat} (ha : a ≤ 1) (hL : L ≤ 8192) (x : Int) :
  ∃ t, F_journal_read (a : Int) (L : Int) false x r = some (L, t) ∧ lsub t 0 L = readD f a L := by
 have h64 : ∀ i, i < 128 → (f (130 * a + 1 + i)).length = 64 := fun i hi => hR.l64 (by omega)
 have key : ∀ d m : Nat, m + d = (L + 63) / 64 → iter (F_journal_read_L1 (L : Int) false x r) (((130 * a + 1 + m : Nat) : Int), dataV f a m) = some (L, dataV f a ((L + 63) / 64)) := by
  intro d
  induction d with
  | zero =>
   intro m hm
   have hl := dataV_len (f := f) (a := a) (m := m) (fun i hi => h64 i (by omega))
   obtain rfl : m = (L + 63) / 64 := by omega
   apply iter_inr
   unfold F_journal_read_L1
   dsimp only
   rw [if_neg (by rw [pilt]; simp only [ofN, xlen]; omega), if_pos (by simp only [ofN, xlen]; omega), ptoN]
  | succ d ih =>
   intro m hm
   have hl := dataV_len (f := f) (a := a) (m := m) (fun i hi => h64 i (by omega))
   have h6 := h64 m (by omega)
   rw [iter_inl (y := (((130 * a + 1 + (m + 1) : Nat) : Int), dataV f a (m + 1)))]
   ·exact ih (m + 1) (by omega)
   ·unfold F_journal_read_L1
    dsimp only
    rw [if_pos (by rw [pilt]; simp only [ofN, xlen]; omega), hR.read (by omega)]
    dsimp only
    rw [if_pos (by rw [pieq]), if_pos (by simp only [xlen]; omega), pnext (by omega)]
    rfl
 refine ⟨dataV f a ((L + 63) / 64), ?_, rfl⟩
 have h := key ((L + 63) / 64) 0 (by omega)
 unfold F_journal_read
 have e1 : iadd .i64 (imul .i64 (iconv .i64 (a : Int)) 130) 1 = ((130 * a + 1 + 0 : Nat) : Int) := by
  simp only [iadd, imul, iconv]
  rw [pwi64 (x := (a : Int)) (by omega) (by omega), pwi64 (x := (a : Int) * 130) (by omega) (by omega), pwi64 (by omega) (by omega)]
  omega
 rw [e1]
 exact h
theorem p_whole {r : List D} {N : Nat} {f : Nat → List UInt8} (hR : Holds r N f) (hN : 260 ≤ N ∧ N ≤ 2000) {a : Nat} (ha : a ≤ 1) (x : Int) :
  ∃ k t, F_journal_whole (a : Int) false x r = some (k, ((wholeV f a).2 : Int), t) ∧ lsub t 0 k = (wholeV f a).1 := by
 have hw : (f (130 * a)).length = 64 := hR.l64 (by omega)
 have hnl := numW_lt hw
 have hll := lenW_lt hw
 have e1 : imul .i64 (iconv .i64 (a : Int)) 130 = ((130 * a : Nat) : Int) := by
  simp only [imul, iconv]
  rw [pwi64 (x := (a : Int)) (by omega) (by omega), pwi64 (by omega) (by omega)]
  omega
 unfold F_journal_whole
 rw [e1, hR.read (by omega)]
 dsimp only
 rw [if_pos (by rw [pieq]), p_open (by omega)]
 dsimp only
 obtain ⟨k1, k2, q1, q2⟩ := p_num1 (n := 8) (e := 0) (s := f (130 * a)) (by omega)
 have w1 : wN 8 (f (130 * a)) 0 = ((numW (f (130 * a)) : Int), (f (130 * a)).drop 8, 0) := by
  unfold wN wB numW
  rw [if_neg (by simp), if_neg (by omega), if_neg (by simp), if_neg (by omega), if_neg (by omega)]
  rfl
 rw [w1] at q1 q2
 rw [q1]
 dsimp only
 obtain ⟨k3, k4, q3, q4⟩ := p_num2 (n := 4) (e := 0) q2 (by omega)
 have w2 : wN 4 ((f (130 * a)).drop 8) 0 = ((lenW (f (130 * a)) : Int), ((f (130 * a)).drop 8).drop 4, 0) := by
  unfold wN wB lenW
  rw [if_neg (by simp), if_neg (by omega), if_neg (by simp), if_neg (by omega), if_neg (by simp; omega)]
  rfl
 dsimp only at q3 q4
 rw [w2] at q3
 rw [q3]
 dsimp only
 generalize hn : numW (f (130 * a)) = n at *
 generalize hl : lenW (f (130 * a)) = L at *
 have bad : ¬ (n ≠ 0 ∧ n % 2 = a ∧ L ≤ 8192 ∧ f (130 * a) = headV n (readD f a L)) → wholeV f a = ([], 0) := by
  intro h
  unfold wholeV
  rw [hn, hl, if_neg h]
 by_cases h0 : n = 0
 ·rw [if_pos (by rw [pieq]; omega), bad (fun h => h.1 h0)]
  exact ⟨0, [], rfl, rfl⟩
 rw [if_neg (by rw [pieq]; omega)]
 have e2 : irem (n : Int) 2 = ((n % 2 : Nat) : Int) := by
  simp only [irem]
  rw [Int.tmod_eq_emod_of_nonneg (by omega)]
  omega
 by_cases h2 : n % 2 = a
 ·rw [if_pos (by rw [pieq, e2]; omega)]
  by_cases h3 : L ≤ 8192
  ·rw [if_neg (by rw [pilt]; omega)]
   have e3 : iconv .i64 (L : Int) = (L : Int) := by simp only [iconv]; rw [pwi64 (by omega) (by omega)]
   obtain ⟨t, g1, g2⟩ := p_jread hR hN ha h3 x
   have hrl := readD_len (f := f) (a := a) (L := L) (fun i hi => hR.l64 (by omega))
   rw [e3, g1]
   dsimp only
   rw [p_jhead hnl (by rw [g2, hrl]) h3, g2]
   dsimp only
   unfold F_bytes_Equal
   dsimp only
   by_cases h4 : f (130 * a) = headV n (readD f a L)
   ·rw [if_pos (by rw [pseq]; exact h4)]
    have : wholeV f a = (readD f a L, n) := by
     unfold wholeV
     rw [hn, hl, if_pos ⟨h0, h2, h3, h4⟩]
    rw [this]
    exact ⟨L, t, rfl, g2⟩
   ·rw [if_neg (by rw [pseq]; exact h4), bad (fun h => h4 h.2.2.2)]
    exact ⟨0, [], rfl, rfl⟩
  ·rw [if_pos (by rw [pilt]; omega), bad (fun h => h3 h.2.2.1)]
   exact ⟨0, [], rfl, rfl⟩
 ·rw [if_neg (by rw [pieq, e2]; omega), bad (fun h => h2 h.2.1)]
  exact ⟨0, [], rfl, rfl⟩
theorem whole_lt {f : Nat → List UInt8} {a : Nat} (h : (f (130 * a)).length = 64) : (wholeV f a).2 < 18446744073709551616 := by
 unfold wholeV
 split
 ·exact numW_lt h
 ·show 0 < _; omega
theorem p_load {r : List D} {N : Nat} {f : Nat → List UInt8} (hR : Holds r N f) (hN : 260 ≤ N ∧ N ≤ 2000) (x : Int) :
  ∃ k t, F_journal_Load false x r = some (k, ((loadV f).2.1 : Int), (loadV f).2.2, t) ∧ lsub t 0 k = (loadV f).1 := by
 obtain ⟨k1, t1, g1, g2⟩ := p_whole hR hN (a := 0) (by omega) x
 obtain ⟨k2, t2, g3, g4⟩ := p_whole hR hN (a := 1) (by omega) x
 have g1 : F_journal_whole (0 : Int) false x r = some (k1, ((wholeV f 0).2 : Int), t1) := g1
 have g3 : F_journal_whole (1 : Int) false x r = some (k2, ((wholeV f 1).2 : Int), t2) := g3
 unfold F_journal_Load F_block_Device_Blocks
 dsimp only
 rw [if_neg (by rw [pilt]; simp only [ofN, xlen, hR.len]; omega)]
 unfold F_block_Device_Down
 dsimp only
 rw [if_neg (by simp), g1]
 dsimp only
 rw [g3]
 dsimp only
 unfold loadV
 generalize (wholeV f 0) = A at *
 generalize (wholeV f 1) = B at *
 obtain ⟨a, n⟩ := A
 obtain ⟨b, m⟩ := B
 dsimp only at *
 by_cases h0 : n = 0
 ·by_cases h1 : m = 0
  ·rw [if_pos (show n = 0 ∧ m = 0 from ⟨h0, h1⟩), if_pos (by rw [pieq]; omega), if_pos (by rw [pieq]; omega)]
   exact ⟨0, [], rfl, rfl⟩
  ·rw [if_neg (show ¬ (n = 0 ∧ m = 0) from fun h => h1 h.2), if_neg (show ¬ m < n by omega), if_pos (by rw [pieq]; omega), if_neg (by rw [pieq]; omega), if_neg (by rw [pilt]; omega)]
   exact ⟨k2, t2, rfl, g4⟩
 ·rw [if_neg (show ¬ (n = 0 ∧ m = 0) from fun h => h0 h.1), if_neg (by rw [pieq]; omega)]
  by_cases h1 : m < n
  ·rw [if_pos h1, if_pos (by rw [pilt]; omega)]
   exact ⟨k1, t1, rfl, g2⟩
  ·rw [if_neg h1, if_neg (by rw [pilt]; omega)]
   exact ⟨k2, t2, rfl, g4⟩
theorem load_down (x : Int) {r : List D} (h : 260 ≤ r.length) : F_journal_Load true x r = some (0, 0, 3, []) := by
 unfold F_journal_Load F_block_Device_Blocks
 dsimp only
 rw [if_neg (by rw [pilt]; simp only [ofN, xlen]; omega)]
 rfl
theorem load3_eq (b : Bool) (x : Int) (r : List D) (z u : Int) : F_journal_Load_3 b x r z u = F_journal_Load b x r := rfl
end Go.Proofs.YtbkcmpggacbikaaDoor
end
section
/-
  What a save does, in plain words.
-/
set_option linter.unusedVariables false
set_option linter.unusedSimpArgs false
namespace Go.Proofs.YtbkcmpggacbikaaDoor
def pad64 (s : List UInt8) : List UInt8 := s ++ List.replicate (64 - s.length) 0
def chunkV (b : List UInt8) (i : Nat) : List UInt8 := pad64 ((b.drop (64 * i)).take 64)
theorem chunk_len (b : List UInt8) (i : Nat) : (chunkV b i).length = 64 := by
 simp [chunkV, pad64]
 omega
def needV (b : List UInt8) : Nat := (b.length + 63) / 64
def fillV (f : Nat → List UInt8) (a : Nat) (b : List UInt8) (m : Nat) : Nat → List UInt8 := fun j => if 130 * a + 1 ≤ j ∧ j < 130 * a + 1 + m then chunkV b (j - (130 * a + 1)) else f j
def savedV (f : Nat → List UInt8) (n : Nat) (b : List UInt8) : Nat → List UInt8 := fun j => if j = 130 * (n % 2) then headV n b else fillV f (n % 2) b (needV b) j
def tornV (f : Nat → List UInt8) (n : Nat) (b : List UInt8) (w K : Nat) : Nat → List UInt8 :=
 if w < needV b then fun j => if j = 130 * (n % 2) + 1 + w then (chunkV b w).take K ++ (f j).drop K else fillV f (n % 2) b w j
 else fun j => if j = 130 * (n % 2) then (headV n b).take K ++ (f j).drop K else fillV f (n % 2) b (needV b) j
def nextN (y : Nat) : Nat := (y + 1) % 18446744073709551616
theorem fill_zero (f : Nat → List UInt8) (a : Nat) (b : List UInt8) : fillV f a b 0 = f := by
 funext j
 unfold fillV
 rw [if_neg (by omega)]
theorem fill_succ {f : Nat → List UInt8} {a : Nat} {b : List UInt8} {m : Nat} (j : Nat) : fillV f a b (m + 1) j = if j = 130 * a + 1 + m then chunkV b m else fillV f a b m j := by
 unfold fillV
 by_cases h : j = 130 * a + 1 + m
 ·subst h
  rw [if_pos (by omega), if_pos rfl]
  congr 1
  omega
 ·rw [if_neg h]
  by_cases h2 : 130 * a + 1 ≤ j ∧ j < 130 * a + 1 + m
  ·rw [if_pos (by omega), if_pos h2]
  ·rw [if_neg (by omega), if_neg h2]
theorem fill_out {f : Nat → List UInt8} {a : Nat} {b : List UInt8} {m j : Nat} (h : j ≤ 130 * a ∨ 130 * a + 1 + m ≤ j) : fillV f a b m j = f j := by
 unfold fillV
 rw [if_neg (by omega)]
theorem load_e (f : Nat → List UInt8) : (loadV f).2.2 = 0 ∨ (loadV f).2.2 = 39 := by
 unfold loadV
 split
 ·exact .inr rfl
 ·split <;> exact .inl rfl
theorem load_lt {f : Nat → List UInt8} (h0 : (f 0).length = 64) (h1 : (f 130).length = 64) : (loadV f).2.1 < 18446744073709551616 := by
 have g0 := whole_lt (f := f) (a := 0) h0
 have g1 := whole_lt (f := f) (a := 1) h1
 unfold loadV
 split
 ·show 0 < _; omega
 ·split
  ·exact g0
  ·exact g1
theorem p_chunk {s : List UInt8} {m : Nat} (h : 64 * m < s.length) (hs : s.length ≤ 8192) :
  lspl (@lrep UInt8 (toN 64) 0) 0 (lsub (lsub s (toN ((64 * m : Nat) : Int)) (ndec (xlen s) (toN ((64 * m : Nat) : Int)))) 0 (nmin (xlen (@lrep UInt8 (toN 64) 0)) (xlen (lsub s (toN ((64 * m : Nat) : Int)) (ndec (xlen s) (toN ((64 * m : Nat) : Int))))))) = chunkV s m := by
 have e1 : lsub s (toN ((64 * m : Nat) : Int)) (ndec (xlen s) (toN ((64 * m : Nat) : Int))) = s.drop (64 * m) := by
  rw [ptoN]
  unfold lsub ndec xlen
  rw [List.take_of_length_le]
  simp
 have e2 : xlen (@lrep UInt8 (toN 64) 0) = 64 := by simp [xlen, lrep, toN]
 rw [e1, e2]
 have e3 : lsub (s.drop (64 * m)) 0 (nmin 64 (xlen (s.drop (64 * m)))) = (s.drop (64 * m)).take 64 := by
  unfold lsub xlen
  rw [List.drop_zero]
  by_cases h2 : 64 ≤ (s.drop (64 * m)).length
  ·have : nmin 64 (s.drop (64 * m)).length = 64 := by unfold nmin; omega
   rw [this]
  ·have : nmin 64 (s.drop (64 * m)).length = (s.drop (64 * m)).length := by unfold nmin; omega
   rw [this, List.take_of_length_le (Nat.le_refl _), List.take_of_length_le (by omega)]
 rw [e3]
 unfold lspl chunkV pad64 lrep toN
 rw [List.take_zero, List.nil_append, Nat.zero_add, List.drop_replicate]
 rfl
theorem next_eq {y : Nat} (hy : y < 18446744073709551616) : iadd .u64 (y : Int) 1 = ((nextN y : Nat) : Int) := by
 unfold iadd nextN
 rw [pwu64]
 omega
theorem next_lt (y : Nat) : nextN y < 18446744073709551616 := Nat.mod_lt _ (by omega)
theorem at_head (n : Nat) : imul .i64 (iconv .i64 (irem (n : Int) 2)) 130 = ((130 * (n % 2) : Nat) : Int) := by
 have e2 : irem (n : Int) 2 = ((n % 2 : Nat) : Int) := by
  simp only [irem]
  rw [Int.tmod_eq_emod_of_nonneg (by omega)]
  omega
 rw [e2]
 have : n % 2 < 2 := Nat.mod_lt _ (by omega)
 simp only [imul, iconv]
 rw [pwi64 (x := ((n % 2 : Nat) : Int)) (by omega) (by omega), pwi64 (by omega) (by omega)]
 omega
theorem at_data (n : Nat) {m : Nat} (hm : m ≤ 1000) : iadd .i64 (iadd .i64 (imul .i64 (iconv .i64 (irem (n : Int) 2)) 130) 1) (iquo .i64 ((64 * m : Nat) : Int) 64) = ((130 * (n % 2) + 1 + m : Nat) : Int) := by
 have : n % 2 < 2 := Nat.mod_lt _ (by omega)
 have e1 : iquo .i64 ((64 * m : Nat) : Int) 64 = (m : Int) := by
  simp only [iquo]
  rw [Int.tdiv_eq_ediv_of_nonneg (by omega), pwi64 (by omega) (by omega)]
  omega
 rw [at_head, e1]
 simp only [iadd]
 rw [pwi64 (x := ((130 * (n % 2) : Nat) : Int) + 1) (by omega) (by omega), pwi64 (by omega) (by omega)]
 omega
theorem step64 {m : Nat} (hm : m ≤ 1000) : iadd .i64 ((64 * m : Nat) : Int) 64 = ((64 * (m + 1) : Nat) : Int) := by
 simp only [iadd]
 rw [pwi64 (by omega) (by omega)]
 omega
theorem count1 {x : Int} {m : Nat} (hx : 0 ≤ x ∧ x ≤ 1000000000) (hm : m ≤ 1000) : iadd .i64 (x + (m : Int)) 1 = x + ((m + 1 : Nat) : Int) := by
 simp only [iadd]
 rw [pwi64 (by omega) (by omega)]
 omega
theorem need_le {s : List UInt8} (hs : s.length ≤ 8192) : needV s ≤ 128 := by unfold needV; omega
theorem need_lt {s : List UInt8} {m : Nat} : m < needV s ↔ 64 * m < s.length := by unfold needV; omega
theorem save_loop {N : Nat} {f : Nat → List UInt8} (hN : 260 ≤ N ∧ N ≤ 2000) {x : Int} (hx : 0 ≤ x ∧ x ≤ 1000000000) {s : List UInt8} (hs : s.length ≤ 8192) {y : Nat} (hy : y < 18446744073709551616) :
  ∀ (d m : Nat) (r : List D), m + d = needV s → Holds r N (fillV f (nextN y % 2) s m) →
   ∃ r', iter (F_journal_Save_L1 s (y : Int) false) (((64 * m : Nat) : Int), x + (m : Int), r) = some (0, x + ((needV s + 1 : Nat) : Int), r') ∧ Holds r' N (savedV f (nextN y) s) := by
 have hn := next_lt y
 have hnl := need_le hs
 have h2 : nextN y % 2 < 2 := Nat.mod_lt _ (by omega)
 intro d
 induction d with
 | zero =>
  intro m r hm hR
  obtain rfl : m = needV s := by omega
  have hlt : ¬ 64 * needV s < s.length := fun h => by have := need_lt.2 h; omega
  refine ⟨setD r (130 * (nextN y % 2)) (arr64 (headV (nextN y) s)), ?_, ?_⟩
  ·apply iter_inr
   unfold F_journal_Save_L1
   dsimp only
   rw [if_neg (by rw [pilt]; simp only [ofN, xlen]; omega), next_eq hy, p_jhead2 hn hs]
   dsimp only
   rw [at_head, hR.write (by omega) _ (headV_len _ _), count1 hx (by omega)]
   dsimp only
   rw [if_pos (by rw [pieq])]
  ·exact hR.set (by omega) (Is.arr (headV_len _ _)) (fun j hj => rfl)
 | succ d ih =>
  intro m r hm hR
  have hlt : 64 * m < s.length := need_lt.1 (by omega)
  obtain ⟨r', g1, g2⟩ := ih (m + 1) (setD r (130 * (nextN y % 2) + 1 + m) (arr64 (chunkV s m))) (by omega) (hR.set (by omega) (Is.arr (chunk_len _ _)) (fun j hj => fill_succ j))
  refine ⟨r', ?_, g2⟩
  rw [← g1]
  apply iter_inl
  unfold F_journal_Save_L1
  dsimp only
  rw [if_pos (by rw [pilt]; simp only [ofN, xlen]; omega), if_pos (by omega), if_pos (by simp only [ofN, xlen]; omega), p_chunk hlt hs, next_eq hy, at_data _ (by omega), hR.write (by omega) _ (chunk_len _ _), count1 hx (by omega)]
  dsimp only
  rw [if_pos (by rw [pieq]), step64 (by omega)]
theorem save_big {s : List UInt8} (hs : 8192 < s.length) (hs2 : s.length ≤ 1000000) {r : List D} {N : Nat} {f : Nat → List UInt8} (hR : Holds r N f) (hN : 260 ≤ N ∧ N ≤ 2000) (b : Bool) (x : Int) : F_journal_Save s b x r = some (14, x, r) := by
 unfold F_journal_Save
 cases b with
 | true =>
  rw [load_down x (by rw [hR.len]; omega)]
  dsimp only
  rw [if_neg (by rw [pieq]; omega), if_pos (by rw [pilt]; simp only [ofN, xlen]; omega)]
 | false =>
  obtain ⟨k, t, g1, g2⟩ := p_load hR hN x
  rw [g1]
  dsimp only
  rw [if_neg (by rw [pieq]; have := load_e f; omega), if_pos (by rw [pilt]; simp only [ofN, xlen]; omega)]
theorem save_down {s : List UInt8} (hs : s.length ≤ 8192) {r : List D} (hr : 260 ≤ r.length) (x : Int) : F_journal_Save s true x r = some (3, x, r) := by
 unfold F_journal_Save
 rw [load_down x hr]
 dsimp only
 rw [if_neg (by rw [pieq]; omega), if_neg (by rw [pilt]; simp only [ofN, xlen]; omega), if_pos (by rw [pieq])]
theorem p_save {s : List UInt8} (hs : s.length ≤ 8192) {r : List D} {N : Nat} {f : Nat → List UInt8} (hR : Holds r N f) (hN : 260 ≤ N ∧ N ≤ 2000) {x : Int} (hx : 0 ≤ x ∧ x ≤ 1000000000) :
  ∃ r', F_journal_Save s false x r = some (0, x + ((needV s + 1 : Nat) : Int), r') ∧ Holds r' N (savedV f (nextN (loadV f).2.1) s) := by
 obtain ⟨k, t, g1, g2⟩ := p_load hR hN x
 have hy := load_lt (f := f) (hR.l64 (by omega)) (hR.l64 (by omega))
 obtain ⟨r', g3, g4⟩ := save_loop (f := f) hN hx hs hy (needV s) 0 r (by omega) (by rw [fill_zero]; exact hR)
 refine ⟨r', ?_, g4⟩
 unfold F_journal_Save
 rw [g1]
 dsimp only
 have he := load_e f
 rw [if_neg (by rw [pieq]; omega), if_neg (by rw [pilt]; simp only [ofN, xlen]; omega), if_neg (by rw [pieq]; omega)]
 unfold F_journal_blocks
 dsimp only
 have e0 : x + ((0 : Nat) : Int) = x := by omega
 have e1 : ((64 * 0 : Nat) : Int) = 0 := by omega
 rw [e0, e1] at g3
 exact g3
theorem save3_loop {N : Nat} {f : Nat → List UInt8} (hf : ∀ k, k < N → (f k).length = 64) (hN : 260 ≤ N ∧ N ≤ 2000) {x : Int} (hx : 0 ≤ x ∧ x ≤ 1000000000) {s : List UInt8} (hs : s.length ≤ 8192) {y : Nat} (hy : y < 18446744073709551616) {w K : Nat} (hw : w ≤ 1000) (hK : K ≤ 64) :
  ∀ (d m : Nat) (r : List D), m + d = needV s → m ≤ w → Holds r N (fillV f (nextN y % 2) s m) →
   (needV s + 1 ≤ w → ∃ r', iter (F_journal_Save_3_L1 s (y : Int) false (K : Int)) (((64 * m : Nat) : Int), x + (m : Int), r, (w : Int) - (m : Int)) = some (.inl (0, x + ((needV s + 1 : Nat) : Int), r', (w : Int) - ((needV s + 1 : Nat) : Int))) ∧ Holds r' N (savedV f (nextN y) s)) ∧
   (w ≤ needV s → ∃ r' z, iter (F_journal_Save_3_L1 s (y : Int) false (K : Int)) (((64 * m : Nat) : Int), x + (m : Int), r, (w : Int) - (m : Int)) = some (.inr (x + (w : Int), r', z)) ∧ Holds r' N (tornV f (nextN y) s w K)) := by
 have hn := next_lt y
 have hnl := need_le hs
 have h2 : nextN y % 2 < 2 := Nat.mod_lt _ (by omega)
 have sub1 : ∀ m : Nat, m ≤ 1000 → isub .i64 ((w : Int) - (m : Int)) 1 = (w : Int) - ((m + 1 : Nat) : Int) := fun m hm => by
  simp only [isub]
  rw [pwi64 (by omega) (by omega)]
  omega
 intro d
 induction d with
 | zero =>
  intro m r hm hmw hR
  obtain rfl : m = needV s := by omega
  have hlt : ¬ 64 * needV s < s.length := fun h => by have := need_lt.2 h; omega
  have hwr := hR.write2 (i := 130 * (nextN y % 2)) (by omega) (x + ((needV s : Nat) : Int)) ((w : Int) - ((needV s : Nat) : Int)) hK (headV_len (nextN y) s)
  refine ⟨fun hlw => ⟨setD r (130 * (nextN y % 2)) (arr64 (headV (nextN y) s)), ?_, ?_⟩, fun hwl => ⟨setD r (130 * (nextN y % 2)) (cpA 64 (getD r (130 * (nextN y % 2))) ((headV (nextN y) s).take K)), (w : Int) - ((needV s : Nat) : Int), ?_, ?_⟩⟩
  ·apply iter_inr
   unfold F_journal_Save_3_L1
   dsimp only
   rw [if_neg (by rw [pilt]; simp only [ofN, xlen]; omega), next_eq hy, p_jhead2 hn hs]
   dsimp only
   rw [at_head, hwr, if_neg (by omega), count1 hx (by omega), sub1 _ (by omega)]
   dsimp only
   rw [if_pos (by rw [pieq])]
  ·exact hR.set (by omega) (Is.arr (headV_len _ _)) (fun j hj => rfl)
  ·obtain rfl : w = needV s := by omega
   apply iter_inr
   unfold F_journal_Save_3_L1
   dsimp only
   rw [if_neg (by rw [pilt]; simp only [ofN, xlen]; omega), next_eq hy, p_jhead2 hn hs]
   dsimp only
   rw [at_head, hwr, if_pos (by omega)]
   dsimp only
   rw [if_neg (by rw [pieq]; omega)]
  ·obtain rfl : w = needV s := by omega
   refine hR.set (by omega) (Is.torn (hR.at_ _ (by omega)) (headV_len _ _) hK) (fun j hj => ?_)
   unfold tornV
   rw [if_neg (by omega)]
   (try dsimp only)
   rw [fill_out (j := 130 * (nextN y % 2)) (by omega)]
   by_cases e : j = 130 * (nextN y % 2)
   ·rw [if_pos e, if_pos e, e]
   ·rw [if_neg e, if_neg e]
 | succ d ih =>
  intro m r hm hmw hR
  have hlt : 64 * m < s.length := need_lt.1 (by omega)
  have hwr := hR.write2 (i := 130 * (nextN y % 2) + 1 + m) (by omega) (x + (m : Int)) ((w : Int) - (m : Int)) hK (chunk_len s m)
  by_cases hwm : w = m
  ·subst hwm
   refine ⟨fun h => by omega, fun _ => ⟨setD r (130 * (nextN y % 2) + 1 + w) (cpA 64 (getD r (130 * (nextN y % 2) + 1 + w)) ((chunkV s w).take K)), (w : Int) - (w : Int), ?_, ?_⟩⟩
   ·apply iter_inr
    unfold F_journal_Save_3_L1
    dsimp only
    rw [if_pos (by rw [pilt]; simp only [ofN, xlen]; omega), if_pos (by omega), if_pos (by simp only [ofN, xlen]; omega), p_chunk hlt hs, next_eq hy, at_data _ (by omega), hwr, if_pos (by omega)]
    dsimp only
    rw [if_neg (by rw [pieq]; omega)]
   ·refine hR.set (by omega) (Is.torn (hR.at_ _ (by omega)) (chunk_len _ _) hK) (fun j hj => ?_)
    unfold tornV
    rw [if_pos (by omega)]
    (try dsimp only)
    rw [fill_out (j := 130 * (nextN y % 2) + 1 + w) (by omega)]
    by_cases e : j = 130 * (nextN y % 2) + 1 + w
    ·rw [if_pos e, if_pos e, e]
    ·rw [if_neg e, if_neg e]
  ·have hih := ih (m + 1) (setD r (130 * (nextN y % 2) + 1 + m) (arr64 (chunkV s m))) (by omega) (by omega) (hR.set (by omega) (Is.arr (chunk_len _ _)) (fun j hj => fill_succ j))
   have hstep : iter (F_journal_Save_3_L1 s (y : Int) false (K : Int)) (((64 * m : Nat) : Int), x + (m : Int), r, (w : Int) - (m : Int)) = iter (F_journal_Save_3_L1 s (y : Int) false (K : Int)) (((64 * (m + 1) : Nat) : Int), x + ((m + 1 : Nat) : Int), setD r (130 * (nextN y % 2) + 1 + m) (arr64 (chunkV s m)), (w : Int) - ((m + 1 : Nat) : Int)) := by
    apply iter_inl
    unfold F_journal_Save_3_L1
    dsimp only
    rw [if_pos (by rw [pilt]; simp only [ofN, xlen]; omega), if_pos (by omega), if_pos (by simp only [ofN, xlen]; omega), p_chunk hlt hs, next_eq hy, at_data _ (by omega), hwr, if_neg (by omega), count1 hx (by omega), sub1 _ (by omega)]
    dsimp only
    rw [if_pos (by rw [pieq]), step64 (by omega)]
   rw [hstep]
   exact hih
theorem save3_big {s : List UInt8} (hs : 8192 < s.length) (hs2 : s.length ≤ 1000000) {r : List D} {N : Nat} {f : Nat → List UInt8} (hR : Holds r N f) (hN : 260 ≤ N ∧ N ≤ 2000) (x z u : Int) : F_journal_Save_3 s false x r z u = some (.inl (14, x, r, z)) := by
 unfold F_journal_Save_3
 obtain ⟨k, t, g1, g2⟩ := p_load hR hN x
 rw [load3_eq, g1]
 dsimp only
 rw [if_neg (by rw [pieq]; have := load_e f; omega), if_pos (by rw [pilt]; simp only [ofN, xlen]; omega)]
theorem p_save3 {s : List UInt8} (hs : s.length ≤ 8192) {r : List D} {N : Nat} {f : Nat → List UInt8} (hR : Holds r N f) (hN : 260 ≤ N ∧ N ≤ 2000) {x : Int} (hx : 0 ≤ x ∧ x ≤ 1000000000) {w K : Nat} (hw : w ≤ 1000) (hK : K ≤ 64) :
  (needV s + 1 ≤ w → ∃ r', F_journal_Save_3 s false x r (w : Int) (K : Int) = some (.inl (0, x + ((needV s + 1 : Nat) : Int), r', (w : Int) - ((needV s + 1 : Nat) : Int))) ∧ Holds r' N (savedV f (nextN (loadV f).2.1) s)) ∧
  (w ≤ needV s → ∃ r' z, F_journal_Save_3 s false x r (w : Int) (K : Int) = some (.inr (x + (w : Int), r', z)) ∧ Holds r' N (tornV f (nextN (loadV f).2.1) s w K)) := by
 obtain ⟨k, t, g1, g2⟩ := p_load hR hN x
 have hy := load_lt (f := f) (hR.l64 (by omega)) (hR.l64 (by omega))
 have h := save3_loop (f := f) (fun k hk => hR.l64 hk) hN hx hs hy hw hK (needV s) 0 r (by omega) (by omega) (by rw [fill_zero]; exact hR)
 have e0 : x + ((0 : Nat) : Int) = x := by omega
 have e1 : ((64 * 0 : Nat) : Int) = 0 := by omega
 have e2 : (w : Int) - ((0 : Nat) : Int) = (w : Int) := by omega
 rw [e0, e1, Int.sub_zero] at h
 have he := load_e f
 have hF : F_journal_Save_3 s false x r (w : Int) (K : Int) = iter (F_journal_Save_3_L1 s ((loadV f).2.1 : Int) false (K : Int)) (0, x, r, (w : Int)) := by
  unfold F_journal_Save_3
  rw [load3_eq, g1]
  dsimp only
  rw [if_neg (by rw [pieq]; omega), if_neg (by rw [pilt]; simp only [ofN, xlen]; omega), if_neg (by rw [pieq]; omega)]
  rfl
 rw [hF]
 exact h
end Go.Proofs.YtbkcmpggacbikaaDoor
end
section
/-
  What is there behind a save; the document's example.
-/
set_option linter.unusedVariables false
set_option linter.unusedSimpArgs false
namespace Go.Proofs.YtbkcmpggacbikaaDoor
theorem numW_head {n : Nat} (hn : n < 18446744073709551616) (b : List UInt8) : numW (headV n b) = n := by
 unfold numW headV
 rw [List.take_append_of_le_length (by rw [bigB_len]; omega), List.take_of_length_le (by rw [bigB_len]; omega), valB_bigB]
 exact Nat.mod_eq_of_lt hn
theorem lenW_head (n : Nat) {b : List UInt8} (hb : b.length ≤ 8192) : lenW (headV n b) = b.length := by
 unfold lenW headV
 rw [List.drop_append_of_le_length (by rw [bigB_len]; omega), List.drop_of_length_le (by rw [bigB_len]; omega), List.nil_append,
  List.take_append_of_le_length (by rw [bigB_len]; omega), List.take_of_length_le (by rw [bigB_len]; omega), valB_bigB]
 exact Nat.mod_eq_of_lt (by omega)
theorem data_chunks {g : Nat → List UInt8} {a : Nat} {b : List UInt8} : ∀ m, 64 * m ≤ b.length → (∀ i, i < m → g (130 * a + 1 + i) = chunkV b i) → dataV g a m = b.take (64 * m)
 | 0, _, _ => by simp [dataV]
 | m + 1, hm, h => by
  rw [dataV, data_chunks m (by omega) (fun i hi => h i (by omega)), h m (by omega)]
  have e : chunkV b m = (b.drop (64 * m)).take 64 := by
   unfold chunkV pad64
   have : 64 - ((b.drop (64 * m)).take 64).length = 0 := by simp; omega
   rw [this]
   simp
  rw [e, show 64 * (m + 1) = 64 * m + 64 by omega, List.take_add]
theorem read_chunks {g : Nat → List UInt8} {a : Nat} {b : List UInt8} (h : ∀ i, i < needV b → g (130 * a + 1 + i) = chunkV b i) : readD g a b.length = b := by
 unfold readD
 have hN : (b.length + 63) / 64 = needV b := rfl
 rw [hN]
 by_cases h0 : 64 * needV b = b.length
 ·rw [data_chunks _ (by omega) h, h0, List.take_of_length_le (Nat.le_refl _), List.take_of_length_le (Nat.le_refl _)]
 ·obtain ⟨m, hm⟩ : ∃ m, needV b = m + 1 := ⟨needV b - 1, by unfold needV at *; omega⟩
  have h1 : 64 * m < b.length ∧ b.length < 64 * (m + 1) := by unfold needV at *; omega
  rw [hm, dataV, data_chunks m (by omega) (fun i hi => h i (by omega)), h m (by omega)]
  have e : chunkV b m = b.drop (64 * m) ++ List.replicate (64 - (b.drop (64 * m)).length) 0 := by
   unfold chunkV pad64
   rw [List.take_of_length_le (by simp; omega)]
  rw [e, ← List.append_assoc, List.take_append_drop, List.take_append_of_le_length (Nat.le_refl _), List.take_of_length_le (Nat.le_refl _)]
theorem saved_head {f : Nat → List UInt8} {n : Nat} {b : List UInt8} : savedV f n b (130 * (n % 2)) = headV n b := by
 unfold savedV
 rw [if_pos rfl]
theorem saved_data {f : Nat → List UInt8} {n : Nat} {b : List UInt8} {i : Nat} (h : i < needV b) : savedV f n b (130 * (n % 2) + 1 + i) = chunkV b i := by
 unfold savedV fillV
 rw [if_neg (by omega), if_pos (by omega)]
 congr 1
 omega
theorem whole_of {g : Nat → List UInt8} {n : Nat} {b : List UInt8} (h0 : g (130 * (n % 2)) = headV n b) (h1 : ∀ i, i < needV b → g (130 * (n % 2) + 1 + i) = chunkV b i) (hn : n < 18446744073709551616) (h : n ≠ 0) (hb : b.length ≤ 8192) : wholeV g (n % 2) = (b, n) := by
 have hr := read_chunks (g := g) (a := n % 2) (b := b) h1
 unfold wholeV
 rw [h0, numW_head hn, lenW_head n hb, hr, if_pos ⟨h, rfl, hb, rfl⟩]
theorem whole_saved {f : Nat → List UInt8} {n : Nat} {b : List UInt8} (hn : n < 18446744073709551616) (h : n ≠ 0) (hb : b.length ≤ 8192) : wholeV (savedV f n b) (n % 2) = (b, n) :=
 whole_of saved_head (fun i hi => saved_data hi) hn h hb
theorem whole_congr {f g : Nat → List UInt8} {a : Nat} (h : ∀ j, 130 * a ≤ j → j ≤ 130 * a + 128 → f j = g j) : wholeV f a = wholeV g a := by
 have h0 := h (130 * a) (Nat.le_refl _) (by omega)
 unfold wholeV
 rw [h0]
 by_cases hL : lenW (g (130 * a)) ≤ 8192
 ·have hr : readD f a (lenW (g (130 * a))) = readD g a (lenW (g (130 * a))) := by
   unfold readD
   rw [dataV_congr (g := g) (fun i hi => h _ (by omega) (by omega))]
  rw [hr]
 ·rw [if_neg (fun hc => hL hc.2.2.1), if_neg (fun hc => hL hc.2.2.1)]
theorem saved_other {f : Nat → List UInt8} {n : Nat} {b : List UInt8} (hb : b.length ≤ 8192) {a : Nat} (ha : a ≤ 1) (h : a ≠ n % 2) : wholeV (savedV f n b) a = wholeV f a := by
 have h2 : n % 2 < 2 := Nat.mod_lt _ (by omega)
 have hl := need_le hb
 refine whole_congr fun j h1 h3 => ?_
 unfold savedV fillV
 rw [if_neg (by omega), if_neg (by omega)]
theorem whole_none {f : Nat → List UInt8} {a : Nat} (h : numW (f (130 * a)) = 0) : wholeV f a = ([], 0) := by
 unfold wholeV
 rw [if_neg (fun hc => hc.1 h)]
theorem numW_N64 : numW N64 = 0 := by decide
theorem whole_par {f : Nat → List UInt8} {a : Nat} (h : (wholeV f a).2 ≠ 0) : (wholeV f a).2 % 2 = a ∧ (wholeV f a).2 = numW (f (130 * a)) := by
 unfold wholeV at h ⊢
 split
 ·rename_i hc; exact ⟨hc.2.1, rfl⟩
 ·rename_i hc; rw [if_neg hc] at h; exact absurd rfl h
theorem load_of {f : Nat → List UInt8} {n : Nat} {b : List UInt8} (h : n ≠ 0) (h1 : wholeV f (n % 2) = (b, n)) (h2 : (wholeV f (1 - n % 2)).2 < n) : loadV f = (b, n, 0) := by
 have hm : n % 2 = 0 ∨ n % 2 = 1 := by omega
 unfold loadV
 rcases hm with hm | hm
 ·rw [hm] at h1 h2
  rw [h1, if_neg (fun hc => h hc.1), if_pos h2]
 ·rw [hm] at h1 h2
  rw [h1, if_neg (fun hc => h hc.2), if_neg (by show ¬ n < (wholeV f 0).2; have : (wholeV f 0).2 < n := h2; omega)]
theorem load_none {f : Nat → List UInt8} (h0 : (wholeV f 0).2 = 0) (h1 : (wholeV f 1).2 = 0) : loadV f = ([], 0, 39) := by
 unfold loadV
 rw [if_pos ⟨h0, h1⟩]
theorem whole_new (a : Nat) : wholeV (fun _ => N64) a = ([], 0) := by
 have h : numW ((fun _ : Nat => N64) (130 * a)) = 0 := by
  show numW N64 = 0
  exact numW_N64
 exact whole_none h
theorem load_new : loadV (fun _ => N64) = ([], 0, 39) :=
 load_none (by rw [whole_new]) (by rw [whole_new])
theorem load_saved {f : Nat → List UInt8} {n : Nat} {b : List UInt8} (hn : n < 18446744073709551616) (h : n ≠ 0) (hb : b.length ≤ 8192) (h2 : (wholeV f (1 - n % 2)).2 < n) : loadV (savedV f n b) = (b, n, 0) :=
 load_of h (whole_saved hn h hb) (by rw [saved_other hb (by omega) (by omega)]; exact h2)
theorem p_awake : F_tollbarlaw32_awake = some true := by
 have hR := holds_new 260
 obtain ⟨k1, t1, g1, g2⟩ := p_load hR (by omega) 0
 obtain ⟨r', g3, g4⟩ := p_save (s := [97]) (by simp) hR (by omega) (x := 0) (by omega)
 rw [load_new] at g1 g2 g4
 have hs : loadV (savedV (fun _ => N64) (nextN 0) [97]) = ([97], 1, 0) := load_saved (n := 1) (by omega) (by omega) (by simp) (by rw [whole_new]; omega)
 obtain ⟨k2, t2, g5, g6⟩ := p_load g4 (by omega) (0 + ((needV [97] + 1 : Nat) : Int))
 dsimp only at g1 g3 g4 g5 g6
 rw [hs] at g5 g6
 unfold F_tollbarlaw32_awake
 have e0 : (260 : Int) = ((260 : Nat) : Int) := rfl
 rw [e0, p_new (by omega)]
 dsimp only
 rw [g1]
 dsimp only
 have eb : byteOf (97 : Int) = 97 := rfl
 rw [if_pos (by omega), eb, if_pos (by simp [ofN, xlen]), g3]
 dsimp only
 rw [g5]
 dsimp only
 rw [if_pos (by rw [pieq]), if_pos (by rw [pieq]), if_pos (by rw [pseq]; exact g6), if_pos (by rw [pieq]; rfl), if_pos (by rw [pieq])]
 have h2 : F_journal_Save_2 [] = some () := by
  unfold F_journal_Save_2 F_journal_Load_2 F_block_Device_Blocks_2
  rfl
 rw [h2]
 rfl
end Go.Proofs.YtbkcmpggacbikaaDoor
end
section
/-
  The reference's journal in the same plain words.
-/
set_option linter.unusedVariables false
set_option linter.unusedSimpArgs false
namespace Go.Proofs.YtbkcmpggacbikaaDoor
theorem valB_nought (s : List UInt8) : valB (0 :: s) = valB s := by simp [valB]
theorem valB_ge {c : UInt8} {s : List UInt8} (h : c ≠ 0) : 256 ^ s.length ≤ valB (c :: s) := by
 have key : ∀ (s : List UInt8) (x : Nat), x * 256 ^ s.length ≤ s.foldl (fun x c => x * 256 + c.toNat) x := by
  intro s
  induction s with
  | nil => intro x; simp
  | cons c s ih =>
   intro x
   have := ih (x * 256 + c.toNat)
   simp only [List.foldl_cons, List.length_cons, Nat.pow_succ]
   refine Nat.le_trans ?_ this
   rw [Nat.mul_comm (256 ^ s.length) 256, ← Nat.mul_assoc]
   exact Nat.mul_le_mul_right _ (by omega)
 have hc : 1 ≤ c.toNat := by
  have : c.toNat ≠ 0 := fun e => h (UInt8.toNat_inj.1 (by simpa using e))
  omega
 have := key s (0 * 256 + c.toNat)
 refine Nat.le_trans ?_ this
 rw [Nat.zero_mul, Nat.zero_add]
 exact Nat.le_mul_of_pos_left _ hc
theorem p_rvalue_loop {s : List UInt8} (hl : s.length ≤ 8) {T : Type} {B : Int × Int → Option ((Int × Int) ⊕ T)} {r : Int → T}
  (h1 : ∀ (x : Int) (i : Nat), i < s.length → B (x, (i : Int)) = some (.inl (iadd .u64 (imul .u64 256 x) (iconv .u64 (getB s (toN (i : Int)))), ((i + 1 : Nat) : Int)))) (h2 : ∀ x : Int, B (x, (s.length : Int)) = some (.inr (r x))) :
  iter B (0, 0) = some (r (valB s)) := by
 have b8 : ∀ i, i ≤ s.length → valB (s.take i) < 256 ^ i := fun i hi => by
  have := valB_lt (s.take i)
  rw [List.length_take, Nat.min_eq_left hi] at this
  exact this
 have key : ∀ (m i : Nat), i + m = s.length → iter B ((valB (s.take i) : Int), (i : Int)) = some (r (valB s)) := by
  intro m
  induction m with
  | zero =>
   intro i hi
   have : i = s.length := by omega
   subst this
   rw [List.take_of_length_le (Nat.le_refl _)]
   exact iter_inr (h2 _)
  | succ m ih =>
   intro i hi
   have hlt : i < s.length := by omega
   have eg : getB s (toN (i : Int)) = ((s[i].toNat : Nat) : Int) := pgetB (by exact hlt)
   have hc : s[i].toNat < 256 := s[i].toNat_lt
   have hb := b8 i (by omega)
   have hp : 256 ^ i ≤ 256 ^ 7 := Nat.pow_le_pow_right (by omega) (by omega)
   have hp7 : (256 : Nat) ^ 7 = 72057594037927936 := by decide
   have e := h1 (valB (s.take i)) i hlt
   have ev : iadd .u64 (imul .u64 256 (valB (s.take i) : Int)) (iconv .u64 (getB s (toN (i : Int)))) = ((valB (s.take (i + 1)) : Nat) : Int) := by
    rw [eg, valB_take hlt]
    simp only [iadd, imul, iconv]
    rw [pu64 (x := 256 * (valB (s.take i) : Int)) (by omega) (by omega), pu64 (x := ((s[i].toNat : Nat) : Int)) (by omega) (by omega), pu64 (by omega) (by omega)]
    omega
   rw [ev] at e
   rw [iter_inl e]
   exact ih (i + 1) (by omega)
 have := key s.length 0 (by omega)
 simpa [valB] using this
theorem p_rvalue : ∀ (s : List UInt8), s.length ≤ 1000000 → F_tollbarref01_Value s = some (if valB s < 18446744073709551616 then ((valB s : Int), true) else (0, false))
 | [], hl => by
  unfold F_tollbarref01_Value
  apply iter_inr
  unfold F_tollbarref01_Value_L1
  dsimp only
  rw [if_pos (by rw [pseq]), if_neg (by simp only [pilt, ofN, xlen, List.length_nil]; omega), p_rvalue_loop (s := []) (by simp) (r := fun x => (x, true)) (fun x i hi => by simp at hi) (fun x => by
   unfold F_tollbarref01_Value_L3
   dsimp only
   rw [if_neg (by simp only [pilt, ofN, xlen, List.length_nil]; omega)])]
  rfl
 | c :: s, hl => by
  unfold F_tollbarref01_Value
  have hl' : s.length ≤ 1000000 := by simp at hl; omega
  have hlen : xlen (c :: s) = s.length + 1 := by simp [xlen]
  have eg : getB (c :: s) (toN 0) = ((c.toNat : Nat) : Int) := by simp [getB, toN]
  by_cases h0 : c = 0
  ·subst h0
   rw [iter_inl (y := s), valB_nought]
   ·exact p_rvalue s hl'
   ·unfold F_tollbarref01_Value_L1
    dsimp only
    rw [if_neg (by rw [pseq]; simp), if_pos (by rw [hlen]; simp only [ofN]; omega), if_pos (by rw [eg, pieq]; rfl), if_pos (by rw [hlen]; simp only [ofN]; omega)]
    simp [lsub, ndec, toN, xlen]
  ·have hc : c.toNat ≠ 0 := fun e => h0 (UInt8.toNat_inj.1 (by simpa using e))
   have hge := valB_ge (s := s) h0
   apply iter_inr
   unfold F_tollbarref01_Value_L1
   dsimp only
   rw [if_neg (by rw [pseq]; simp), if_pos (by rw [hlen]; simp only [ofN]; omega), if_neg (by rw [eg, pieq]; omega)]
   by_cases h8 : s.length + 1 ≤ 8
   ·have hlt := valB_lt (c :: s)
    have hp : 256 ^ (c :: s).length ≤ 256 ^ 8 := Nat.pow_le_pow_right (by omega) (by simp; omega)
    have hp8 : (256 : Nat) ^ 8 = 18446744073709551616 := by decide
    rw [if_neg (by rw [hlen, pilt]; simp only [ofN]; omega), p_rvalue_loop (s := c :: s) (by simp; omega) (r := fun x => (x, true)) (fun x i hi => by
     unfold F_tollbarref01_Value_L2
     dsimp only
     rw [if_pos (by simp only [pilt, ofN, xlen]; omega), if_pos (by simp only [ofN, xlen]; omega), pnext (by simp at hi; omega)]) (fun x => by
     unfold F_tollbarref01_Value_L2
     dsimp only
     rw [if_neg (by simp only [pilt, ofN, xlen]; omega)]), if_pos (by omega)]
    rfl
   ·have hp : 256 ^ 8 ≤ 256 ^ s.length := Nat.pow_le_pow_right (by omega) (by omega)
    have hp8 : (256 : Nat) ^ 8 = 18446744073709551616 := by decide
    rw [if_pos (by rw [hlen, pilt]; simp only [ofN]; omega), if_neg (by omega)]
theorem p_rnumber {s : List UInt8} {a b : Nat} (h : a ≤ b) (hb : b ≤ s.length) (h8 : b - a ≤ 8) (hs : s.length ≤ 1000) : F_tollbarref32_number s (a : Int) (b : Int) = some ((valB ((s.drop a).take (b - a)) : Nat) : Int) := by
 unfold F_tollbarref32_number
 have e : lsub s (toN (a : Int)) (ndec (toN (b : Int)) (toN (a : Int))) = (s.drop a).take (b - a) := by
  rw [ptoN, ptoN]; rfl
 have hl : ((s.drop a).take (b - a)).length ≤ 8 := by simp; omega
 rw [if_pos (by simp only [ofN, xlen]; omega), e, p_rvalue _ (by omega), if_pos (valB8 hl)]
structure HoldsQ (q : List D) (n : Nat) (f : Nat → List UInt8) : Prop where
 len : q.length = n
 at_ : ∀ k, k < n → D.toS (getD q k) = f k
theorem HoldsQ.set {q : List D} {n : Nat} {f g : Nat → List UInt8} (h : HoldsQ q n f) {k : Nat} (hk : k < n) {s : List UInt8} (hg : ∀ j, j < n → g j = if j = k then s else f j) : HoldsQ (setD q k (.s s)) n g := by
 have hl := h.len
 refine ⟨by simp [setD, hl], fun j hj => ?_⟩
 rw [hg j hj]
 by_cases e : j = k
 ·subst e
  have e1 : getD (setD q j (.s s)) j = .s s := by simp [getD, setD, hl, hj]
  rw [e1, if_pos rfl]
  rfl
 ·have e1 : getD (setD q k (.s s)) j = getD q j := by simp [getD, setD, List.getElem?_set_ne (Ne.symm e)]
  rw [e1, if_neg e]
  exact h.at_ j hj
theorem head_iff {w : List UInt8} (hw : w.length = 64) {R : List UInt8} (hR : R.length = lenW w) (hL : R.length ≤ 8192) :
  w = headV (numW w) R ↔ numW w = valB ((w.drop 56).take 8) ∧ (w.drop 16).take 40 = List.replicate 40 0 ∧ (sumV R).toNat = valB ((w.drop 12).take 4) := by
 have dec : w = w.take 8 ++ ((w.drop 8).take 4 ++ ((w.drop 12).take 4 ++ ((w.drop 16).take 40 ++ (w.drop 56).take 8))) := by
  have e5 : (w.drop 56).take 8 = w.drop 56 := List.take_of_length_le (by simp; omega)
  have e4 : (w.drop 16).take 40 ++ w.drop 56 = w.drop 16 := by
   have := List.take_append_drop 40 (w.drop 16)
   rwa [List.drop_drop] at this
  have e3 : (w.drop 12).take 4 ++ w.drop 16 = w.drop 12 := by
   have := List.take_append_drop 4 (w.drop 12)
   rwa [List.drop_drop] at this
  have e2 : (w.drop 8).take 4 ++ w.drop 12 = w.drop 8 := by
   have := List.take_append_drop 4 (w.drop 8)
   rwa [List.drop_drop] at this
  rw [e5, e4, e3, e2, List.take_append_drop]
 have hs := (sumV R).isLt
 have l1 : (w.take 8).length = 8 := by simp; omega
 have l2 : ((w.drop 8).take 4).length = 4 := by simp; omega
 have l3 : ((w.drop 12).take 4).length = 4 := by simp; omega
 have l4 : ((w.drop 16).take 40).length = 40 := by simp; omega
 have l5 : ((w.drop 56).take 8).length = 8 := by simp; omega
 have hn : numW w < 256 ^ 8 := numW_lt hw
 constructor
 ·intro h
  have h1 := dec.symm.trans h
  unfold headV at h1
  obtain ⟨_, h1⟩ := List.append_inj h1 (by rw [l1, bigB_len])
  obtain ⟨_, h1⟩ := List.append_inj h1 (by rw [l2, bigB_len])
  obtain ⟨g3, h1⟩ := List.append_inj h1 (by rw [l3, bigB_len])
  obtain ⟨g4, g5⟩ := List.append_inj h1 (by rw [l4]; simp)
  exact ⟨((big_iff l5 hn).1 g5).symm, g4, ((big_iff l3 (by omega)).1 g3).symm⟩
 ·rintro ⟨g5, g4, g3⟩
  refine dec.trans ?_
  unfold headV
  have e1 : w.take 8 = bigB (numW w) 8 := (big_iff l1 hn).2 rfl
  have e2 : (w.drop 8).take 4 = bigB R.length 4 := (big_iff l2 (by omega)).2 hR.symm
  have e3 : (w.drop 12).take 4 = bigB (sumV R).toNat 4 := (big_iff l3 (by omega)).2 g3.symm
  have e5 : (w.drop 56).take 8 = bigB (numW w) 8 := (big_iff l5 hn).2 g5.symm
  rw [e1, e2, e3, g4, e5]
theorem p_rarea {q : List D} {N : Nat} {f : Nat → List UInt8} (hQ : HoldsQ q N f) (h64 : ∀ k, k < N → (f k).length = 64) (hN : 260 ≤ N ∧ N ≤ 2000) {a : Nat} (ha : a ≤ 1) (b : Bool) (x1 x2 x3 : Int) :
  F_tollbarref32_area b x1 x2 x3 (a : Int) q = some ((wholeV f a).1, ((wholeV f a).2 : Int)) := by
 have hw : (f (130 * a)).length = 64 := h64 _ (by omega)
 have hnl := numW_lt hw
 have hll := lenW_lt hw
 have e1 : imul .i64 130 (a : Int) = ((130 * a : Nat) : Int) := by
  simp only [imul]
  rw [pwi64 (by omega) (by omega)]
  omega
 have hq : D.toS (getD q (130 * a)) = f (130 * a) := hQ.at_ _ (by omega)
 have n1 : F_tollbarref32_number (f (130 * a)) 0 8 = some ((numW (f (130 * a)) : Nat) : Int) := p_rnumber (a := 0) (b := 8) (by omega) (by omega) (by omega) (by omega)
 have n2 : F_tollbarref32_number (f (130 * a)) 8 12 = some ((lenW (f (130 * a)) : Nat) : Int) := p_rnumber (a := 8) (b := 12) (by omega) (by omega) (by omega) (by omega)
 have n3 : F_tollbarref32_number (f (130 * a)) 56 64 = some ((valB (((f (130 * a)).drop 56).take 8) : Nat) : Int) := p_rnumber (a := 56) (b := 64) (by omega) (by omega) (by omega) (by omega)
 have n4 : F_tollbarref32_number (f (130 * a)) 12 16 = some ((valB (((f (130 * a)).drop 12).take 4) : Nat) : Int) := p_rnumber (a := 12) (b := 16) (by omega) (by omega) (by omega) (by omega)
 unfold F_tollbarref32_area
 rw [e1, ptoN, hq, if_pos (by simp only [ofN, xlen, hQ.len]; omega), n1]
 dsimp only
 rw [n2]
 dsimp only
 have hhead := fun (R : List UInt8) h1 h2 => head_iff hw (R := R) h1 h2
 have hwv : wholeV f a = wholeV f a := rfl
 conv at hwv => rhs; unfold wholeV
 generalize hn : numW (f (130 * a)) = n at *
 generalize hl : lenW (f (130 * a)) = L at *
 by_cases h0 : n = 0
 ·rw [if_pos (by rw [pieq]; omega), hwv, if_neg (fun hc => hc.1 h0)]
  rfl
 rw [if_neg (by rw [pieq]; omega), n3]
 dsimp only
 by_cases h8 : L ≤ 8192
 ·have hrl := readD_len (f := f) (a := a) (L := L) (fun i hi => h64 _ (by omega))
  have hh := hhead (readD f a L) (by rw [hrl]) (by omega)
  by_cases hA : n = valB (((f (130 * a)).drop 56).take 8)
  ·rw [if_pos (by rw [pieq]; omega)]
   have e2 : iconv .i64 (irem (n : Int) 2) = ((n % 2 : Nat) : Int) := by
    simp only [irem, iconv]
    rw [Int.tmod_eq_emod_of_nonneg (by omega), pwi64 (by omega) (by omega)]
    omega
   by_cases hB : n % 2 = a
   ·rw [if_pos (by rw [pieq, e2]; omega), if_neg (by rw [pilt]; omega), if_pos (by simp only [ofN, xlen, hw]; omega), if_pos (by omega)]
    have e3 : lsub (f (130 * a)) (toN 16) (ndec (toN 56) (toN 16)) = ((f (130 * a)).drop 16).take 40 := rfl
    have e4 : @lrep UInt8 (toN 40) 0 = List.replicate 40 0 := rfl
    rw [e3, e4]
    by_cases hC : ((f (130 * a)).drop 16).take 40 = List.replicate 40 0
    ·rw [if_pos (by rw [pseq]; exact hC)]
     have hres : ∀ t : List UInt8, lsub t 0 L = readD f a L → (if 0 ≤ (L : Int) ∧ (L : Int) ≤ ofN (xlen t) then
       match F_tollbarref04_Sum (lsub t 0 (toN (L : Int))) with
       | none => none
       | some y4 => match F_tollbarref32_number (D.toS (getD q (toN (imul .i64 130 (a : Int))))) 12 16 with
        | none => none
        | some y5 => if ieq (iconv .u64 y4) y5 = true then some (.inr (lsub t 0 (toN (L : Int)), (n : Int))) else some (.inr (([] : List UInt8), (0 : Int)))
       else (none : Option ((List UInt8 × Int) ⊕ (List UInt8 × Int)))) = some (.inr ((wholeV f a).1, ((wholeV f a).2 : Int))) := by
      intro t ht
      have htl : L ≤ t.length := by
       have := congrArg List.length ht
       rw [hrl] at this
       simp [lsub] at this
       omega
      rw [e1, ptoN, ptoN, hq, if_pos (by simp only [ofN, xlen]; omega), ht, p_rsum (by omega)]
      dsimp only
      rw [n4]
      dsimp only
      rw [cv64]
      by_cases hD : (sumV (readD f a L)).toNat = valB (((f (130 * a)).drop 12).take 4)
      ·rw [if_pos (by rw [pieq]; omega), hwv, if_pos ⟨h0, hB, h8, hh.2 ⟨hA, hC, hD⟩⟩]
      ·rw [if_neg (by rw [pieq]; omega), hwv, if_neg (fun hc => hD (hh.1 hc.2.2.2).2.2)]
       rfl
     have key : ∀ d m : Nat, m + d = (L + 63) / 64 → iter (F_tollbarref32_area_L1 (L : Int) (a : Int) q (n : Int)) (dataV f a m, (m : Int)) = some ((wholeV f a).1, ((wholeV f a).2 : Int)) := by
      intro d
      induction d with
      | zero =>
       intro m hm
       obtain rfl : m = (L + 63) / 64 := by omega
       have hr := hres (dataV f a ((L + 63) / 64)) rfl
       apply iter_inr
       unfold F_tollbarref32_area_L1
       dsimp only
       by_cases hm2 : (L + 63) / 64 < 128
       ·have e5 : iconv .u64 (imul .i64 64 (((L + 63) / 64 : Nat) : Int)) = ((64 * ((L + 63) / 64) : Nat) : Int) := by
         simp only [imul, iconv]
         rw [pwi64 (by omega) (by omega), pu64 (by omega) (by omega)]
         omega
        rw [if_pos (by rw [pilt]; omega), if_neg (by rw [pilt, e5]; omega)]
        exact hr
       ·rw [if_neg (by rw [pilt]; omega)]
        exact hr
      | succ d ih =>
       intro m hm
       have hdl := dataV_len (f := f) (a := a) (m := m) (fun i hi => h64 _ (by omega))
       have e5 : iconv .u64 (imul .i64 64 (m : Int)) = ((64 * m : Nat) : Int) := by
        simp only [imul, iconv]
        rw [pwi64 (by omega) (by omega), pu64 (by omega) (by omega)]
        omega
       have e6 : iadd .i64 (iadd .i64 (imul .i64 130 (a : Int)) 1) (m : Int) = ((130 * a + 1 + m : Nat) : Int) := by
        rw [e1]
        simp only [iadd]
        rw [pwi64 (x := ((130 * a : Nat) : Int) + 1) (by omega) (by omega), pwi64 (by omega) (by omega)]
        omega
       have hqm : D.toS (getD q (130 * a + 1 + m)) = f (130 * a + 1 + m) := hQ.at_ _ (by omega)
       have hlm := h64 (130 * a + 1 + m) (by omega)
       rw [iter_inl (y := (dataV f a (m + 1), ((m + 1 : Nat) : Int)))]
       ·exact ih (m + 1) (by omega)
       ·unfold F_tollbarref32_area_L1
        dsimp only
        rw [if_pos (by rw [pilt]; omega), if_pos (by rw [pilt, e5]; omega), e6, ptoN, hqm, if_pos (by simp only [ofN, xlen, hQ.len]; omega), if_pos (by simp only [xlen]; omega), pnext (by omega)]
        rfl
     exact key ((L + 63) / 64) 0 (by omega)
    ·rw [if_neg (by rw [pseq]; exact hC), hwv, if_neg (fun hc => hC (hh.1 hc.2.2.2).2.1)]
     rfl
   ·rw [if_neg (by rw [pieq, e2]; omega), hwv, if_neg (fun hc => hB hc.2.1)]
    rfl
  ·rw [if_neg (by rw [pieq]; omega), hwv, if_neg (fun hc => hA (hh.1 hc.2.2.2).1)]
   rfl
 ·have hw0 : wholeV f a = ([], 0) := by rw [hwv, if_neg (fun hc => h8 hc.2.2.1)]
  rw [hw0]
  by_cases hA : ieq (n : Int) ((valB (((f (130 * a)).drop 56).take 8) : Nat) : Int) = true
  ·rw [if_pos hA]
   by_cases hB : ieq (iconv .i64 (irem (n : Int) 2)) (a : Int) = true
   ·rw [if_pos hB, if_pos (by rw [pilt]; omega)]
    rfl
   ·rw [if_neg hB]
    rfl
  ·rw [if_neg hA]
   rfl
theorem p_rload {q : List D} {N : Nat} {f : Nat → List UInt8} (hQ : HoldsQ q N f) (h64 : ∀ k, k < N → (f k).length = 64) (hN : 260 ≤ N ∧ N ≤ 2000) (x1 x2 x3 : Int) :
  F_tollbarref32_Load false x1 x2 x3 q = some ((loadV f).1, ((loadV f).2.1 : Int), (loadV f).2.2) := by
 have g1 : F_tollbarref32_area false x1 x2 x3 (0 : Int) q = some ((wholeV f 0).1, ((wholeV f 0).2 : Int)) := p_rarea hQ h64 hN (a := 0) (by omega) false x1 x2 x3
 have g3 : F_tollbarref32_area false x1 x2 x3 (1 : Int) q = some ((wholeV f 1).1, ((wholeV f 1).2 : Int)) := p_rarea hQ h64 hN (a := 1) (by omega) false x1 x2 x3
 have p0 : (wholeV f 0).2 ≠ 0 → (wholeV f 0).2 % 2 = 0 := fun h => (whole_par h).1
 have p1 : (wholeV f 1).2 ≠ 0 → (wholeV f 1).2 % 2 = 1 := fun h => (whole_par h).1
 have l0 := whole_lt (f := f) (a := 0) (h64 _ (by omega))
 have l1 := whole_lt (f := f) (a := 1) (h64 _ (by omega))
 unfold F_tollbarref32_Load
 rw [if_neg (by rw [pilt]; simp only [ofN, xlen, hQ.len]; omega), if_neg (by simp), g1]
 dsimp only
 rw [g3]
 dsimp only
 unfold loadV
 generalize (wholeV f 0) = A at *
 generalize (wholeV f 1) = B at *
 obtain ⟨a, n⟩ := A
 obtain ⟨b, m⟩ := B
 dsimp only at *
 have e : iadd .u64 (n : Int) (m : Int) = (((n + m) % 18446744073709551616 : Nat) : Int) := by
  simp only [iadd]
  rw [pwu64]
  omega
 rw [e]
 by_cases h0 : n = 0 ∧ m = 0
 ·rw [if_pos h0, if_pos (by rw [pieq]; omega)]
  rfl
 ·rw [if_neg h0, if_neg (by rw [pieq]; omega)]
  by_cases h1 : m < n
  ·rw [if_pos h1, if_pos (by rw [pilt]; omega)]
  ·rw [if_neg h1, if_neg (by rw [pilt]; omega)]
theorem rload_down {q : List D} (h : 260 ≤ q.length) (x1 x2 x3 : Int) : F_tollbarref32_Load true x1 x2 x3 q = some ([], 0, 3) := by
 unfold F_tollbarref32_Load
 rw [if_neg (by rw [pilt]; simp only [ofN, xlen]; omega)]
 rfl
end Go.Proofs.YtbkcmpggacbikaaDoor
end
section
/-
  What a step saves, and how the device is armed.
-/
set_option linter.unusedVariables false
set_option linter.unusedSimpArgs false
namespace Go.Proofs.YtbkcmpggacbikaaDoor
theorem setB_len' (s : List UInt8) (k : Nat) (x : Int) : (setB s k x).length = s.length := by simp [setB]
theorem p_bytes {x1 : Int} (h : 0 ≤ x1 ∧ x1 < 65536) (x2 x3 x4 : Int) : ∃ B, F_tollbarlaw32_bytes x1 x2 x3 x4 = some B ∧ B.length ≤ 8399 := by
 have e : irem (iconv .i64 x1) 8400 = ((x1.toNat % 8400 : Nat) : Int) := by
  simp only [irem, iconv]
  rw [pwi64 (by omega) (by omega), Int.tmod_eq_emod_of_nonneg (by omega)]
  omega
 have key : ∀ (d i : Nat) (s : List UInt8), i + d = s.length → s.length ≤ 8399 → ∃ B, iter (F_tollbarlaw32_bytes_L1 x2) ((i : Int), s) = some B ∧ B.length ≤ 8399 := by
  intro d
  induction d with
  | zero =>
   intro i s hi hs
   refine ⟨s, iter_inr ?_, hs⟩
   unfold F_tollbarlaw32_bytes_L1
   dsimp only
   rw [if_neg (by rw [pilt]; simp only [ofN, xlen]; omega)]
  | succ d ih =>
   intro i s hi hs
   obtain ⟨B, g1, g2⟩ := ih (i + 1) (setB s i (iadd .u8 x2 (iconv .u8 (irem (i : Int) 7)))) (by rw [setB_len']; omega) (by rw [setB_len']; omega)
   refine ⟨B, ?_, g2⟩
   rw [← g1]
   apply iter_inl
   unfold F_tollbarlaw32_bytes_L1
   dsimp only
   have hv : 0 ≤ iadd .u8 x2 (iconv .u8 (irem (i : Int) 7)) ∧ iadd .u8 x2 (iconv .u8 (irem (i : Int) 7)) < 256 := by
    simp only [iadd]
    rw [pwu8]
    omega
   rw [if_pos (by rw [pilt]; simp only [ofN, xlen]; omega), if_pos (by simp only [ofN, xlen]; omega), if_pos hv, pnext (by omega), ptoN]
 unfold F_tollbarlaw32_bytes
 rw [e, if_pos (by omega), ptoN]
 exact key (x1.toNat % 8400) 0 (lrep (x1.toNat % 8400) 0) (by simp [lrep]) (by simp [lrep]; omega)
theorem p_arm {w k : Nat} (hk : k ≤ 64) (b : Bool) (x : Int) (r : List D) : F_block_Device_Arm_2 (w : Int) (k : Int) b x r = some (.inr ()) := by
 unfold F_block_Device_Arm_2
 rw [if_neg (by rw [pilt]; omega), if_neg (by rw [pilt]; omega), if_neg (by rw [pilt]; omega)]
theorem cv_w {x : Int} (h : 0 ≤ x ∧ x < 256) : iconv .i64 x = ((x.toNat : Nat) : Int) := by
 simp only [iconv]
 rw [pwi64 (by omega) (by omega)]
 omega
theorem cv_k {x : Int} (h : 0 ≤ x ∧ x < 256) : iconv .i64 (irem x 65) = ((x.toNat % 65 : Nat) : Int) := by
 simp only [irem, iconv]
 rw [Int.tmod_eq_emod_of_nonneg (by omega), pwi64 (by omega) (by omega)]
 omega
structure StepsOk (r1 : List D) : Prop where
 a : ∀ k, k < r1.length → 0 ≤ D.toI (D.fld (getD r1 k) 0) ∧ D.toI (D.fld (getD r1 k) 0) < 65536
 c : ∀ k, k < r1.length → 0 ≤ D.toI (D.fld (getD r1 k) 2) ∧ D.toI (D.fld (getD r1 k) 2) < 256
 d : ∀ k, k < r1.length → 0 ≤ D.toI (D.fld (getD r1 k) 3) ∧ D.toI (D.fld (getD r1 k) 3) < 256
theorem steps_ok {T : TypeId} {r : List D} (h : (Ty.row T (.st [.int .u16, .int .u8, .int .u8, .int .u8])).rng (.l r)) : StepsOk r := by
 simp only [Ty.rng, Ty.rngL, D.toL] at h
 refine ⟨fun k hk => ?_, fun k hk => ?_, fun k hk => ?_⟩ <;> rw [pgetD hk]
 ·exact wf_u16 (h.2 _ (List.getElem_mem hk)).1
 ·exact wf_u8 (h.2 _ (List.getElem_mem hk)).2.2.1
 ·exact wf_u8 (h.2 _ (List.getElem_mem hk)).2.2.2.1
end Go.Proofs.YtbkcmpggacbikaaDoor
end
section
/-
  What the reference's save does, in the same plain words.
-/
set_option linter.unusedVariables false
set_option linter.unusedSimpArgs false
namespace Go.Proofs.YtbkcmpggacbikaaDoor
def decV (z : Int) : Int := if 0 < z then isub .i64 z 1 else z
theorem HoldsQ.write {q : List D} {N : Nat} {f : Nat → List UInt8} (hQ : HoldsQ q N f) (h64 : ∀ k, k < N → (f k).length = 64) (hN : N ≤ 2000) {i : Nat} (hi : i < N) (x1 x2 x3 : Int) {s : List UInt8} (hs : s.length = 64) (h2 : x1 = 0 → 0 ≤ x2 ∧ x2 ≤ 64) :
  F_tollbarref31_Write false x1 x2 x3 (i : Int) s q = if x1 = 0 then some (true, -1, 0, x3, 3, setD q i (.s (s.take (toN x2) ++ (f i).drop (toN x2))))
   else some (false, decV x1, x2, iadd .i64 x3 1, 0, setD q i (.s s)) := by
 rw [p_rwrite false x1 x2 x3 (i : Int) s (by rw [hQ.len]; exact hN) (fun k hk => by rw [hQ.at_ k (by rw [← hQ.len]; exact hk)]; exact h64 k (by rw [← hQ.len]; exact hk)) h2,
  if_pos (wV_of (by omega) (by rw [hQ.len]; omega) hs), ptoN, hQ.at_ i hi]
 rfl
theorem rat_head (n : Nat) : imul .i64 130 (iconv .i64 (irem (n : Int) 2)) = ((130 * (n % 2) : Nat) : Int) := by
 rw [← at_head n]
 simp only [imul]
 rw [Int.mul_comm]
theorem rat_data (n : Nat) {m : Nat} (hm : m ≤ 1000) : iadd .i64 (iadd .i64 (imul .i64 130 (iconv .i64 (irem (n : Int) 2))) 1) (m : Int) = ((130 * (n % 2) + 1 + m : Nat) : Int) := by
 have : n % 2 < 2 := Nat.mod_lt _ (by omega)
 rw [rat_head]
 simp only [iadd]
 rw [pwi64 (x := ((130 * (n % 2) : Nat) : Int) + 1) (by omega) (by omega), pwi64 (by omega) (by omega)]
 omega
theorem mul64 {m : Nat} (hm : m ≤ 1000) : imul .i64 64 (m : Int) = ((64 * m : Nat) : Int) := by
 simp only [imul]
 rw [pwi64 (by omega) (by omega)]
 omega
theorem sub64 {n : Nat} (h : n ≤ 64) : toN (isub .i64 64 (ofN n)) = 64 - n ∧ 0 ≤ isub .i64 64 (ofN n) ∧ isub .i64 64 (ofN n) ≤ 64 := by
 simp only [isub, ofN, toN]
 rw [pwi64 (by omega) (by omega)]
 omega
theorem rstep {q : List D} {N : Nat} {f : Nat → List UInt8} (hQ : HoldsQ q N f) (h64 : ∀ k, k < N → (f k).length = 64) (hN : 260 ≤ N ∧ N ≤ 2000) {s : List UInt8} (hs : s.length ≤ 8192) {y : Nat} (hy : y < 18446744073709551616) {t2 t3 t4 : List UInt8} {m : Nat} (hm : m < needV s) (z x2 x3 : Int) (h2 : z = 0 → 0 ≤ x2 ∧ x2 ≤ 64) :
  F_tollbarref32_Save_L1 s (y : Int) t2 t3 t4 ((m : Int), false, z, x2, x3, q) =
   if z = 0 then some (.inr (true, -1, 0, x3, 3, setD q (130 * (nextN y % 2) + 1 + m) (.s ((chunkV s m).take (toN x2) ++ (f (130 * (nextN y % 2) + 1 + m)).drop (toN x2)))))
   else some (.inl (((m + 1 : Nat) : Int), false, decV z, x2, iadd .i64 x3 1, setD q (130 * (nextN y % 2) + 1 + m) (.s (chunkV s m)))) := by
 have hlt := need_lt.1 hm
 have hnl := need_le hs
 have h22 : nextN y % 2 < 2 := Nat.mod_lt _ (by omega)
 have e1 : lsub s (toN ((64 * m : Nat) : Int)) (ndec (xlen s) (toN ((64 * m : Nat) : Int))) = s.drop (64 * m) := by
  rw [ptoN]
  unfold lsub ndec xlen
  rw [List.take_of_length_le]
  simp
 have hw := hQ.write h64 (by omega) (i := 130 * (nextN y % 2) + 1 + m) (by omega) z x2 x3 (chunk_len s m) h2
 unfold F_tollbarref32_Save_L1
 dsimp only
 rw [mul64 (by omega), if_pos (by rw [pilt]; simp only [ofN, xlen]; omega), if_pos (by simp only [ofN, xlen]; omega), e1, next_eq hy, rat_data _ (by omega)]
 by_cases hb : 64 < (s.drop (64 * m)).length
 ·have e2 : lsub (s.drop (64 * m)) 0 (toN 64) = (s.drop (64 * m)).take 64 := by
   simp [lsub, toN]
  have el : xlen ((s.drop (64 * m)).take 64) = 64 := by simp only [xlen, List.length_take]; omega
  have e3 : cat ((s.drop (64 * m)).take 64) (@lrep UInt8 (toN (isub .i64 64 (ofN (xlen ((s.drop (64 * m)).take 64))))) 0) = chunkV s m := by
   rw [el]
   unfold cat chunkV pad64 lrep
   have : ((s.drop (64 * m)).take 64).length = 64 := el
   rw [this]
   rfl
  obtain ⟨g1, g2, g3⟩ := sub64 (n := xlen ((s.drop (64 * m)).take 64)) (by omega)
  rw [if_pos (by rw [pilt]; simp only [ofN, xlen]; omega), if_pos (by simp only [ofN, xlen]; omega), e2, if_pos (by omega), if_pos (by rw [g1]; simp only [xlen, lrep, List.length_replicate, List.length_take]; omega), e3, hw]
  by_cases hz : z = 0
  ·rw [if_pos hz, if_pos hz]
   dsimp only
   rw [if_neg (by rw [pieq]; omega)]
  ·rw [if_neg hz, if_neg hz]
   dsimp only
   rw [if_pos (by rw [pieq]), pnext (by omega)]
 ·have hle : xlen (s.drop (64 * m)) ≤ 64 := by simp only [xlen]; omega
  obtain ⟨g1, g2, g3⟩ := sub64 (n := xlen (s.drop (64 * m))) hle
  have e3 : cat (s.drop (64 * m)) (@lrep UInt8 (toN (isub .i64 64 (ofN (xlen (s.drop (64 * m)))))) 0) = chunkV s m := by
   rw [g1]
   unfold cat chunkV pad64 lrep
   rw [List.take_of_length_le (by simp only [xlen] at hle; omega)]
   rfl
  rw [if_neg (by rw [pilt]; simp only [ofN, xlen]; omega), if_pos (by omega), if_pos (by rw [g1]; simp only [xlen, lrep, List.length_replicate] at hle ⊢; omega), e3, hw]
  by_cases hz : z = 0
  ·rw [if_pos hz, if_pos hz]
   dsimp only
   rw [if_neg (by rw [pieq]; omega)]
  ·rw [if_neg hz, if_neg hz]
   dsimp only
   rw [if_pos (by rw [pieq]), pnext (by omega)]
theorem rlast {q : List D} {N : Nat} {f : Nat → List UInt8} (hQ : HoldsQ q N f) (h64 : ∀ k, k < N → (f k).length = 64) (hN : 260 ≤ N ∧ N ≤ 2000) {s : List UInt8} (hs : s.length ≤ 8192) {y : Nat} (hy : y < 18446744073709551616) (z x2 x3 : Int) (h2 : z = 0 → 0 ≤ x2 ∧ x2 ≤ 64) :
  F_tollbarref32_Save_L1 s (y : Int) (bigB (nextN y) 8) (bigB s.length 4) (bigB (sumV s).toNat 4) (((needV s : Nat) : Int), false, z, x2, x3, q) =
   if z = 0 then some (.inr (true, -1, 0, x3, 3, setD q (130 * (nextN y % 2)) (.s ((headV (nextN y) s).take (toN x2) ++ (f (130 * (nextN y % 2))).drop (toN x2)))))
   else some (.inr (false, decV z, x2, iadd .i64 x3 1, 0, setD q (130 * (nextN y % 2)) (.s (headV (nextN y) s)))) := by
 have hnl := need_le hs
 have hlt : ¬ 64 * needV s < s.length := fun h => by have := need_lt.2 h; omega
 have h22 : nextN y % 2 < 2 := Nat.mod_lt _ (by omega)
 have hw := hQ.write h64 (by omega) (i := 130 * (nextN y % 2)) (by omega) z x2 x3 (headV_len (nextN y) s) h2
 have eh : cat (cat (cat (cat (bigB (nextN y) 8) (bigB s.length 4)) (bigB (sumV s).toNat 4)) (@lrep UInt8 (toN 40) 0)) (bigB (nextN y) 8) = headV (nextN y) s := by
  simp only [cat, headV, List.append_assoc]
  rfl
 unfold F_tollbarref32_Save_L1
 dsimp only
 rw [mul64 (by omega), if_neg (by rw [pilt]; simp only [ofN, xlen]; omega), next_eq hy, rat_head, eh, hw]
 by_cases hz : z = 0
 ·rw [if_pos hz, if_pos hz]
 ·rw [if_neg hz, if_neg hz]
theorem rsave_loop {N : Nat} {f : Nat → List UInt8} (h64 : ∀ k, k < N → (f k).length = 64) (hN : 260 ≤ N ∧ N ≤ 2000) {s : List UInt8} (hs : s.length ≤ 8192) {y : Nat} (hy : y < 18446744073709551616) (x2 : Int) :
  ∀ (d m : Nat) (x3 : Int) (q : List D), m + d = needV s → HoldsQ q N (fillV f (nextN y % 2) s m) →
   ∃ z q', iter (F_tollbarref32_Save_L1 s (y : Int) (bigB (nextN y) 8) (bigB s.length 4) (bigB (sumV s).toNat 4)) ((m : Int), false, -1, x2, x3, q) = some (false, -1, x2, z, 0, q') ∧ HoldsQ q' N (savedV f (nextN y) s) := by
 have hnl := need_le hs
 have h22 : nextN y % 2 < 2 := Nat.mod_lt _ (by omega)
 have hf : ∀ m k, k < N → (fillV f (nextN y % 2) s m k).length = 64 := fun m k hk => by
  unfold fillV
  split
  ·exact chunk_len _ _
  ·exact h64 k hk
 have hdec : decV (-1) = -1 := rfl
 intro d
 induction d with
 | zero =>
  intro m x3 q hm hQ
  obtain rfl : m = needV s := by omega
  have h := rlast hQ (hf _) hN hs hy (-1) x2 x3 (fun h => by omega)
  rw [if_neg (by omega), hdec] at h
  exact ⟨_, _, iter_inr h, hQ.set (by omega) (fun j hj => rfl)⟩
 | succ d ih =>
  intro m x3 q hm hQ
  have h := rstep hQ (hf _) hN hs hy (t2 := bigB (nextN y) 8) (t3 := bigB s.length 4) (t4 := bigB (sumV s).toNat 4) (m := m) (by omega) (-1) x2 x3 (fun h => by omega)
  rw [if_neg (by omega), hdec] at h
  rw [iter_inl h]
  exact ih (m + 1) _ _ (by omega) (hQ.set (by omega) (fun j hj => fill_succ j))
theorem rsave3_loop {N : Nat} {f : Nat → List UInt8} (h64 : ∀ k, k < N → (f k).length = 64) (hN : 260 ≤ N ∧ N ≤ 2000) {s : List UInt8} (hs : s.length ≤ 8192) {y : Nat} (hy : y < 18446744073709551616) {w K : Nat} (hw : w ≤ 1000) (hK : K ≤ 64) :
  ∀ (d m : Nat) (x3 : Int) (q : List D), m + d = needV s → m ≤ w → HoldsQ q N (fillV f (nextN y % 2) s m) →
   (needV s + 1 ≤ w → ∃ z q', iter (F_tollbarref32_Save_L1 s (y : Int) (bigB (nextN y) 8) (bigB s.length 4) (bigB (sumV s).toNat 4)) ((m : Int), false, (w : Int) - (m : Int), (K : Int), x3, q) = some (false, (w : Int) - ((needV s + 1 : Nat) : Int), (K : Int), z, 0, q') ∧ HoldsQ q' N (savedV f (nextN y) s)) ∧
   (w ≤ needV s → ∃ z q', iter (F_tollbarref32_Save_L1 s (y : Int) (bigB (nextN y) 8) (bigB s.length 4) (bigB (sumV s).toNat 4)) ((m : Int), false, (w : Int) - (m : Int), (K : Int), x3, q) = some (true, -1, 0, z, 3, q') ∧ HoldsQ q' N (tornV f (nextN y) s w K)) := by
 have hnl := need_le hs
 have h22 : nextN y % 2 < 2 := Nat.mod_lt _ (by omega)
 have hf : ∀ m k, k < N → (fillV f (nextN y % 2) s m k).length = 64 := fun m k hk => by
  unfold fillV
  split
  ·exact chunk_len _ _
  ·exact h64 k hk
 have hdec : ∀ m : Nat, m < w → decV ((w : Int) - (m : Int)) = (w : Int) - ((m + 1 : Nat) : Int) := fun m hm => by
  unfold decV
  rw [if_pos (by omega)]
  simp only [isub]
  rw [pwi64 (by omega) (by omega)]
  omega
 intro d
 induction d with
 | zero =>
  intro m x3 q hm hmw hQ
  obtain rfl : m = needV s := by omega
  have h := rlast hQ (hf _) hN hs hy ((w : Int) - ((needV s : Nat) : Int)) (K : Int) x3 (fun h => by omega)
  refine ⟨fun hlw => ?_, fun hwl => ?_⟩
  ·rw [if_neg (by omega), hdec _ (by omega)] at h
   exact ⟨_, _, iter_inr h, hQ.set (by omega) (fun j hj => rfl)⟩
  ·obtain rfl : w = needV s := by omega
   rw [if_pos (by omega), ptoN] at h
   refine ⟨_, _, iter_inr h, hQ.set (by omega) (fun j hj => ?_)⟩
   unfold tornV
   rw [if_neg (by omega)]
   (try dsimp only)
   rw [fill_out (j := 130 * (nextN y % 2)) (by omega)]
   by_cases e : j = 130 * (nextN y % 2)
   ·rw [if_pos e, if_pos e, e]
   ·rw [if_neg e, if_neg e]
 | succ d ih =>
  intro m x3 q hm hmw hQ
  have h := rstep hQ (hf _) hN hs hy (t2 := bigB (nextN y) 8) (t3 := bigB s.length 4) (t4 := bigB (sumV s).toNat 4) (m := m) (by omega) ((w : Int) - (m : Int)) (K : Int) x3 (fun h => by omega)
  by_cases hwm : w = m
  ·subst hwm
   refine ⟨fun h => by omega, fun _ => ?_⟩
   rw [if_pos (by omega), ptoN] at h
   refine ⟨_, _, iter_inr h, hQ.set (by omega) (fun j hj => ?_)⟩
   unfold tornV
   rw [if_pos (by omega)]
   (try dsimp only)
   rw [fill_out (j := 130 * (nextN y % 2) + 1 + w) (by omega)]
   by_cases e : j = 130 * (nextN y % 2) + 1 + w
   ·rw [if_pos e, if_pos e, e]
   ·rw [if_neg e, if_neg e]
  ·rw [if_neg (by omega), hdec _ (by omega)] at h
   rw [iter_inl h]
   exact ih (m + 1) _ _ (by omega) (by omega) (hQ.set (by omega) (fun j hj => fill_succ j))
theorem rsave_unf {q : List D} {N : Nat} {f : Nat → List UInt8} (hQ : HoldsQ q N f) (h64 : ∀ k, k < N → (f k).length = 64) (hN : 260 ≤ N ∧ N ≤ 2000) {s : List UInt8} (hs : s.length ≤ 8192) (x1 x2 x3 : Int) :
  F_tollbarref32_Save false x1 x2 x3 s q = iter (F_tollbarref32_Save_L1 s ((loadV f).2.1 : Int) (bigB (nextN (loadV f).2.1) 8) (bigB s.length 4) (bigB (sumV s).toNat 4)) (0, false, x1, x2, x3, q) := by
 have hy := load_lt (f := f) (h64 _ (by omega)) (h64 _ (by omega))
 have hn := next_lt (loadV f).2.1
 have he := load_e f
 have b8 : F_tollbarref01_Big ((nextN (loadV f).2.1 : Nat) : Int) 8 = some (bigB (nextN (loadV f).2.1) 8) := p_rbig hn 8 (by omega)
 have b4 : F_tollbarref01_Big ((s.length : Nat) : Int) 4 = some (bigB s.length 4) := p_rbig (by omega) 4 (by omega)
 have ecl : iconv .u64 (ofN (xlen s)) = ((s.length : Nat) : Int) := cvlen (by simp only [xlen]; omega)
 unfold F_tollbarref32_Save
 rw [p_rload hQ h64 hN]
 dsimp only
 rw [if_neg (by rw [pieq]; omega), if_neg (by rw [pilt]; simp only [ofN, xlen]; omega), if_neg (by rw [pieq]; omega), p_rsum (by omega)]
 dsimp only
 rw [next_eq hy, b8]
 dsimp only
 rw [ecl, b4]
 dsimp only
 rw [if_pos (by simp only [xlen, bigB_len]; omega), p_rbig4]
 dsimp only
 rw [if_pos (by simp only [xlen, cat, List.length_append, bigB_len]; omega), if_pos (by omega), if_pos (by simp only [xlen, cat, lrep, toN, List.length_append, List.length_replicate, bigB_len]; omega),
  if_pos (by simp only [xlen, cat, lrep, toN, List.length_append, List.length_replicate, bigB_len]; omega)]
theorem p_rsave {q : List D} {N : Nat} {f : Nat → List UInt8} (hQ : HoldsQ q N f) (h64 : ∀ k, k < N → (f k).length = 64) (hN : 260 ≤ N ∧ N ≤ 2000) {s : List UInt8} (hs : s.length ≤ 8192) (x2 x3 : Int) :
  ∃ z q', F_tollbarref32_Save false (-1) x2 x3 s q = some (false, -1, x2, z, 0, q') ∧ HoldsQ q' N (savedV f (nextN (loadV f).2.1) s) := by
 have hy := load_lt (f := f) (h64 _ (by omega)) (h64 _ (by omega))
 rw [rsave_unf hQ h64 hN hs]
 exact rsave_loop h64 hN hs hy x2 (needV s) 0 x3 q (by omega) (by rw [fill_zero]; exact hQ)
theorem p_rsave3 {q : List D} {N : Nat} {f : Nat → List UInt8} (hQ : HoldsQ q N f) (h64 : ∀ k, k < N → (f k).length = 64) (hN : 260 ≤ N ∧ N ≤ 2000) {s : List UInt8} (hs : s.length ≤ 8192) {w K : Nat} (hw : w ≤ 1000) (hK : K ≤ 64) (x3 : Int) :
  (needV s + 1 ≤ w → ∃ z q', F_tollbarref32_Save false (w : Int) (K : Int) x3 s q = some (false, (w : Int) - ((needV s + 1 : Nat) : Int), (K : Int), z, 0, q') ∧ HoldsQ q' N (savedV f (nextN (loadV f).2.1) s)) ∧
  (w ≤ needV s → ∃ z q', F_tollbarref32_Save false (w : Int) (K : Int) x3 s q = some (true, -1, 0, z, 3, q') ∧ HoldsQ q' N (tornV f (nextN (loadV f).2.1) s w K)) := by
 have hy := load_lt (f := f) (h64 _ (by omega)) (h64 _ (by omega))
 have h := rsave3_loop h64 hN hs hy hw hK (needV s) 0 x3 q (by omega) (by omega) (by rw [fill_zero]; exact hQ)
 rw [rsave_unf hQ h64 hN hs]
 have e1 : (w : Int) - ((0 : Nat) : Int) = (w : Int) := by omega
 rw [e1] at h
 exact h
theorem rsave_big {q : List D} {N : Nat} {f : Nat → List UInt8} (hQ : HoldsQ q N f) (h64 : ∀ k, k < N → (f k).length = 64) (hN : 260 ≤ N ∧ N ≤ 2000) {s : List UInt8} (hs : 8192 < s.length) (x1 x2 x3 : Int) :
  F_tollbarref32_Save false x1 x2 x3 s q = some (false, x1, x2, x3, 14, q) := by
 have he := load_e f
 unfold F_tollbarref32_Save
 rw [p_rload hQ h64 hN]
 dsimp only
 rw [if_neg (by rw [pieq]; omega), if_pos (by rw [pilt]; simp only [ofN, xlen]; omega)]
theorem p_rarm {w k : Nat} (hk : k ≤ 64) (b : Bool) (x1 x2 x3 : Int) (q : List D) : F_tollbarref31_Arm b x1 x2 x3 (w : Int) (k : Int) q = some ((w : Int), (k : Int), 0) := by
 unfold F_tollbarref31_Arm
 rw [if_neg (by rw [pilt]; omega), if_neg (by rw [pilt]; omega), if_neg (by rw [pilt]; omega)]
theorem p_noughts : F_tollbarref31_noughts = some N64 := by
 unfold F_tollbarref31_noughts
 rw [if_pos (by decide)]
 rfl
theorem p_rnew_loop {n : Nat} (hn : n ≤ 2000) : ∀ (m i : Nat) (r : List D), i + m = n → r.length = i → (∀ k, k < i → getD r k = .s N64) →
  ∃ q, iter (F_tollbarref31_New_L1 (n : Int)) ((i : Int), r) = some q ∧ q.length = n ∧ ∀ k, k < n → getD q k = .s N64 := by
 intro m
 induction m with
 | zero =>
  intro i r hi hl hr
  refine ⟨r, iter_inr ?_, by omega, fun k hk => hr k (by omega)⟩
  unfold F_tollbarref31_New_L1
  dsimp only
  rw [if_neg (by rw [pilt]; omega)]
 | succ m ih =>
  intro i r hi hl hr
  obtain ⟨q, e1, e2, e3⟩ := ih (i + 1) (r ++ [.s N64]) (by omega) (by simp [hl]) (fun k hk => by
   by_cases h : k < i
   ·rw [← hr k h]; simp [getD, List.getElem?_append_left, hl, h]
   ·have : k = i := by omega
    subst this
    simp [getD, ← hl])
  refine ⟨q, ?_, e2, e3⟩
  rw [← e1]
  apply iter_inl
  unfold F_tollbarref31_New_L1
  dsimp only
  rw [if_pos (by rw [pilt]; omega), p_noughts]
  dsimp only
  rw [if_pos (by simp only [xlen, List.length_singleton]; omega), pnext (by omega)]
  rfl
theorem p_rnew {n : Nat} (hn : n ≤ 2000) : ∃ q, F_tollbarref31_New (n : Int) = some q ∧ HoldsQ q n (fun _ => N64) := by
 obtain ⟨q, e1, e2, e3⟩ := p_rnew_loop hn n 0 [] (by omega) rfl (fun k hk => by omega)
 exact ⟨q, e1, e2, fun k hk => by rw [e3 k hk]; rfl⟩
end Go.Proofs.YtbkcmpggacbikaaDoor
end
section
/-
  Whatever is saved, with whatever is torn: both say the same.
-/
set_option linter.unusedVariables false
set_option linter.unusedSimpArgs false
namespace Go.Proofs.YtbkcmpggacbikaaDoor
def setV (f : Nat → List UInt8) (k : Nat) (s : List UInt8) : Nat → List UInt8 := fun j => if j = k then s else f j
theorem h64_of {r : List D} {N : Nat} {f : Nat → List UInt8} (h : Holds r N f) : ∀ k, k < N → (f k).length = 64 := fun k hk => h.l64 hk
theorem does_tail {N : Nat} {f : Nat → List UInt8} {r q : List D} (hR : Holds r N f) (hQ : HoldsQ q N f) (hN : 260 ≤ N ∧ N ≤ 2000) (y x1 x2 x3 : Int) :
  ∃ k t, F_journal_Load false y r = some (k, ((loadV f).2.1 : Int), (loadV f).2.2, t) ∧ lsub t 0 k = (loadV f).1 ∧ F_tollbarref32_Load false x1 x2 x3 q = some ((loadV f).1, ((loadV f).2.1 : Int), (loadV f).2.2) := by
 obtain ⟨k, t, g1, g2⟩ := p_load hR hN y
 exact ⟨k, t, g1, g2, p_rload hQ (h64_of hR) hN x1 x2 x3⟩
theorem up2 (b : Bool) (x : Int) (r : List D) : F_block_Device_Up_2 b x r = some () := rfl
theorem up3 (b : Bool) (x : Int) (r : List D) (z u : Int) : F_block_Device_Up_3 b x r z u = some () := rfl
theorem rup (b : Bool) (x1 x2 x3 : Int) (q : List D) : F_tollbarref31_Up b x1 x2 x3 q = some () := rfl
theorem does_step {r1 : List D} (hs : StepsOk r1) {i : Nat} (hi : i < r1.length) (hi2 : r1.length ≤ 12) {f : Nat → List UInt8} {r q : List D} {y : Int} (hy : 0 ≤ y ∧ y ≤ 1000 + 1000 * i) (x2 x3 : Int) (hR : Holds r 261 f) (hQ : HoldsQ q 261 f) :
  ∃ f' r' q' y' z', F_tollbarlaw32_JournalDoes_L4 r1 ((i : Int), y, false, -1, x2, x3, r, q) = some (.inl (((i + 1 : Nat) : Int), y', false, -1, 0, z', r', q')) ∧ 0 ≤ y' ∧ y' ≤ 1000 + 1000 * (i + 1) ∧ Holds r' 261 f' ∧ HoldsQ q' 261 f' := by
 have hN : 260 ≤ 261 ∧ 261 ≤ 2000 := by omega
 have ha := hs.a i hi
 have hc := hs.c i hi
 have hd := hs.d i hi
 obtain ⟨B, hB, hBl⟩ := p_bytes ha (D.toI (D.fld (getD r1 i) 1)) (D.toI (D.fld (getD r1 i) 2)) (D.toI (D.fld (getD r1 i) 3))
 have h64 := h64_of hR
 unfold F_tollbarlaw32_JournalDoes_L4
 dsimp only
 rw [if_pos (by rw [pilt]; simp only [ofN, xlen]; omega), if_pos (by simp only [ofN, xlen]; omega), ptoN]
 by_cases hw : D.toI (D.fld (getD r1 i) 2) ≤ 200
 ·-- armed
  rw [if_pos (by rw [pile]; exact hw), cv_w hc, cv_k hd]
  generalize hwv : (D.toI (D.fld (getD r1 i) 2)).toNat = w
  have hw1 : w ≤ 200 := by omega
  have hK : (D.toI (D.fld (getD r1 i) 3)).toNat % 65 ≤ 64 := by omega
  generalize (D.toI (D.fld (getD r1 i) 3)).toNat % 65 = K at hK
  rw [p_arm hK]
  dsimp only
  rw [p_rarm hK]
  dsimp only
  rw [hB]
  dsimp only
  by_cases hb : 8192 < B.length
  ·rw [rsave_big hQ h64 hN hb]
   dsimp only
   rw [save3_big hb (by omega) hR hN]
   dsimp only
   obtain ⟨k, t, g1, g2, g3⟩ := does_tail hR hQ hN y (w : Int) (K : Int) x3
   obtain ⟨k', t', g4, g5, g6⟩ := does_tail hR hQ hN y (-1) 0 x3
   rw [if_pos (by rw [pieq]), load3_eq, g1]
   dsimp only
   rw [g3]
   dsimp only
   rw [up3]
   dsimp only
   rw [rup]
   dsimp only
   rw [g6]
   dsimp only
   rw [if_pos (by rw [pieq]), if_pos (by rw [pseq]; exact g2), if_pos (by rw [pieq]), if_pos (by rw [pieq]), pnext (by omega)]
   exact ⟨f, r, q, y, x3, rfl, by omega, by omega, hR, hQ⟩
  ·have hBs : B.length ≤ 8192 := by omega
   have hnl := need_le hBs
   by_cases hnw : needV B + 1 ≤ w
   ·obtain ⟨r', a1, hR'⟩ := (p_save3 hBs hR hN (x := y) (by omega) (w := w) (K := K) (by omega) hK).1 hnw
    obtain ⟨z, q', a2, hQ'⟩ := (p_rsave3 hQ h64 hN hBs (w := w) (K := K) (by omega) hK x3).1 hnw
    rw [a2]
    dsimp only
    rw [a1]
    dsimp only
    obtain ⟨k, t, g1, g2, g3⟩ := does_tail hR' hQ' hN (y + ((needV B + 1 : Nat) : Int)) ((w : Int) - ((needV B + 1 : Nat) : Int)) (K : Int) z
    obtain ⟨k', t', g4, g5, g6⟩ := does_tail hR' hQ' hN (y + ((needV B + 1 : Nat) : Int)) (-1) 0 z
    rw [if_pos (by rw [pieq]), load3_eq, g1]
    dsimp only
    rw [g3]
    dsimp only
    rw [up3]
    dsimp only
    rw [rup]
    dsimp only
    rw [g6]
    dsimp only
    rw [if_pos (by rw [pieq]), if_pos (by rw [pseq]; exact g2), if_pos (by rw [pieq]), if_pos (by rw [pieq]), pnext (by omega)]
    exact ⟨_, r', q', y + ((needV B + 1 : Nat) : Int), z, rfl, by omega, by omega, hR', hQ'⟩
   ·obtain ⟨r', z0, a1, hR'⟩ := (p_save3 hBs hR hN (x := y) (by omega) (w := w) (K := K) (by omega) hK).2 (by omega)
    obtain ⟨z, q', a2, hQ'⟩ := (p_rsave3 hQ h64 hN hBs (w := w) (K := K) (by omega) hK x3).2 (by omega)
    rw [a2]
    dsimp only
    rw [a1]
    dsimp only
    obtain ⟨k', t', g4, g5, g6⟩ := does_tail hR' hQ' hN (y + (w : Int)) (-1) 0 z
    rw [if_pos (by rw [pieq]), load_down _ (by rw [hR'.len]; omega)]
    dsimp only
    rw [rload_down (by rw [hQ'.len]; omega)]
    dsimp only
    rw [up2]
    dsimp only
    rw [rup]
    dsimp only
    rw [g4]
    dsimp only
    rw [g6]
    dsimp only
    rw [if_pos (by rw [pieq]), if_pos (by rw [pseq]; exact g5), if_pos (by rw [pieq]), if_pos (by rw [pieq]), pnext (by omega)]
    exact ⟨_, r', q', y + (w : Int), z, rfl, by omega, by omega, hR', hQ'⟩
 ·rw [if_neg (by rw [pile]; exact hw), hB]
  dsimp only
  by_cases hb : 8192 < B.length
  ·rw [rsave_big hQ h64 hN hb]
   dsimp only
   rw [save_big hb (by omega) hR hN]
   dsimp only
   obtain ⟨k, t, g1, g2, g3⟩ := does_tail hR hQ hN y (-1) x2 x3
   obtain ⟨k', t', g4, g5, g6⟩ := does_tail hR hQ hN y (-1) 0 x3
   rw [if_pos (by rw [pieq]), g1]
   dsimp only
   rw [g3]
   dsimp only
   rw [up2]
   dsimp only
   rw [rup]
   dsimp only
   rw [g6]
   dsimp only
   rw [if_pos (by rw [pieq]), if_pos (by rw [pseq]; exact g2), if_pos (by rw [pieq]), if_pos (by rw [pieq]), pnext (by omega)]
   exact ⟨f, r, q, y, x3, rfl, by omega, by omega, hR, hQ⟩
  ·have hBs : B.length ≤ 8192 := by omega
   have hnl := need_le hBs
   obtain ⟨r', a1, hR'⟩ := p_save hBs hR hN (x := y) (by omega)
   obtain ⟨z, q', a2, hQ'⟩ := p_rsave hQ h64 hN hBs x2 x3
   rw [a2]
   dsimp only
   rw [a1]
   dsimp only
   obtain ⟨k, t, g1, g2, g3⟩ := does_tail hR' hQ' hN (y + ((needV B + 1 : Nat) : Int)) (-1) x2 z
   obtain ⟨k', t', g4, g5, g6⟩ := does_tail hR' hQ' hN (y + ((needV B + 1 : Nat) : Int)) (-1) 0 z
   rw [if_pos (by rw [pieq]), g1]
   dsimp only
   rw [g3]
   dsimp only
   rw [up2]
   dsimp only
   rw [rup]
   dsimp only
   rw [g6]
   dsimp only
   rw [if_pos (by rw [pieq]), if_pos (by rw [pseq]; exact g2), if_pos (by rw [pieq]), if_pos (by rw [pieq]), pnext (by omega)]
   exact ⟨_, r', q', y + ((needV B + 1 : Nat) : Int), z, rfl, by omega, by omega, hR', hQ'⟩
theorem does_loop4 {r1 : List D} (hs : StepsOk r1) (hi2 : r1.length ≤ 12) : ∀ (d i : Nat) (f : Nat → List UInt8) (r q : List D) (y x2 x3 : Int), i + d = r1.length → 0 ≤ y ∧ y ≤ 1000 + 1000 * i → Holds r 261 f → HoldsQ q 261 f →
  iter (F_tollbarlaw32_JournalDoes_L4 r1) ((i : Int), y, false, -1, x2, x3, r, q) = some true := by
 intro d
 induction d with
 | zero =>
  intro i f r q y x2 x3 hi hy hR hQ
  apply iter_inr
  unfold F_tollbarlaw32_JournalDoes_L4
  dsimp only
  rw [if_neg (by rw [pilt]; simp only [ofN, xlen]; omega)]
 | succ d ih =>
  intro i f r q y x2 x3 hi hy hR hQ
  obtain ⟨f', r', q', y', z', g1, g2, g3, g4, g5⟩ := does_step hs (i := i) (by omega) hi2 hy x2 x3 hR hQ
  rw [iter_inl g1]
  exact ih (i + 1) f' r' q' y' 0 z' (by omega) ⟨g2, by omega⟩ g4 g5
theorem raw_step {r q : List D} {f : Nat → List UInt8} (hR : Holds r 261 f) (hQ : HoldsQ q 261 f) (x y x2 x3 : Int) {s : List UInt8} (hs : s.length = 64) :
  ∃ f' r' q' v y' v' z', F_block_Device_Write x s false y r = some (v, y', r') ∧ (y' = y ∨ y' = iadd .i64 y 1) ∧ F_tollbarref31_Write false (-1) x2 x3 x s q = some (false, -1, x2, z', v', q') ∧ Holds r' 261 f' ∧ HoldsQ q' 261 f' := by
 have h64 := h64_of hR
 have hp := p_write x s false y r
 have hq := p_rwrite (q := q) false (-1) x2 x3 x s (by rw [hQ.len]; omega) (fun k hk => by rw [hQ.at_ k (by rw [← hQ.len]; exact hk)]; exact h64 k (by rw [← hQ.len]; exact hk)) (fun h => by omega)
 rw [hR.len] at hp
 rw [hQ.len] at hq
 by_cases h0 : wV false 261 x s = 0
 ·obtain ⟨_, g1, g2, g3⟩ := wV0 h0
  rw [if_pos h0] at hp hq
  rw [if_neg (by omega), if_neg (by omega)] at hq
  have hk : toN x < 261 := by simp only [toN]; omega
  exact ⟨setV f (toN x) s, _, _, _, _, _, _, hp, .inr rfl, hq, hR.set hk (Is.arr hs) (fun j hj => rfl), hQ.set hk (fun j hj => rfl)⟩
 ·rw [if_neg h0] at hp hq
  exact ⟨f, _, _, _, _, _, _, hp, .inl rfl, hq, hR, hQ⟩
theorem does_loop3 {r1 r2 : List D} (hs : StepsOk r1) (hi2 : r1.length ≤ 12) (hr2 : r2.length ≤ 20) : ∀ (d i : Nat) (f : Nat → List UInt8) (r q : List D) (y x2 x3 : Int), i + d = r2.length → 0 ≤ y ∧ y ≤ i → Holds r 261 f → HoldsQ q 261 f →
  iter (F_tollbarlaw32_JournalDoes_L3 r2 r1) ((i : Int), y, false, -1, x2, x3, r, q) = some true := by
 intro d
 induction d with
 | zero =>
  intro i f r q y x2 x3 hi hy hR hQ
  apply iter_inr
  unfold F_tollbarlaw32_JournalDoes_L3
  dsimp only
  have h := does_loop4 hs hi2 r1.length 0 f r q y x2 x3 (by omega) (by omega) hR hQ
  have e0 : ((0 : Nat) : Int) = 0 := rfl
  rw [e0] at h
  rw [if_neg (by rw [pilt]; simp only [ofN, xlen]; omega), h]
  rfl
 | succ d ih =>
  intro i f r q y x2 x3 hi hy hR hQ
  have hlt : i < r2.length := by omega
  have g1 : ilt (i : Int) (ofN (xlen r2)) = true := by rw [pilt]; simp only [ofN, xlen]; omega
  have g2 : 0 ≤ (i : Int) ∧ (i : Int) < ofN (xlen r2) := by simp only [ofN, xlen]; omega
  by_cases hl : (D.toS (D.fld (getD r2 i) 1)).length = 64
  ·obtain ⟨f', r', q', v, y', v', z', a1, a2, a3, hR', hQ'⟩ := raw_step hR hQ (D.toI (D.fld (getD r2 i) 0)) y x2 x3 hl
   have hy' : 0 ≤ y' ∧ y' ≤ ((i + 1 : Nat) : Int) := by
    rcases a2 with a2 | a2
    ·omega
    ·rw [a2]
     simp only [iadd]
     rw [pwi64 (by omega) (by omega)]
     omega
   rw [iter_inl (y := (((i + 1 : Nat) : Int), y', false, -1, x2, z', r', q'))]
   ·exact ih (i + 1) f' r' q' y' x2 z' (by omega) hy' hR' hQ'
   ·unfold F_tollbarlaw32_JournalDoes_L3
    dsimp only
    rw [if_pos g1, if_pos g2, ptoN, if_pos (by rw [pieq]; simp only [ofN, xlen]; omega), if_pos g2, if_pos g2, a1]
    dsimp only
    rw [if_pos g2, if_pos g2, a3]
    dsimp only
    rw [pnext (by omega)]
  ·rw [iter_inl (y := (((i + 1 : Nat) : Int), y, false, -1, x2, x3, r, q))]
   ·exact ih (i + 1) f r q y x2 x3 (by omega) (by omega) hR hQ
   ·unfold F_tollbarlaw32_JournalDoes_L3
    dsimp only
    rw [if_pos g1, if_pos g2, ptoN, if_neg (by rw [pieq]; simp only [ofN, xlen]; omega), pnext (by omega)]
theorem does_law {r1 r2 : List D} (hs : StepsOk r1) : F_tollbarlaw32_JournalDoes r1 r2 = some true := by
 unfold F_tollbarlaw32_JournalDoes
 rw [p_awake]
 dsimp only
 rw [if_pos rfl]
 by_cases h1 : 12 < r1.length
 ·rw [if_pos (by rw [pilt]; simp only [ofN, xlen]; omega)]
 rw [if_neg (by rw [pilt]; simp only [ofN, xlen]; omega)]
 by_cases h2 : 20 < r2.length
 ·rw [if_pos (by rw [pilt]; simp only [ofN, xlen]; omega)]
 rw [if_neg (by rw [pilt]; simp only [ofN, xlen]; omega)]
 have e0 : (261 : Int) = ((261 : Nat) : Int) := rfl
 obtain ⟨q, e1, hQ⟩ := p_rnew (n := 261) (by omega)
 rw [e0, p_new (by omega)]
 dsimp only
 rw [e1]
 dsimp only
 have h := does_loop3 (r1 := r1) (r2 := r2) hs (by omega) (by omega) r2.length 0 _ _ q 0 0 0 (by omega) (by omega) (holds_new 261) hQ
 exact h
theorem p_JournalDoes (r1 r2 : List D) (h1 : (Ty.row 47 (.st [.int .u16, .int .u8, .int .u8, .int .u8])).rng (.l r1)) (h2 : (Ty.row 42 (.st [.int .i64, .str])).rng (.l r2)) : F_tollbarlaw32_JournalDoes r1 r2 = some true :=
 does_law (steps_ok h1)
end Go.Proofs.YtbkcmpggacbikaaDoor
end
section
/-
  The table `half` of package frame, as the row lays it: what it holds, where it stands.
-/
set_option linter.unusedVariables false
set_option linter.unusedSimpArgs false
namespace Go.Proofs.YtbkcmpggacbikaaDoor
open Go.ChangeShapes Go.WideShapes Go.ChangeAt Go.WideMaps Go.WideElems Go.RowKit
def laidL : List (String × DataW Unit) := [("tollbar/frame.half", Rows.laid_tollbar_frame_half)]
def halfL : List Int := [0, 274646895, 549293790, 820201905, 1098587580, 1361435347, 1640403810, 1905808397, 2197175160, 2460548119, 2722870694, 2987750089, 3280807620, 3553878443, 3811616794, 4084100981]
theorem gHalf : Tryd.prog.globalNamed "tollbar/frame.half" = some 0 := by kernel_rfl
theorem tHalf : (Tryd.prog.globals[0]?).map (·.type) = some 102 := by kernel_rfl
theorem laid_is : (Rows.laid_tollbar_frame_half : DataW Unit) = .agg (halfL.map fun k => .lit (.int .u32 k)) := rfl
theorem laid_cells {W : World} (h : laidMetH Tryd.prog laidL W) : ∀ i, i < 16 → W.cell? ⟨0, i, none⟩ = some (.int .u32 (halfL.getD i 0)) := by
 rw [MakeChecks.laidMetH_plain _ _ _ (by kernel_rfl)] at h
 obtain ⟨ps, ⟨g0, t0, cs0, f0, p0, q0, hg0, ht0, hv0, hd0, _, _⟩, _, _⟩ := h
 obtain rfl := Option.some.inj (gHalf.symm.trans hg0)
 obtain rfl := Option.some.inj (tHalf.symm.trans ht0)
 obtain ⟨xs, m1, rfl, hx1, hlen, hn3, hel⟩ := DataW.trod_array Tryd.underlying102 hd0
 have c3 : Tryd.prog.cellsOf 75 = 1 := by kernel_rfl
 simp only [Prod.mk.injEq] at hx1
 obtain ⟨hx1, _⟩ := hx1
 rw [laid_is] at hx1
 simp only [DataW.agg.injEq] at hx1
 intro i hi
 have h0 := hel i hi
 have hxi : i < xs.length := by omega
 rw [List.getElem?_eq_getElem hxi] at h0
 obtain ⟨k, e1, e2, _⟩ := DataW.trod_int Tryd.underlying75 h0
 have hk := congrArg (fun l => l[i]?) hx1
 have hil : i < halfL.length := hi
 simp only [List.getElem?_map, List.getElem?_eq_getElem hxi, List.getElem?_eq_getElem hil, Option.map_some, Option.some.injEq, e2, DataW.lit.injEq, Lit.int.injEq, true_and] at hk
 have := World.var?_cell hg0 hv0 i
 rw [this]
 rw [c3] at e1
 have e3 : cs0.toList[i]? = some (.int .u32 k) := by
  have := congrArg (fun l => l[0]?) e1
  simpa [List.getElem?_take, List.getElem?_drop] using this
 have e4 : cs0[i]? = some (.int .u32 k) := by simpa using e3
 rw [e4, ← hk]
 simp [hil]
theorem laid_den {W : World} (h : laidMetH Tryd.prog laidL W) : ∀ g r, (g, r) ∈ globs → Den (fun _ => none) W (fun _ => False) (.rsl r) (.slice (some ⟨g, 0, none⟩) (rlen r) (rlen r)) := by
 intro g r hg
 have hc := laid_cells h
 have e : (g, r) = (0, R.ints 75 .u32 halfL) := List.mem_singleton.1 hg
 injection e with e1 e2
 subst e1
 subst e2
 refine .rsl (.ints 75 .u32 halfL) _ _ (fun i j => .int .u32 (halfL.getD i 0)) (Nat.le_refl _) (fun _ => ⟨_, rfl, ?_, fun h => h⟩) ?_ ?_
 ·have h0 := hc 0 (by omega)
  unfold World.cell? at h0
  cases hb : W.heap[0]? with
  | none => rw [hb] at h0; cases h0
  | some o => exact (Array.getElem?_eq_some_iff.1 hb).1
 ·intro i j ad e1 hi hj
  injection e1 with e1
  subst e1
  simp only [R.sz] at hj ⊢
  obtain rfl : j = 0 := by omega
  simp only [Nat.mul_one, add_zero', add_lit', Nat.zero_add]
  exact ⟨hc i hi, rfl⟩
 ·intro i j hi hj
  simp only [R.elem, List.length_singleton] at hj
  obtain rfl : j = 0 := by omega
  simp only [R.elem, List.getElem_cons_zero, lock_eq, getI]
  exact .v _
end Go.Proofs.YtbkcmpggacbikaaDoor
end
