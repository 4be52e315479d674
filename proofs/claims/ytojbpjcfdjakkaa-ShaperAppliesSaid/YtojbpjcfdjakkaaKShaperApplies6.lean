/-
  Texts that the row of this claim stands on, one behind the other.
-/
import Derived.Test.YtojbpjcfdjakkaaKShaperApplies1
import Derived.Test.YtojbpjcfdjakkaaKShaperApplies2
import Derived.Test.YtojbpjcfdjakkaaKShaperApplies3
import Derived.Test.YtojbpjcfdjakkaaKShaperApplies4
import Derived.Test.YtojbpjcfdjakkaaKShaperApplies5
section
set_option linter.unusedVariables false
set_option linter.unusedSimpArgs false
namespace Go.Proofs.Ytojbpjcfdjakkaa
def eqCls (a b : D) : Bool := decide ((a.fld 0).toS = (b.fld 0).toS ∧ (a.fld 1).toI = (b.fld 1).toI ∧ (a.fld 2).toI = (b.fld 2).toI ∧ (a.fld 3).toI = (b.fld 3).toI ∧ (a.fld 4).toI = (b.fld 4).toI ∧ (a.fld 5).toB = (b.fld 5).toB)
def eqRule (a b : D) : Bool := decide ((a.fld 0).toI = (b.fld 0).toI ∧ (a.fld 1).toI = (b.fld 1).toI ∧ (a.fld 2).toI = (b.fld 2).toI)
def eqRows (e : D → D → Bool) (r1 r2 : List D) : Bool := decide (r1.length = r2.length) && allN r1.length fun i => e (getD r1 i) (getD r2 i)
theorem Zu4 {r1 r2 : List D} (h1 : r1.length ≤ 1000000) : Z1t r1 r2 = some (eqRows eqCls r1 r2) := by
 unfold Z1t eqRows
 by_cases c : r1.length = r2.length
 ·rw [if_pos (by rw [pieq]; simp only [ofN, xlen]; omega)]
  simp only [c, decide_true, Bool.true_and]
  rw [← c]
  have := Z15 (B := Z3c r1 r2) (P := fun i => eqCls (getD r1 i) (getD r2 i)) (n := r1.length) (e := true) (fun i hi => by
   unfold Z3c
   dsimp only
   rw [if_pos (by rw [pilt]; simp only [ofN, xlen]; omega), if_pos (by simp only [ofN, xlen]; omega), if_pos (by simp only [ofN, xlen]; omega), ptoN, pnext (by omega)]
   simp only [pband, pseq, pieq, pbeq2, and_true, eqCls, decide_eq_true_eq]) (by
   unfold Z3c
   dsimp only
   rw [if_neg (by rw [pilt]; simp only [ofN, xlen]; omega)])
  rw [this, Bool.and_true]
 rw [if_neg (by rw [pieq]; simp only [ofN, xlen]; omega)]
 simp [c]
theorem Zx0 {r1 r2 : List D} (h1 : r1.length ≤ 1000000) : Z1r r1 r2 = some (eqRows eqRule r1 r2) := by
 unfold Z1r eqRows
 by_cases c : r1.length = r2.length
 ·rw [if_pos (by rw [pieq]; simp only [ofN, xlen]; omega)]
  simp only [c, decide_true, Bool.true_and]
  rw [← c]
  have := Z15 (B := Z5d r1 r2) (P := fun i => eqRule (getD r1 i) (getD r2 i)) (n := r1.length) (e := true) (fun i hi => by
   unfold Z5d
   dsimp only
   rw [if_pos (by rw [pilt]; simp only [ofN, xlen]; omega), if_pos (by simp only [ofN, xlen]; omega), if_pos (by simp only [ofN, xlen]; omega), ptoN, pnext (by omega)]
   simp only [pband, pieq, and_true, eqRule, decide_eq_true_eq]) (by
   unfold Z5d
   dsimp only
   rw [if_neg (by rw [pilt]; simp only [ofN, xlen]; omega)])
  rw [this, Bool.and_true]
 rw [if_neg (by rw [pieq]; simp only [ofN, xlen]; omega)]
 simp [c]
def sameP (s1 : List UInt8) (b1 : Bool) (r1 r2 : List D) (x1 : Int) (s2 : List UInt8) (b2 : Bool) (x2 : Int) (r3 r4 : List D) : Bool := decide (s1 = s2) && (decide (b1 = b2) && (eqRows eqCls r1 r3 && (eqRows eqRule r2 r4 && decide (x1 = x2))))
theorem Zot {s1 s2 : List UInt8} {b1 b2 : Bool} {r1 r2 r3 r4 : List D} {x1 x2 : Int} (h1 : r1.length ≤ 1000000) (h2 : r2.length ≤ 1000000) : Z37 s1 b1 r1 r2 x1 s2 b2 x2 r3 r4 = some (sameP s1 b1 r1 r2 x1 s2 b2 x2 r3 r4) := by
 unfold Z37 sameP
 rw [Zu4 h1, Zx0 h2]
 simp only [Z7, pseq, pbeq2]
 by_cases c1 : s1 = s2
 ·rw [if_pos c1]
  by_cases c2 : b1 = b2
  ·rw [if_pos c2]
   cases eqRows eqCls r1 r3 <;> cases eqRows eqRule r2 r4 <;> simp [c1, c2, ieq, Bool.beq_eq_decide_eq]
  rw [if_neg c2]; simp [c2]
 rw [if_neg c1]; simp [c1]
def bD (a : A) : D := .l [.i a.br, .i a.bb, .i a.bt]
def lastB (g : Nat → A) (k : List UInt8) : Nat → Option A
 | 0 => none
 | i + 1 => if (g i).key = k then some (g i) else lastB g k i
theorem Z7m {k : List UInt8} {d : D} {l : List D} : mfind k (d :: l) = if (d.fld 0).toS = k then some (d.fld 1) else mfind k l := by
 by_cases h : (d.fld 0).toS = k
 ·have e : ((d.fld 0).toS == k) = true := by simpa using h
  simp only [mfind, e, if_pos h]
 have e : ((d.fld 0).toS == k) = false := by simpa using h
 simp only [mfind, e, if_neg h]
theorem Zpr {k : List UInt8} {d x : D} {l : List D} : mput (d :: l) k x = if (d.fld 0).toS = k then .l [.s k, x] :: l else d :: mput l k x := by
 by_cases h : (d.fld 0).toS = k
 ·have e : ((d.fld 0).toS == k) = true := by simpa using h
  rw [if_pos h]
  simp only [mput, e]
 have e : ((d.fld 0).toS == k) = false := by simpa using h
 rw [if_neg h]
 simp only [mput, e]
theorem Zma {k k' : List UInt8} {x : D} : ∀ l : List D, mfind k (mput l k' x) = if k' = k then some x else mfind k l
 | [] => by
  have : mput [] k' x = [.l [.s k', x]] := rfl
  rw [this, Z7m]
  rfl
 | d :: l => by
  have ih := Zma (k := k) (k' := k') (x := x) l
  rw [Zpr, Z7m]
  by_cases h1 : (d.fld 0).toS = k'
  ·rw [if_pos h1, Z7m]
   have e : D.toS (D.fld (D.l [D.s k', x]) 0) = k' := rfl
   rw [e]
   by_cases h : k' = k
   ·rw [if_pos h, if_pos h]; rfl
   rw [if_neg h, if_neg h, if_neg (by rw [h1]; exact h)]
  rw [if_neg h1, Z7m, ih]
  by_cases h2 : (d.fld 0).toS = k
  ·rw [if_pos h2, if_neg (fun h3 => h1 (h2.trans h3.symm)), if_pos h2]
  rw [if_neg h2, if_neg h2]
def tuneB (o : Option A) (x : Int) : Int := match o with
 | some a => min a.bt x
 | none => x
def newA (d : D) (o : Option A) (l : List Pk) : A := { freshA d with bt := tuneB o (d.fld 3).toI, l := l }
theorem Zou {g : Nat → A} {k : List UInt8} {a : A} : ∀ {n}, lastB g k n = some a → ∃ i, i < n ∧ g i = a
 | 0, h => by cases h
 | n + 1, h => by
  unfold lastB at h
  split at h
  ·exact ⟨n, by omega, Option.some.inj h⟩
  obtain ⟨i, h1, h2⟩ := Zou h
  exact ⟨i, by omega, h2⟩
theorem Zpo {d : D} {g : Nat → A} {n : Nat} {l : List Pk} (hg : ∀ i, i < n → AOk (g i)) (hd : U (cQ d) ∧ U (D.toI (D.fld d 2)) ∧ U (D.toI (D.fld d 3))) (hl : l.length ≤ 100000) (hs : ∀ p ∈ l, 1 ≤ p.2.2 ∧ p.2.2 ≤ 1500) : AOk (newA d (lastB g (cKey d) n) l) := by
 refine ⟨hd.1, hd.2.1, hd.2.2, ?_, hl, hs⟩
 show U (tuneB (lastB g (cKey d) n) (D.toI (D.fld d 3)))
 cases h : lastB g (cKey d) n with
 | none => exact hd.2.2
 | some a =>
  obtain ⟨i, hi, rfl⟩ := Zou h
  have h1 := (hg i hi).bt
  have h2 := hd.2.2
  have := h1.lo; have := h1.hi; have := h2.lo; have := h2.hi
  show U (min (g i).bt _)
  unfold U
  omega
theorem Zro {r1 q1 q2 : List D} (hn : r1.length ≤ 1000) : ∃ r', iter (Z70 r1 q1 q2) ((0 : Int), ([] : List Int), 0, ([] : List D)) = some (q1, q2, r1.length, r', r1.map cQ, List.replicate r1.length 0) ∧ Rep r' r1.length fun i => freshA (getD r1 i) := by
 have : Z70 r1 q1 q2 = Z2u r1 q1 q2 := rfl
 rw [this]
 exact Zbt hn
theorem Zhf {C' R' q3 r6 : List D} {n : Nat} {s1 : List UInt8} {b1 : Bool} {x1 : Int} {g : Nat → A} (hC : C'.length ≤ 1000) (hq : q3.length = C'.length) (hl : ∀ c, c < C'.length → (pks q3 c).length ≤ 100000) (h6 : ∀ k, mfind k r6 = (lastB g k n).map bD) : ∀ (m i : Nat) (r : List D), i + m = C'.length →
  Rep r C'.length (fun c => if c < i then newA (getD C' c) (lastB g (cKey (getD C' c)) n) (pks q3 c) else freshA (getD C' c)) →
  ∃ r', iter (Z21 C'.length r6 q3 s1 b1 x1 C' R' (C'.map cQ) (List.replicate C'.length 0)) ((i : Int), r) = some ((0 : Int), s1, b1, x1, C', R', C'.length, (0 : Int), false, r', C'.map cQ, List.replicate C'.length 0) ∧
   Rep r' C'.length fun c => newA (getD C' c) (lastB g (cKey (getD C' c)) n) (pks q3 c)
 | 0, i, r, hi, hR => by
  refine ⟨r, Zb ?_, hR.congr fun j hj => by rw [if_pos (by omega)]⟩
  unfold Z21
  dsimp only
  rw [if_neg (by rw [pilt]; simp only [ofN]; omega)]
 | m + 1, i, r, hi, hR => by
  have hin : i < C'.length := by omega
  obtain ⟨ring, f, he, hqr⟩ := hR.at_ i hin
  rw [if_neg (Nat.lt_irrefl _)] at he hqr
  have he' : getD r i = encA (freshA (getD C' i)) ring f := he
  obtain ⟨f', r', hld, hqr'⟩ := Zn4 (x := cLim (getD C' i)) (y := (f : Int)) (z := 0) (s := D.toL (getD q3 i)) (r := ring) (by rw [Z3o]; have := hl i hin; omega) hqr.big
  have hlen : (D.toL (getD q3 i)).length = (pks q3 i).length := Z3o
  have step : ∀ y, y = tuneB (lastB g (cKey (getD C' i)) n) (D.toI (D.fld (getD C' i) 3)) →
    ∃ r2, iter (Z21 C'.length r6 q3 s1 b1 x1 C' R' (C'.map cQ) (List.replicate C'.length 0)) (((i + 1 : Nat) : Int), setD r i (encA { freshA (getD C' i) with bt := y, l := pks q3 i } r' f')) = some ((0 : Int), s1, b1, x1, C', R', C'.length, (0 : Int), false, r2, C'.map cQ, List.replicate C'.length 0) ∧
     Rep r2 C'.length fun c => newA (getD C' c) (lastB g (cKey (getD C' c)) n) (pks q3 c) := fun y hy =>
   Zhf hC hq hl h6 m (i + 1) _ (by omega) (hR.set hin ⟨r', f', by rw [if_pos (by omega), hy]; rfl, by
    rw [if_pos (by omega)]
    show QR f' (pks q3 i).length r' (pks q3 i)
    rw [← hlen]; exact hqr'⟩ fun j _ hj => by
     by_cases c : j < i
     ·rw [if_pos c, if_pos (by omega)]
     rw [if_neg c, if_neg (by omega)])
  have hkey : D.toS (D.fld (D.fld (encA (freshA (getD C' i)) ring f) 0) 0) = cKey (getD C' i) := rfl
  have hf := h6 (cKey (getD C' i))
  unfold tuneB at step
  cases ho : lastB g (cKey (getD C' i)) n with
  | none =>
   rw [ho] at step hf
   obtain ⟨r2, k1, k2⟩ := step _ rfl
   refine ⟨r2, ?_, k2⟩
   rw [← k1]
   apply Ze
   unfold Z21
   dsimp only
   rw [if_pos (by rw [pilt]; simp only [ofN]; omega), if_pos (by simp only [ofN]; omega), ptoN, he', hkey]
   rw [if_neg (by unfold mhas; rw [hf]; simp), if_pos (by simp only [ofN, xlen]; omega)]
   refine Z8 hld ?_
   rw [pnext (by omega), hlen]
   rfl
  | some a =>
   rw [ho] at step hf
   obtain ⟨r2, k1, k2⟩ := step _ rfl
   refine ⟨r2, ?_, k2⟩
   rw [← k1]
   apply Ze
   unfold Z21
   dsimp only
   rw [if_pos (by rw [pilt]; simp only [ofN]; omega), if_pos (by simp only [ofN]; omega), ptoN, he', hkey]
   have hv : mval (D.l [(D.i (0 : Int)), (D.i (0 : Int)), (D.i (0 : Int))]) r6 (cKey (getD C' i)) = bD a := by unfold mval; rw [hf]; rfl
   rw [if_pos (by unfold mhas; rw [hf]; rfl), hv]
   have ht : Z2l (D.toI (D.fld (bD a) 0)) (D.toI (D.fld (bD a) 1)) (D.toI (D.fld (bD a) 2)) (D.toI (D.fld (D.fld (encA (freshA (getD C' i)) ring f) 0) 2)) (D.toI (D.fld (D.fld (encA (freshA (getD C' i)) ring f) 0) 3)) = some (min a.bt (D.toI (D.fld (getD C' i) 3))) := by
    unfold Z2l
    rw [pimin]; rfl
   refine Z8 ht ?_
   rw [if_pos (by simp only [ofN, xlen]; omega)]
   refine Z8 hld ?_
   rw [pnext (by omega), hlen]
   rfl
theorem Zo1 {C' R' C R q3 : List D} {n : Nat} {s1 s2 : List UInt8} {b1 b3 b4 : Bool} {x1 x2 x3 x4 : Int} {l1 l2 : List Int} {g : Nat → A} (hn : n ≤ 1000) (hC : C'.length ≤ 1000) (hR2 : R'.length ≤ 1000000) (hq : q3.length = C'.length) (hl : ∀ c, c < C'.length → (pks q3 c).length ≤ 100000) : ∀ (m i : Nat) (r6 r : List D), i + m = n →
  Rep r n g → (∀ k, mfind k r6 = (lastB g k i).map bD) →
  ∃ r', iter (Z3p n s1 b1 C' R' x1 s2 b3 x2 x3 C R x4 b4 l1 l2 q3) ((i : Int), r6, r) = some ((0 : Int), s1, b1, x1, C', R', C'.length, (0 : Int), false, r', C'.map cQ, List.replicate C'.length 0) ∧
   Rep r' C'.length fun c => newA (getD C' c) (lastB g (cKey (getD C' c)) n) (pks q3 c)
 | 0, i, r6, r, hi, hR, h6 => by
  have : i = n := by omega
  subst this
  obtain ⟨r0, k1, k2⟩ := Zro (r1 := C') (q1 := C') (q2 := R') hC
  obtain ⟨r', k3, k4⟩ := Zhf (R' := R') (s1 := s1) (b1 := b1) (x1 := x1) hC hq hl h6 C'.length 0 r0 (by omega) (k2.congr fun j _ => by rw [if_neg (by omega)])
  refine ⟨r', Zb ?_, k4⟩
  unfold Z3p
  dsimp only
  rw [if_neg (by rw [pilt]; simp only [ofN]; omega)]
  have hb : Z2w s1 b1 C' R' x1 s2 b3 x2 x3 C R i x4 b4 r l1 l2 = some (C', R', C'.length, r0, C'.map cQ, List.replicate C'.length 0) := by
   unfold Z2w
   refine Z8 (Zkj (by omega) hR2) ?_
   exact k1
  refine Z8 hb ?_
  have k3' : iter (Z21 C'.length r6 q3 s1 b1 x1 C' R' (C'.map cQ) (List.replicate C'.length 0)) ((0 : Int), r0) = _ := k3
  show Option.map _ (iter (Z21 C'.length r6 q3 s1 b1 x1 C' R' (C'.map cQ) (List.replicate C'.length 0)) ((0 : Int), r0)) = _
  rw [k3']
  rfl
 | m + 1, i, r6, r, hi, hR, h6 => by
  have hin : i < n := by omega
  obtain ⟨ring, f, he, hqr⟩ := hR.at_ i hin
  have he' : getD r i = encA (g i) ring f := he
  obtain ⟨r', k1, k2⟩ := Zo1 (C := C) (R := R) (s1 := s1) (s2 := s2) (b1 := b1) (b3 := b3) (b4 := b4) (x1 := x1) (x2 := x2) (x3 := x3) (x4 := x4) (l1 := l1) (l2 := l2) hn hC hR2 hq hl m (i + 1) (mput r6 (g i).key (bD (g i))) r (by omega) hR (fun k => by
   rw [Zma, h6 k]
   unfold lastB
   by_cases c : (g i).key = k
   ·rw [if_pos c, if_pos c]; rfl
   rw [if_neg c, if_neg c]; cases i <;> rfl)
  refine ⟨r', ?_, k2⟩
  rw [← k1]
  apply Ze
  unfold Z3p
  dsimp only
  rw [if_pos (by rw [pilt]; simp only [ofN]; omega), if_pos (by simp only [ofN]; omega), ptoN, he', pnext (by omega)]
  have hset : setD r i (encA (g i) ring f) = r := Z6l he'
  exact congrArg (fun z => some (Sum.inl (((i + 1 : Nat) : Int), mput r6 (g i).key (bD (g i)), z))) hset
def qsOf (g : Nat → A) : Nat → List Pk := fun i => (g i).l
theorem Zpn {s1 s2 : List UInt8} {b1 b2 b3 b4 : Bool} {C' R' C R r : List D} {df' df sq t : Int} {q d : List Int} {g : Nat → A} (hR : Rep r C.length g) (hC : C.length ≤ 1000) (hg : ∀ i, i < C.length → AOk (g i)) (hC' : C'.length ≤ 1000000) (hR' : R'.length ≤ 1000000) (ht : sumL (qsOf g) C.length ≤ 100000) :
  (rightB C' R' df' = false ∧ Zj s1 b1 C' R' df' b2 s2 b3 df sq C R C.length t b4 r q d = some (1, s2, b3, df, C, R, C.length, t, b4, r, q, d)) ∨
  (rightB C' R' df' = true ∧ sameP s1 b1 C' R' df' s2 b3 df C R = true ∧ Zj s1 b1 C' R' df' b2 s2 b3 df sq C R C.length t b4 r q d = some (0, s2, b3, df, C, R, C.length, t, b4, r, q, d)) ∨
  (rightB C' R' df' = true ∧ sameP s1 b1 C' R' df' s2 b3 df C R = false ∧ fitsB (clsA R' df') (qsOf g) C C' = false ∧ b2 = false ∧ Zj s1 b1 C' R' df' b2 s2 b3 df sq C R C.length t b4 r q d = some (35, s2, b3, df, C, R, C.length, t, b4, r, q, d)) ∨
  (rightB C' R' df' = true ∧ sameP s1 b1 C' R' df' s2 b3 df C R = false ∧ (fitsB (clsA R' df') (qsOf g) C C' = true ∨ b2 = true) ∧ ∃ r', Zj s1 b1 C' R' df' b2 s2 b3 df sq C R C.length t b4 r q d = some (0, s1, b1, df', C', R', C'.length, 0, false, r', C'.map cQ, List.replicate C'.length 0) ∧
   Rep r' C'.length fun c => newA (getD C' c) (lastB g (cKey (getD C' c)) C.length) (accQ (clsA R' df') (qsOf g) c C.length)) := by
 unfold Zj
 rw [Z5h hC' hR', Z7, Zot hC' hR', Z7]
 cases c1 : rightB C' R' df' with
 | false => exact .inl ⟨rfl, rfl⟩
 | true =>
  have hP := Z24 c1
  have hn8 := hP.n8
  dsimp only
  rw [if_pos rfl]
  refine .inr ?_
  cases c2 : sameP s1 b1 C' R' df' s2 b3 df C R with
  | true => exact .inl ⟨rfl, rfl, rfl⟩
  | false =>
   refine .inr ?_
   rw [if_neg (by simp), Zkl hR hC hg, Z7]
   dsimp only
   have hcls : ∀ x, 0 ≤ clsA R' df' x ∧ clsA R' df' x < (C'.length : Int) := fun x => Z7r hP.df hP.rules
   obtain ⟨out, k1, k2, k3⟩ := Zqz (s1 := s2) (s2 := s1) (b1 := b3) (b2 := b1) (x1 := df) (R := R) (C := C) (C' := C') (R' := R') (df' := df') (qs := qsOf g) (r5 := queuesS C.length g) (by omega) hC (by simp [queuesS]) (fun i hi => by
    rw [pgetD (by simpa [queuesS] using hi)]; simp [queuesS, D.toL, qsOf]) ht hR' hcls
   rw [k1, Z7]
   dsimp only
   have hlen : ∀ c, c < C'.length → (pks out c).length ≤ 100000 := fun c hc => by
    rw [k3 c hc]
    have := Z7s (cls := clsA R' df') (qs := qsOf g) (c := c) C.length
    omega
   obtain ⟨r', h1, h2⟩ := Zo1 (C := C) (R := R) (s1 := s1) (s2 := s2) (b1 := b1) (b3 := b3) (b4 := b4) (x1 := df') (x2 := df) (x3 := sq) (x4 := t) (l1 := q) (l2 := d) hC (by omega) hR' k2 hlen C.length 0 [] r (by omega) hR (fun k => rfl)
   have h2' : Rep r' C'.length fun c => newA (getD C' c) (lastB g (cKey (getD C' c)) C.length) (accQ (clsA R' df') (qsOf g) c C.length) := h2.congr fun j hj => by rw [k3 j hj]
   have hL : Zcp C.length s1 b1 C' R' df' s2 b3 df sq C R t b4 q d out = Z3p C.length s1 b1 C' R' df' s2 b3 df sq C R t b4 q d out := rfl
   rw [hL]
   have h1' : iter (Z3p C.length s1 b1 C' R' df' s2 b3 df sq C R t b4 q d out) ((0 : Int), ([] : List D), r) = _ := h1
   rw [h1']
   generalize fitsB (clsA R' df') (qsOf g) C C' = b
   cases b with
   | true => exact .inr ⟨rfl, rfl, .inl rfl, r', by rw [if_pos rfl], h2'⟩
   | false =>
    cases b2 with
    | true => exact .inr ⟨rfl, rfl, .inr rfl, r', by rw [if_neg (by simp), if_pos rfl], h2'⟩
    | false => exact .inl ⟨rfl, rfl, rfl, rfl, by rw [if_neg (by simp), if_neg (by simp)]⟩
theorem Zaj {s1 s2 : List UInt8} {b1 b2 b3 b4 : Bool} {C' R' C R r : List D} {df' df sq t : Int} {q d : List Int} {g : Nat → A} (hR : Rep r C.length g) (hC : C.length ≤ 1000) (hg : ∀ i, i < C.length → AOk (g i)) (hC' : C'.length ≤ 1000000) (hR' : R'.length ≤ 1000000) (ht : sumL (qsOf g) C.length ≤ 100000) :
  (∃ e, (e = 0 → sameP s1 b1 C' R' df' s2 b3 df C R = true) ∧ (rightB C' R' df' = false ↔ e = 1) ∧ Zj s1 b1 C' R' df' b2 s2 b3 df sq C R C.length t b4 r q d = some (e, s2, b3, df, C, R, C.length, t, b4, r, q, d) ∧ (b2 = true → rightB C' R' df' = true → e = 0)) ∨
  (rightB C' R' df' = true ∧ ∃ r', Zj s1 b1 C' R' df' b2 s2 b3 df sq C R C.length t b4 r q d = some (0, s1, b1, df', C', R', C'.length, 0, false, r', C'.map cQ, List.replicate C'.length 0) ∧
   Rep r' C'.length fun c => newA (getD C' c) (lastB g (cKey (getD C' c)) C.length) (accQ (clsA R' df') (qsOf g) c C.length)) := by
 rcases Zpn (s1 := s1) (s2 := s2) (b1 := b1) (b2 := b2) (b3 := b3) (b4 := b4) (df' := df') (df := df) (sq := sq) (t := t) (q := q) (d := d) (R := R) hR hC hg hC' hR' ht with ⟨h1, h2⟩ | ⟨h1, h2, h3⟩ | ⟨h1, h2, h3, h4, h5⟩ | ⟨h1, h2, h3, h4⟩
 ·exact .inl ⟨1, fun h => by omega, by simp [h1], h2, fun _ h => by rw [h1] at h; cases h⟩
 ·exact .inl ⟨0, fun _ => h2, by simp [h1], h3, fun _ _ => rfl⟩
 ·exact .inl ⟨35, fun h => by omega, by simp [h1], h5, fun h => by rw [h4] at h; cases h⟩
 exact .inr ⟨h1, h4⟩
theorem Zl9 {r2 : List D} {x1 : Int} (h : r2.length ≤ 1000000) : ∀ (m i : Nat) (last : Int), i + m = r2.length → ∃ b, iter (Z2s r2 x1) (last, (i : Int)) = some b
 | 0, i, last, hi => ⟨true, Zb (by
   unfold Z2s
   dsimp only
   rw [if_neg (by rw [pilt]; simp only [ofN, xlen]; omega)])⟩
 | m + 1, i, last, hi => by
  have hB : Z2s r2 x1 (last, (i : Int)) = some (.inr false) ∨ ∃ y, Z2s r2 x1 (last, (i : Int)) = some (.inl (y, ((i + 1 : Nat) : Int))) := by
   unfold Z2s
   dsimp only
   rw [if_pos (by rw [pilt]; simp only [ofN, xlen]; omega), if_pos (by simp only [ofN, xlen]; omega), pnext (by omega)]
   repeat' split
   all_goals first | exact .inl rfl | exact .inr ⟨_, rfl⟩
  rcases hB with h1 | ⟨y, h1⟩
  ·exact ⟨false, Zb h1⟩
  obtain ⟨b, h2⟩ := Zl9 h m (i + 1) y (by omega)
  exact ⟨b, by rw [← h2]; exact Ze h1⟩
theorem Zln {r1 r2 : List D} {x1 x2 : Int} {l1 l2 : List Int} {b1 : Bool} (h : r1.length ≤ 1000000) (hq : ∀ i, i < r1.length → (D.toL (getD r1 i)).length ≤ 1000000) : ∀ (m i : Nat), i + m = r1.length → ∃ y, iter (Z2y r1 x1 l1 x2 b1 l2 r2) (i : Int) = some y
 | 0, i, hi => ⟨-1, Zb (by
   unfold Z2y
   dsimp only
   rw [if_neg (by rw [pilt]; simp only [ofN, xlen]; omega)])⟩
 | m + 1, i, hi => by
  obtain ⟨b, hb⟩ := Zl9 (x1 := x1) (hq i (by omega)) (D.toL (getD r1 i)).length 0 0 (by omega)
  have hin : Z3v (D.toL (getD r1 i)) x1 l1 x2 b1 l2 r2 = some (bnot b) := by
   unfold Z3v Z5j
   have hb' : iter (Z2s (D.toL (getD r1 i)) x1) ((0 : Int), (0 : Int)) = some b := hb
   exact Z8 hb' rfl
  have hB : Z2y r1 x1 l1 x2 b1 l2 r2 (i : Int) = some (.inr (i : Int)) ∨ Z2y r1 x1 l1 x2 b1 l2 r2 (i : Int) = some (.inl ((i + 1 : Nat) : Int)) := by
   unfold Z2y
   dsimp only
   rw [if_pos (by rw [pilt]; simp only [ofN, xlen]; omega), if_pos (by simp only [ofN, xlen]; omega), pnext (by omega), ptoN, hin, Z7]
   split
   ·exact .inl rfl
   exact .inr rfl
  rcases hB with h1 | h1
  ·exact ⟨_, Zb h1⟩
  obtain ⟨y, h2⟩ := Zln (x1 := x1) (x2 := x2) (l1 := l1) (l2 := l2) (b1 := b1) (r2 := r2) h hq m (i + 1) (by omega)
  exact ⟨y, by rw [← h2]; exact Ze h1⟩
theorem Zuh {r1 : List D} {x1 x2 : Int} {l1 l2 : List Int} {b1 : Bool} (h : r1.length ≤ 1000000) (hq : ∀ i, i < r1.length → (D.toL (getD r1 i)).length ≤ 1000000) : ∃ b, Z38 x1 l1 x2 b1 l2 r1 = some b ∧ (b = true → r1.length = l1.length) := by
 obtain ⟨y, hy⟩ := Zln (r2 := r1) (x1 := x1) (x2 := x2) (l1 := l1) (l2 := l2) (b1 := b1) h hq r1.length 0 (by omega)
 have hc : Z3u r1 x1 l1 x2 b1 l2 r1 = some (ile 0 y) := by
  unfold Z3u Z52
  have hy' : iter (Z2y r1 x1 l1 x2 b1 l2 r1) (0 : Int) = some y := hy
  exact Z8 hy' rfl
 unfold Z38
 rw [hc, Z7]
 by_cases c1 : ilt (8 : Int) (ofN (xlen l1)) = true
 ·rw [if_pos c1]; exact ⟨_, rfl, fun e => by cases e⟩
 rw [if_neg c1]
 by_cases c2 : ieq (ofN (xlen r1)) (ofN (xlen l1)) = true
 ·rw [if_pos c2]
  rw [pieq] at c2
  have c3 : r1.length = l1.length := by simp only [ofN, xlen] at c2; omega
  repeat' split
  all_goals exact ⟨_, rfl, fun _ => c3⟩
 rw [if_neg c2]; exact ⟨_, rfl, fun e => by cases e⟩
theorem Z68 {n : Nat} {g : Nat → A} : (tokensS n g).length = n := by simp [tokensS]
theorem Zx {n : Nat} {g : Nat → A} : (queuesS n g).length = n := by simp [queuesS]
theorem Z6a {n i : Nat} {g : Nat → A} (h : i < n) : D.toL (getD (queuesS n g) i) = (g i).l.map mkP := by
 rw [pgetD (by rw [Zx]; exact h)]; simp [queuesS, D.toL]
theorem Zv3 {n i : Nat} {g : Nat → A} (h : i < n) : getI (tokensS n g) i = (g i).bt := by
 rw [pgetI (by rw [Z68]; exact h)]; simp [tokensS]
theorem Zzz (l : List Pk) : (l.map mkP).map pk = l := by
 rw [List.map_map]
 have : pk ∘ mkP = id := by funext p; rfl
 rw [this, List.map_id]
theorem Zt9 {s : List UInt8} {b2 b1 : Bool} {df sq t : Int} {C R r : List D} {n : Nat} {q d : List Int} {g : Nat → A} (hR : Rep r n g) (hn : n ≤ 1000) (hd : d.length ≤ 1000) (hg : ∀ i, i < n → AOk (g i)) :
  ∃ e r', Z4a sq (tokensS n g) t b1 d (queuesS n g) s b2 df sq C R n t b1 r q d = some (e, sq, t, b1, r', d) ∧ Rep r' n g := by
 unfold Z4a
 obtain ⟨b, h1, h2⟩ := Zuh (r1 := queuesS n g) (x1 := sq) (x2 := t) (l1 := tokensS n g) (l2 := d) (b1 := b1) (by rw [Zx]; omega) (fun i hi => by
  rw [Zx] at hi
  rw [Z6a hi, List.length_map]; have := (hg i hi).n; omega)
 rw [h1, Z7]
 cases b with
 | false => exact ⟨1, r, rfl, hR⟩
 | true =>
  dsimp only
  rw [if_pos rfl, if_pos (by rw [pieq]; simp only [ofN, xlen, Z68])]
  have hring : ∃ b, Z4e t b1 d t b1 q d = some (b, t, b1, d) := by
   unfold Z4e
   have hc : Z47 t b1 d = some d := by
    have : Z47 t b1 d = Z2k t b1 d := rfl
    rw [this]; exact Zkg hd
   rw [hc, Z7]
   repeat' split
   all_goals exact ⟨_, rfl⟩
  obtain ⟨b, hb⟩ := hring
  rw [hb, Z7]
  dsimp only
  have key : ∀ (m i : Nat) (r4 : List D), i + m = n → Rep r4 n g → ∃ r', iter (Z5z n (tokensS n g) (queuesS n g) sq t b1 d) ((i : Int), r4) = some ((0 : Int), sq, t, b1, r', d) ∧ Rep r' n g := by
   intro m
   induction m with
   | zero =>
    intro i r4 hi h4
    refine ⟨r4, Zb ?_, h4⟩
    unfold Z5z
    dsimp only
    rw [if_neg (by rw [pilt]; simp only [ofN]; omega)]
   | succ m ih =>
    intro i r4 hi h4
    have hin : i < n := by omega
    obtain ⟨ring, f, he, hqr⟩ := h4.at_ i hin
    have he' : getD r4 i = encA (g i) ring f := he
    have hA := hg i hin
    have hAn := hA.n
    obtain ⟨f', r', hld, hqr'⟩ := Zn4 (x := (g i).ql) (y := (f : Int)) (z := ((g i).l.length : Int)) (s := (g i).l.map mkP) (r := ring) (by rw [List.length_map]; omega) hqr.big
    rw [Zzz, List.length_map] at hqr'
    rw [List.length_map] at hld
    obtain ⟨r2, k1, k2⟩ := ih (i + 1) (setD r4 i (encA (g i) r' f')) (by omega) (h4.set hin ⟨r', f', rfl, hqr'⟩ fun j _ _ => rfl)
    refine ⟨r2, ?_, k2⟩
    rw [← k1]
    apply Ze
    unfold Z5z
    dsimp only
    rw [if_pos (by rw [pilt]; simp only [ofN]; omega), if_pos (by simp only [ofN]; omega), if_pos (by simp only [ofN, xlen, Z68]; omega), if_pos (by simp only [ofN, xlen, Zx]; omega), ptoN, he', Z6a hin, Zv3 hin]
    refine Z8 hld ?_
    rw [pnext (by omega)]
    rfl
  obtain ⟨r', k⟩ := key n 0 r (by omega) hR
  exact ⟨0, r', k⟩
theorem Zly {q q' : Nat → List Pk} : ∀ {n : Nat}, (∀ i, i < n → (q i).length = (q' i).length) → sumL q n = sumL q' n
 | 0, _ => rfl
 | n + 1, h => by
  simp only [sumL]
  rw [Zly (fun i hi => h i (by omega)), h n (by omega)]
theorem Z84 {q q' : Nat → List Pk} {c : Nat} : ∀ {n : Nat}, c < n → (∀ i, i < n → i ≠ c → (q' i).length = (q i).length) → sumL q' n + (q c).length = sumL q n + (q' c).length
 | 0, h, _ => by omega
 | n + 1, h, hq => by
  simp only [sumL]
  by_cases e : c = n
  ·subst e
   have := Zly (q := q') (q' := q) (n := c) fun i hi => hq i (by omega) (by omega)
   omega
  have := Z84 (n := n) (c := c) (by omega) fun i hi hne => hq i (by omega) hne
  have := hq n (by omega) (by omega)
  omega
theorem Zlk {q q1 q2 : Nat → List Pk} : ∀ {n : Nat}, (∀ i, i < n → (q i).length = (q1 i).length + (q2 i).length) → sumL q n = sumL q1 n + sumL q2 n
 | 0, _ => rfl
 | n + 1, h => by
  simp only [sumL]
  rw [Zlk (fun i hi => h i (by omega)), h n (by omega)]
  omega
theorem Zd5 {n : Nat} : sumL (fun _ => []) n = 0 := by
 induction n with
 | zero => rfl
 | succ n ih => simp only [sumL, ih]; rfl
theorem Zlo {cls : Int → Int} {n : Nat} (hc : ∀ x, 0 ≤ cls x ∧ cls x < (n : Int)) : ∀ l : List Pk, sumL (fun c => selQ cls c l) n = l.length
 | [] => by
  have : (fun c => selQ cls c []) = fun _ => [] := by funext c; rfl
  rw [this, Zd5]; rfl
 | p :: l => by
  have ih := Zlo hc l
  have hp := hc p.2.1
  have e := Z84 (q := fun c => selQ cls c l) (q' := fun c => selQ cls c (p :: l)) (c := (cls p.2.1).toNat) (n := n) (by omega) (fun i hi hne => by
   simp only [selQ]
   rw [List.filter_cons_of_neg (by simp; omega)])
  have h1 : selQ cls (cls p.2.1).toNat (p :: l) = p :: selQ cls (cls p.2.1).toNat l := by
   simp only [selQ]
   rw [List.filter_cons_of_pos (by simp; omega)]
  rw [h1] at e
  simp only [List.length_cons] at e ⊢
  omega
theorem Z9f {cls : Int → Int} {qs : Nat → List Pk} {n : Nat} (hc : ∀ x, 0 ≤ cls x ∧ cls x < (n : Int)) : ∀ i, sumL (fun c => accQ cls qs c i) n = sumL qs i
 | 0 => by
  have : (fun c => accQ cls qs c 0) = fun _ => [] := by funext c; rfl
  rw [this, Zd5]; rfl
 | i + 1 => by
  rw [Zlk (q1 := fun c => accQ cls qs c i) (q2 := fun c => selQ cls c (qs i)) (fun c _ => by simp only [accQ]; exact Z7n _ _ _ (Nat.le_refl _)), Z9f hc i, Zlo hc]
  rfl
theorem Zf9 {x : Pk} : ∀ (n : Nat) (a b : List Pk), a.length + b.length ≤ n → (x ∈ mrg a b ↔ x ∈ a ∨ x ∈ b)
 | n, [], b, h => by simp [mrg]
 | n, p :: a, [], h => by simp [mrg]
 | 0, p :: a, q :: b, h => by simp at h
 | n + 1, p :: a, q :: b, h => by
  simp only [List.length_cons] at h
  rw [mrg]
  split
  ·rw [List.mem_cons, Zf9 n (p :: a) b (by simp only [List.length_cons]; omega), List.mem_cons, List.mem_cons]
   constructor
   ·rintro (h1 | h1 | h1)
    ·exact .inr (.inl h1)
    ·exact .inl h1
    exact .inr (.inr h1)
   rintro (h1 | h1 | h1)
   ·exact .inr (.inl h1)
   ·exact .inl h1
   exact .inr (.inr h1)
  rw [List.mem_cons, Zf9 n a (q :: b) (by simp only [List.length_cons]; omega), List.mem_cons, List.mem_cons]
  constructor
  ·rintro (h1 | h1 | h1)
   ·exact .inl (.inl h1)
   ·exact .inl (.inr h1)
   exact .inr h1
  rintro ((h1 | h1) | h1)
  ·exact .inl h1
  ·exact .inr (.inl h1)
  exact .inr (.inr h1)
theorem Z7f {cls : Int → Int} {qs : Nat → List Pk} {c : Nat} {x : Pk} : ∀ n, x ∈ accQ cls qs c n ↔ ∃ i, i < n ∧ x ∈ qs i ∧ cls x.2.1 = (c : Int)
 | 0 => by simp [accQ]
 | n + 1 => by
  simp only [accQ]
  rw [Zf9 _ _ _ (Nat.le_refl _), Z7f n]
  simp only [selQ, List.mem_filter, beq_iff_eq]
  constructor
  ·rintro (⟨i, h1, h2⟩ | h)
   ·exact ⟨i, by omega, h2⟩
   exact ⟨n, by omega, h⟩
  rintro ⟨i, h1, h2⟩
  by_cases e : i = n
  ·subst e; exact .inr h2
  exact .inl ⟨i, by omega, h2⟩
structure W where
 key : List UInt8
 up : Bool
 df : Int
 sq : Int
 C : List D
 R : List D
 t : Int
 ad : Bool
 d : List Int
 g : Nat → A
def W.cls (w : W) : Int → Int := clsA w.R w.df
def clsU (C : List D) : Prop := ∀ c ∈ C, U (cQ c) ∧ U (D.toI (D.fld c 2)) ∧ U (D.toI (D.fld c 3))
structure SW (w : W) (r : List D) (m : Nat) : Prop where
 right : RightP w.C w.R w.df
 rl : w.R.length ≤ 1000000
 ud : clsU w.C
 rep : Rep r w.C.length w.g
 ok : ∀ j, j < w.C.length → AOk (w.g j)
 of : ∀ j, j < w.C.length → ∃ bt l, w.g j = { freshA (getD w.C j) with bt := bt, l := l }
 ring : RingOk (w.C.map cQ) w.t w.d
 sq : 0 ≤ w.sq ∧ w.sq ≤ (m : Int)
 tot : sumL (qsOf w.g) w.C.length ≤ m
theorem SW.cls {w : W} {r : List D} {m : Nat} (h : SW w r m) (x : Int) : 0 ≤ w.cls x ∧ w.cls x < (w.C.length : Int) := Z7r h.right.df h.right.rules
def z3 : Pk := (0, 0, 0)
inductive Ev (w w' : W) (a b : Pk) : Prop
 | same (ha : a = z3) (hb : b = z3) (hs : w'.sq = w.sq) (hn : w'.C.length = w.C.length) (hc : w'.cls = w.cls) (hq : ∀ j, j < w.C.length → (w'.g j).l = (w.g j).l)
 | came (flow size : Int) (c : Nat) (hp : badP flow size = false) (hcl : w.cls flow = (c : Int)) (hl : ((w.g c).l.length : Int) < (w.g c).ql) (ha : a = (w.sq + 1, flow, size)) (hb : b = z3) (hs : w'.sq = w.sq + 1) (hn : w'.C.length = w.C.length) (hc : w'.cls = w.cls) (hq : ∀ j, j < w.C.length → (w'.g j).l = if j = c then (w.g c).l ++ [a] else (w.g j).l)
 | went (c : Nat) (l : List Pk) (hcn : c < w.C.length) (hl : (w.g c).l = b :: l) (ha : a = z3) (hs : w'.sq = w.sq) (hn : w'.C.length = w.C.length) (hc : w'.cls = w.cls) (hq : ∀ j, j < w.C.length → (w'.g j).l = if j = c then l else (w.g j).l)
 | moved (ha : a = z3) (hb : b = z3) (hs : w'.sq = w.sq) (hq : ∀ c, c < w'.C.length → (w'.g c).l = accQ w'.cls (qsOf w.g) c w.C.length)
theorem SW.more {w : W} {r r' : List D} {m : Nat} (h : SW w r m) (hr : Rep r' w.C.length w.g) : SW w r' (m + 1) :=
 { h with rep := hr, sq := by have := h.sq; omega, tot := by have := h.tot; omega }
theorem SW.arr {w : W} {r r' : List D} {m : Nat} (h : SW w r m) (hm : m ≤ 1000) {flow size : Int} (hR : Rep r' w.C.length (arrS w.g w.sq (w.cls flow).toNat flow size).2.2.2) :
  ∃ w' : W, w' = { w with sq := (arrS w.g w.sq (w.cls flow).toNat flow size).2.2.1, g := (arrS w.g w.sq (w.cls flow).toNat flow size).2.2.2 } ∧ SW w' r' (m + 1) ∧ Ev w w' (arrS w.g w.sq (w.cls flow).toNat flow size).1 z3 := by
 refine ⟨_, rfl, ?_⟩
 have hcl := h.cls flow
 have hce : w.cls flow = ((w.cls flow).toNat : Int) := by omega
 have hcn : (w.cls flow).toNat < w.C.length := by omega
 generalize (w.cls flow).toNat = c at *
 revert hR
 unfold arrS
 by_cases c1 : badP flow size = true
 ·rw [if_pos c1]; exact fun hR => ⟨h.more hR, .same rfl rfl rfl rfl rfl fun _ _ => rfl⟩
 rw [if_neg c1]
 by_cases c2 : (w.g c).ql ≤ ((w.g c).l.length : Int)
 ·rw [if_pos c2]; exact fun hR => ⟨h.more hR, .same rfl rfl rfl rfl rfl fun _ _ => rfl⟩
 rw [if_neg c2]
 intro hR
 have hsz : 1 ≤ size ∧ size ≤ 1500 := by
  simp only [badP, Bool.or_eq_true, decide_eq_true_eq] at c1; omega
 have hA := h.ok c hcn
 have htot := h.tot
 have hl1 : (w.g c).l.length ≤ 1000 := by
  have := Z6j (qs := qsOf w.g) (i := c + 1) (j := w.C.length) (by omega)
  have e : (qsOf w.g c).length = (w.g c).l.length := rfl
  simp only [sumL] at this; omega
 have hp : AOk (putA (w.g c) (w.sq + 1, flow, size)) := ⟨hA.q, hA.br, hA.bb, hA.bt, by simp [putA]; omega, fun p hp => by
  rcases List.mem_append.1 hp with hp | hp
  ·exact hA.sz p hp
  simp at hp; subst hp; exact hsz⟩
 have hS := h.sq
 refine ⟨⟨h.right, h.rl, h.ud, hR, fun j hj => ?_, fun j hj => ?_, h.ring, by dsimp only; omega, ?_⟩, .came flow size c (by simpa using c1) hce (by omega) rfl rfl rfl rfl rfl fun j hj => ?_⟩
 ·by_cases e : j = c
  ·subst e; simpa [updA] using hp
  simpa [updA, e] using h.ok j hj
 ·obtain ⟨bt, l, e1⟩ := h.of j hj
  by_cases e : j = c
  ·subst e
   refine ⟨bt, l ++ [(w.sq + 1, flow, size)], ?_⟩
   dsimp only at hj ⊢
   simp only [updA, if_true, putA, e1]
  exact ⟨bt, l, by simpa [updA, e] using e1⟩
 ·have := Z84 (q := qsOf w.g) (q' := qsOf (updA w.g c (putA (w.g c) (w.sq + 1, flow, size)))) (c := c) (n := w.C.length) hcn (fun i hi hne => by simp [qsOf, updA, hne])
  have e : (qsOf (updA w.g c (putA (w.g c) (w.sq + 1, flow, size))) c).length = (qsOf w.g c).length + 1 := by simp [qsOf, updA, putA]
  dsimp only
  omega
 by_cases e : j = c
 ·subst e; simp [updA, putA]
 simp [updA, e]
theorem SW.tick {w : W} {r r' : List D} {m : Nat} {x : Int} (h : SW w r m) (hx : U x) (hR : Rep r' w.C.length fun i => tickA x (w.g i)) : SW { w with g := fun i => tickA x (w.g i) } r' (m + 1) ∧ Ev w { w with g := fun i => tickA x (w.g i) } z3 z3 :=
 ⟨⟨h.right, h.rl, h.ud, hR, fun j hj => Z10b hx (h.ok j hj), fun j hj => by obtain ⟨bt, l, e⟩ := h.of j hj; exact ⟨_, l, by dsimp only; rw [e]; rfl⟩, h.ring, by have := h.sq; dsimp only; omega, by have := h.tot; show sumL (qsOf w.g) w.C.length ≤ _; omega⟩, .same rfl rfl rfl rfl rfl fun _ _ => rfl⟩
theorem SW.go {w : W} {r r' : List D} {m : Nat} (h : SW w r m) (hR : Rep r' w.C.length (nextS w.up w.C.length w.g (w.C.map cQ) w.t w.ad w.d).2.2) :
  ∃ w' : W, w' = { w with t := (nextS w.up w.C.length w.g (w.C.map cQ) w.t w.ad w.d).2.1.1, ad := (nextS w.up w.C.length w.g (w.C.map cQ) w.t w.ad w.d).2.1.2.1, d := (nextS w.up w.C.length w.g (w.C.map cQ) w.t w.ad w.d).2.1.2.2, g := (nextS w.up w.C.length w.g (w.C.map cQ) w.t w.ad w.d).2.2 } ∧
   SW w' r' (m + 1) ∧ Ev w w' z3 (nextS w.up w.C.length w.g (w.C.map cQ) w.t w.ad w.d).1.1 := by
 refine ⟨_, rfl, ?_⟩
 obtain ⟨hok, hgo⟩ := Zit (up := w.up) (ad := w.ad) h.ok (by simp) h.ring
 revert hR
 unfold nextS
 generalize nextF (w.C.map cQ) (viewsS w.up w.C.length w.g) w.t w.ad w.d = v at *
 obtain ⟨v1, v2, v3, v4⟩ := v
 dsimp only at hok hgo ⊢
 have hsq := h.sq
 have htot := h.tot
 rcases hgo with rfl | ⟨c, p, l, rfl, hc, hl, hup, hsh⟩
 ·rw [if_pos (by omega)]
  intro hR
  exact ⟨⟨h.right, h.rl, h.ud, hR, h.ok, h.of, hok, by dsimp only; omega, by dsimp only; omega⟩, .same rfl rfl rfl rfl rfl fun _ _ => rfl⟩
 rw [if_neg (by omega)]
 simp only [Int.toNat_natCast]
 have hgS : goS w.g c = (p, updA w.g c (popA (w.g c) p l)) := by unfold goS; rw [hl]
 rw [hgS]
 intro hR
 have hA := h.ok c hc
 have hb := hA.bt.lo
 have hb1 := hA.bt.hi
 have hp2 := hA.sz p (by rw [hl]; simp)
 have hn5 := hA.n
 have hp : AOk (popA (w.g c) p l) := ⟨hA.q, hA.br, hA.bb, by
  have := hA.bt
  unfold popA
  dsimp only
  split
  ·split
   ·exact this
   unfold U; omega
  exact this, by rw [hl] at hn5; simp at hn5; simp [popA]; omega, fun y hy => hA.sz y (by rw [hl]; exact List.mem_cons_of_mem _ hy)⟩
 refine ⟨⟨h.right, h.rl, h.ud, hR, fun j hj => ?_, fun j hj => ?_, hok, by dsimp only; omega, ?_⟩, .went c l hc hl rfl rfl rfl rfl fun j hj => ?_⟩
 ·by_cases e : j = c
  ·subst e; simpa [updA] using hp
  simpa [updA, e] using h.ok j hj
 ·obtain ⟨bt, l2, e1⟩ := h.of j hj
  by_cases e : j = c
  ·subst e
   refine ⟨(popA (w.g j) p l).bt, l, ?_⟩
   dsimp only at hj ⊢
   simp only [updA, if_true]
   have : popA (w.g j) p l = { w.g j with bt := (popA (w.g j) p l).bt, l := l } := rfl
   rw [this, e1]
  exact ⟨bt, l2, by simpa [updA, e] using e1⟩
 ·have := Z84 (q := qsOf w.g) (q' := qsOf (updA w.g c (popA (w.g c) p l))) (c := c) (n := w.C.length) hc (fun i hi hne => by simp [qsOf, updA, hne])
  have e : (qsOf (updA w.g c (popA (w.g c) p l)) c).length + 1 = (qsOf w.g c).length := by simp [qsOf, updA, popA, hl]
  dsimp only
  omega
 by_cases e : j = c
 ·subst e; simp [updA, popA]
 simp [updA, e]
theorem SW.apply {w : W} {r r' : List D} {m : Nat} {s1 : List UInt8} {b1 : Bool} {C' R' : List D} {df' : Int} (h : SW w r m) (hm : m ≤ 1000) (hr : R'.length ≤ 1000000) (hu : clsU C') (hP : RightP C' R' df')
  (hR : Rep r' C'.length fun c => newA (getD C' c) (lastB w.g (cKey (getD C' c)) w.C.length) (accQ (clsA R' df') (qsOf w.g) c w.C.length)) :
  SW ⟨s1, b1, df', w.sq, C', R', 0, false, List.replicate C'.length 0, fun c => newA (getD C' c) (lastB w.g (cKey (getD C' c)) w.C.length) (accQ (clsA R' df') (qsOf w.g) c w.C.length)⟩ r' (m + 1) ∧
  Ev w ⟨s1, b1, df', w.sq, C', R', 0, false, List.replicate C'.length 0, fun c => newA (getD C' c) (lastB w.g (cKey (getD C' c)) w.C.length) (accQ (clsA R' df') (qsOf w.g) c w.C.length)⟩ z3 z3 := by
 have h1 := hP.n1; have h8 := hP.n8
 have hcls : ∀ x, 0 ≤ clsA R' df' x ∧ clsA R' df' x < (C'.length : Int) := fun x => Z7r hP.df hP.rules
 have htot := h.tot
 refine ⟨⟨hP, hr, hu, hR, fun j hj => ?_, fun j hj => ⟨_, _, rfl⟩, ⟨by dsimp only; omega, by dsimp only; simp; omega, by dsimp only; simp; omega, by dsimp only; simp, fun x hx => ?_, fun x hx => ?_⟩, by have := h.sq; dsimp only; omega, ?_⟩, .moved rfl rfl rfl fun c hc => rfl⟩
 ·have hd : getD C' j ∈ C' := by rw [pgetD hj]; exact List.getElem_mem hj
  refine Zpo h.ok (hu _ hd) ?_ fun p hp => ?_
  ·have := Z7s (cls := clsA R' df') (qs := qsOf w.g) (c := j) w.C.length
   omega
  obtain ⟨i, hi, hp1, _⟩ := (Z7f _).1 hp
  exact (h.ok i hi).sz p hp1
 ·obtain ⟨d, hd, rfl⟩ := List.mem_map.1 hx
  exact (hu d hd).1
 ·have := List.eq_of_mem_replicate hx
  subst this; unfold U; omega
 have : sumL (qsOf fun c => newA (getD C' c) (lastB w.g (cKey (getD C' c)) w.C.length) (accQ (clsA R' df') (qsOf w.g) c w.C.length)) C'.length = sumL (qsOf w.g) w.C.length := Z9f hcls _
 dsimp only
 rw [this]; omega
theorem Z7e {x : Int} (h : (Lit.int .u64 x).wf = true) : U x := by
 have : 0 ≤ x ∧ x ≤ 18446744073709551615 := by simpa [Lit.wf, IntKind.min, IntKind.max, IntKind.signed, IntKind.bits, Int.lt_add_one_iff, Int.le_sub_one_iff] using h
 unfold U; omega
theorem Zll {x : Int} (h : (Lit.int .u8 x).wf = true) : 0 ≤ x ∧ x < 256 := by
 have : 0 ≤ x ∧ x ≤ 255 := by simpa [Lit.wf, IntKind.min, IntKind.max, IntKind.signed, IntKind.bits, Int.lt_add_one_iff, Int.le_sub_one_iff] using h
 omega
def pCls (d : D) : List D := D.toL (D.fld d 2)
def pRules (d : D) : List D := D.toL (D.fld (D.fld d 3) 0)
def pDf (d : D) : Int := D.toI (D.fld (D.fld d 3) 1)
def fewP (r1 : List D) (i : Nat) : Bool := !decide (20 < (pCls (getD r1 i)).length) && !decide (40 < (pRules (getD r1 i)).length)
def fewB (r1 r2 : List D) : Bool := allN r1.length (fewP r1) && (decide (0 < r1.length) && (decide (r1.length ≤ 10) && decide (r2.length ≤ 300)))
theorem Z10e {r1 r2 : List D} (h : r1.length ≤ maxLen) : Z4h r1 r2 = some (fewB r1 r2) := by
 unfold Z4h fewB
 unfold maxLen at h
 refine Z15 (P := fewP r1) (fun i hi => ?_) ?_
 ·unfold Z7q fewP pCls pRules
  dsimp only
  rw [if_pos (by rw [pilt]; simp only [ofN, xlen]; omega), if_pos (by simp only [ofN, xlen]; omega), ptoN]
  simp only [pilt, ofN, xlen]
  by_cases c1 : 20 < (D.toL (D.fld (getD r1 i) 2)).length
  ·rw [if_pos (by omega)]; simp [c1]
  rw [if_neg (by omega), if_pos (by omega)]
  by_cases c2 : 40 < (D.toL (D.fld (D.fld (getD r1 i) 3) 0)).length
  ·rw [if_pos (by omega)]; simp [c2]
  rw [if_neg (by omega), pnext (by omega)]
  simp [c1, c2]
 unfold Z7q
 dsimp only
 rw [if_neg (by rw [pilt]; simp only [ofN, xlen]; omega)]
 simp only [pilt, pile, ofN, xlen]
 by_cases c1 : 0 < r1.length
 ·rw [if_pos (by omega)]
  by_cases c2 : r1.length ≤ 10
  ·rw [if_pos (by omega)]
   simp only [c1, c2, decide_true, Bool.true_and, ile]
   congr 2
   rw [decide_eq_decide]; omega
  rw [if_neg (by omega)]; simp [c2]
 rw [if_neg (by omega)]; simp [c1]
theorem Ztp {r1 r2 : List D} (h : fewB r1 r2 = true) : 1 ≤ r1.length ∧ r1.length ≤ 10 ∧ r2.length ≤ 300 ∧ ∀ i, i < r1.length → (pCls (getD r1 i)).length ≤ 20 ∧ (pRules (getD r1 i)).length ≤ 40 := by
 unfold fewB fewP at h
 simp only [Bool.and_eq_true, Bool.not_eq_true', decide_eq_false_iff_not, Z1c, decide_eq_true_eq] at h
 obtain ⟨h1, h2, h3, h4⟩ := h
 exact ⟨by omega, h3, h4, fun i hi => by have := h1 i hi; omega⟩
def portT : Ty := .st [.str, .bool, .row 83 (.st [.str, .int .u64, .int .u64, .int .u64, .int .i64, .bool]), .st [.row 96 (.st [.int .i64, .int .i64, .int .i64]), .int .i64]]
theorem Zsq {d : D} (h : portT.rng d) : ∀ c ∈ pCls d, U (cQ c) ∧ U (D.toI (D.fld c 2)) ∧ U (D.toI (D.fld c 3)) := fun c hc => by
 simp only [portT, Ty.rng, Ty.rngL] at h
 have h1 := h.2.2.1.2 c hc
 exact ⟨Z7e h1.2.1, Z7e h1.2.2.1, Z7e h1.2.2.2.1⟩
structure PortsOk (r1 : List D) : Prop where
 n : 1 ≤ r1.length ∧ r1.length ≤ 10
 cls : ∀ i, i < r1.length → (pCls (getD r1 i)).length ≤ 20
 rules : ∀ i, i < r1.length → (pRules (getD r1 i)).length ≤ 40
 ud : ∀ i, i < r1.length → clsU (pCls (getD r1 i))
theorem Zhy {r1 : List D} {x : Int} (h : 1 ≤ r1.length) (hx : 0 ≤ x ∧ x < 256) : ∃ k : Nat, k < r1.length ∧ irem (iconv .i64 x) (ofN (xlen r1)) = (k : Int) := by
 refine ⟨x.toNat % r1.length, Nat.mod_lt _ (by omega), ?_⟩
 simp only [irem, iconv, ofN, xlen]
 rw [pwi64 (by omega) (by omega), Int.tmod_eq_emod_of_nonneg hx.1]
 rw [Int.natCast_emod, Int.toNat_of_nonneg hx.1]
theorem Zwj {r1 : List D} {x1 x2 x3 x4 x5 : Int} {w : W} {r : List D} {m : Nat} (hp : PortsOk r1) (S : SW w r m) (hm : m ≤ 1000) (h4 : U x4) (h5 : 0 ≤ x5 ∧ x5 < 256) :
  ∃ (a b : Pk) (w' : W) (r' : List D), Z48 r1 x1 x2 x3 x4 x5 w.key w.up w.df w.sq w.C w.R w.C.length w.t w.ad r (w.C.map cQ) w.d =
   some (a.1, a.2.1, a.2.2, b.1, b.2.1, b.2.2, w'.key, w'.up, w'.df, w'.sq, w'.C, w'.R, w'.C.length, w'.t, w'.ad, r', w'.C.map cQ, w'.d) ∧ SW w' r' (m + 1) ∧ Ev w w' a b ∧ (x1 ≠ 3 → x1 ≠ 4 → w'.C = w.C ∧ w'.R = w.R ∧ w'.df = w.df ∧ w'.key = w.key ∧ w'.up = w.up) := by
 have h8 := S.right.n8
 have hsq := S.sq
 unfold Z48
 by_cases c0 : x1 = 0
 ·rw [if_pos (by rw [pieq]; exact c0)]
  obtain ⟨r', e1, e2⟩ := Z7u (flow := x2) (size := x3) (df := w.df) (seq := w.sq) (x5 := w.t) (s := w.key) (b1 := w.up) (b2 := w.ad) (r1 := w.C) (r2 := w.R) (l1 := w.C.map cQ) (l2 := w.d) S.rep S.rl (S.cls x2) S.ok (by omega)
  obtain ⟨w', rfl, k1, k2⟩ := S.arr hm (flow := x2) (size := x3) e2
  exact ⟨_, _, _, r', Z8 e1 rfl, k1, k2, fun _ _ => ⟨rfl, rfl, rfl, rfl, rfl⟩⟩
 rw [if_neg (by rw [pieq]; exact c0)]
 by_cases c1 : x1 = 1
 ·rw [if_pos (by rw [pieq]; exact c1)]
  obtain ⟨r', e1, e2⟩ := Zmr (x := x4) (df := w.df) (seq := w.sq) (x5 := w.t) (s := w.key) (b1 := w.up) (b2 := w.ad) (r1 := w.C) (r2 := w.R) (l1 := w.C.map cQ) (l2 := w.d) S.rep h4 (by omega) S.ok
  obtain ⟨k1, k2⟩ := S.tick h4 e2
  exact ⟨z3, z3, { w with g := fun i => tickA x4 (w.g i) }, r', Z8 e1 rfl, k1, k2, fun _ _ => ⟨rfl, rfl, rfl, rfl, rfl⟩⟩
 rw [if_neg (by rw [pieq]; exact c1)]
 by_cases c2 : x1 = 2
 ·rw [if_pos (by rw [pieq]; exact c2)]
  obtain ⟨r', e1, e2⟩ := Z7c (up := w.up) (ad := w.ad) (df := w.df) (seq := w.sq) (t := w.t) (s := w.key) (r1 := w.C) (r2 := w.R) (q := w.C.map cQ) (d := w.d) S.rep (by omega) S.ok (by simp) S.ring
  obtain ⟨w', rfl, k1, k2⟩ := S.go e2
  exact ⟨z3, _, _, r', Z8 e1 rfl, k1, k2, fun _ _ => ⟨rfl, rfl, rfl, rfl, rfl⟩⟩
 rw [if_neg (by rw [pieq]; exact c2)]
 obtain ⟨k, hk, hi⟩ := Zhy hp.n.1 h5
 have hn := hp.n
 have hcl := hp.cls k hk
 have hru := hp.rules k hk
 have app : ∀ b2 : Bool, ∃ (e : Int) (w' : W) (r' : List D), Zj (D.toS (D.fld (getD r1 k) 0)) (D.toB (D.fld (getD r1 k) 1)) (D.toL (D.fld (getD r1 k) 2)) (D.toL (D.fld (D.fld (getD r1 k) 3) 0)) (D.toI (D.fld (D.fld (getD r1 k) 3) 1)) b2 w.key w.up w.df w.sq w.C w.R w.C.length w.t w.ad r (w.C.map cQ) w.d =
   some (e, w'.key, w'.up, w'.df, w'.C, w'.R, w'.C.length, w'.t, w'.ad, r', w'.C.map cQ, w'.d) ∧ w'.sq = w.sq ∧ SW w' r' (m + 1) ∧ Ev w w' z3 z3 := fun b2 => by
  have htot := S.tot
  rcases Zaj (s1 := D.toS (D.fld (getD r1 k) 0)) (s2 := w.key) (b1 := D.toB (D.fld (getD r1 k) 1)) (b2 := b2) (b3 := w.up) (b4 := w.ad) (C' := pCls (getD r1 k)) (R' := pRules (getD r1 k)) (df' := pDf (getD r1 k)) (df := w.df) (sq := w.sq) (t := w.t) (R := w.R) (q := w.C.map cQ) (d := w.d) S.rep (by omega) S.ok (by omega) (by omega) (by omega) with ⟨e, _, _, e1, _⟩ | ⟨hb, r', e1, e2⟩
  ·exact ⟨e, w, r, e1, rfl, S.more S.rep, .same rfl rfl rfl rfl rfl fun _ _ => rfl⟩
  obtain ⟨k1, k2⟩ := S.apply (s1 := D.toS (D.fld (getD r1 k) 0)) (b1 := D.toB (D.fld (getD r1 k) 1)) hm (by omega) (hp.ud k hk) (Z24 hb) e2
  exact ⟨0, ⟨D.toS (D.fld (getD r1 k) 0), D.toB (D.fld (getD r1 k) 1), pDf (getD r1 k), w.sq, pCls (getD r1 k), pRules (getD r1 k), 0, false, List.replicate (pCls (getD r1 k)).length 0, _⟩, r', e1, rfl, k1, k2⟩
 by_cases c3 : x1 = 3
 ·rw [if_pos (by rw [pieq]; exact c3), if_pos (by rw [pieq]; exact c3), if_pos (by simp only [ofN, xlen]; omega), hi, if_pos (by simp only [ofN, xlen]; omega), ptoN]
  obtain ⟨e, w', r', e1, e2, e3, e4⟩ := app (ieq x1 4)
  refine ⟨z3, z3, w', r', Z8 e1 ?_, e3, e4, fun h _ => absurd c3 h⟩
  dsimp only
  rw [e2]; rfl
 rw [if_neg (by rw [pieq]; exact c3)]
 by_cases c4 : x1 = 4
 ·rw [if_pos (by rw [pieq]; exact c4), if_pos (by simp only [ofN, xlen]; omega), hi, if_pos (by simp only [ofN, xlen]; omega), ptoN]
  obtain ⟨e, w', r', e1, e2, e3, e4⟩ := app (ieq x1 4)
  refine ⟨z3, z3, w', r', Z8 e1 ?_, e3, e4, fun _ h => absurd c4 h⟩
  dsimp only
  rw [e2]; rfl
 rw [if_neg (by rw [pieq]; exact c4)]
 by_cases c5 : x1 = 5
 ·rw [if_pos (by rw [pieq]; exact c5)]
  have hd : w.d.length ≤ 1000 := by have := S.ring.l; simp at this; omega
  have e1 := Zgp (s := w.key) (b := w.up) (b2 := w.ad) (df := w.df) (seq := w.sq) (x := w.t) (r1 := w.C) (r2 := w.R) (l1 := w.C.map cQ) (l2 := w.d) S.rep (by omega) hd S.ok
  obtain ⟨e, r', e2, e3⟩ := Zt9 (s := w.key) (b2 := w.up) (b1 := w.ad) (df := w.df) (sq := w.sq) (t := w.t) (C := w.C) (R := w.R) (q := w.C.map cQ) (d := w.d) S.rep (by omega) hd S.ok
  exact ⟨z3, z3, w, r', Z8 e1 (Z8 e2 rfl), S.more e3, .same rfl rfl rfl rfl rfl fun _ _ => rfl, fun _ _ => ⟨rfl, rfl, rfl, rfl, rfl⟩⟩
 rw [if_neg (by rw [pieq]; exact c5)]
 exact ⟨z3, z3, w, r, rfl, S.more S.rep, .same rfl rfl rfl rfl rfl fun _ _ => rfl, fun _ _ => ⟨rfl, rfl, rfl, rfl, rfl⟩⟩
def canonC (d : D) : D := .l [.s (D.toS (D.fld d 0)), .i (D.toI (D.fld d 1)), .i (D.toI (D.fld d 2)), .i (D.toI (D.fld d 3)), .i (D.toI (D.fld d 4)), .b (D.toB (D.fld d 5))]
def canonR (d : D) : D := .l [.i (D.toI (D.fld d 0)), .i (D.toI (D.fld d 1)), .i (D.toI (D.fld d 2))]
theorem Za0 {f : D → D} {l : List D} {k : Nat} (h : k < l.length) : getD (l.map f) k = f (getD l k) := by
 rw [pgetD (by simpa using h), pgetD h]; simp
theorem Znb {f : D → D} {l : List D} {k : Nat} (h : k < l.length) : cat ((l.take k).map f) [f (getD l k)] = (l.take (k + 1)).map f := by
 rw [List.take_succ_eq_append_getElem h, List.map_append, pgetD h]; rfl
theorem Z6f {s : List UInt8} {b b2 : Bool} {df sq x : Int} {C R r : List D} {n : Nat} {l1 l2 : List Int} (hC : C.length ≤ 1000000) (hR : R.length ≤ 1000000) : Z12 s b df sq C R n x b2 r l1 l2 = some (C, R) := by
 unfold Z12 Z4f
 refine Z8 (Z8 (Z7p hC) (Z8 (Z86 hR) rfl)) rfl
theorem Z6v {s : List UInt8} {b : Bool} {df : Int} {C R : List D} (hC : C.length ≤ 1000000) (hR : R.length ≤ 1000000) : Zy s b C R df = some (C.map canonC, R.map canonR) := by
 have h2 : ∀ (m i : Nat), i + m = C.length → iter (Z4y C (R.map canonR)) ((i : Int), (C.take i).map canonC) = some (C.map canonC, R.map canonR) := by
  intro m
  induction m with
  | zero =>
   intro i hi
   apply Zb
   unfold Z4y
   dsimp only
   rw [if_neg (by rw [pilt]; simp only [ofN, xlen]; omega), List.take_of_length_le (by omega)]
  | succ m ih =>
   intro i hi
   rw [← ih (i + 1) (by omega)]
   apply Ze
   unfold Z4y
   dsimp only
   rw [if_pos (by rw [pilt]; simp only [ofN, xlen]; omega), if_pos (by simp only [ofN, xlen]; omega), if_pos (by simp only [xlen, List.length_map, List.length_take, List.length_cons, List.length_nil]; omega), pnext (by omega), ptoN, ← Znb (by omega)]
   rfl
 have h1 : ∀ (m i : Nat), i + m = R.length → iter (Z6h R C) ((i : Int), (R.take i).map canonR) = some (C.map canonC, R.map canonR) := by
  intro m
  induction m with
  | zero =>
   intro i hi
   apply Zb
   unfold Z6h
   dsimp only
   have h2' : iter (Z4y C (R.map canonR)) ((0 : Int), ([] : List D)) = _ := h2 C.length 0 (by omega)
   rw [if_neg (by rw [pilt]; simp only [ofN, xlen]; omega), List.take_of_length_le (by omega), h2']
   rfl
  | succ m ih =>
   intro i hi
   rw [← ih (i + 1) (by omega)]
   apply Ze
   unfold Z6h
   dsimp only
   rw [if_pos (by rw [pilt]; simp only [ofN, xlen]; omega), if_pos (by simp only [ofN, xlen]; omega), if_pos (by simp only [xlen, List.length_map, List.length_take, List.length_cons, List.length_nil]; omega), pnext (by omega), ptoN, ← Znb (by omega)]
   rfl
 exact h1 R.length 0 (by omega)
theorem Zaf {R : List D} {df x : Int} (hR : R.length ≤ 1000000) : Z27 (R.map canonR) df x = some (clsA R df x) := by
 unfold Z27
 have key : ∀ (m i : Nat), i + m = R.length → (∀ j, j < i → (h : j < R.length) → clsIn R[j] x = false) → iter (Z5m (R.map canonR) x df) (i : Int) = some (clsA R df x) := by
  intro m
  induction m with
  | zero =>
   intro i hi hp
   apply Zb
   unfold Z5m
   dsimp only
   rw [if_neg (by rw [pilt]; simp only [ofN, xlen, List.length_map]; omega)]
   have : R.find? (fun d => clsIn d x) = none := by
    rw [List.find?_eq_none]
    intro d hd
    obtain ⟨j, hj, rfl⟩ := List.getElem_of_mem hd
    rw [hp j (by omega) hj]; simp
   unfold clsA
   rw [this]
  | succ m ih =>
   intro i hi hp
   have hl : i < R.length := by omega
   have g0 : D.toI (D.fld (getD (R.map canonR) i) 0) = (R[i].fld 0).toI := by rw [Za0 hl, pgetD hl]; rfl
   have g1 : D.toI (D.fld (getD (R.map canonR) i) 1) = (R[i].fld 1).toI := by rw [Za0 hl, pgetD hl]; rfl
   have g2 : D.toI (D.fld (getD (R.map canonR) i) 2) = (R[i].fld 2).toI := by rw [Za0 hl, pgetD hl]; rfl
   by_cases c : clsIn R[i] x = true
   ·have c' := c
    simp only [clsIn, Bool.and_eq_true, decide_eq_true_eq] at c'
    apply Zb
    unfold Z5m
    dsimp only
    rw [if_pos (by rw [pilt]; simp only [ofN, xlen, List.length_map]; omega), if_pos (by simp only [ofN, xlen, List.length_map]; omega), ptoN, g0, g1, g2, if_pos (by rw [pile]; exact c'.1), if_pos (by simp only [ofN, xlen, List.length_map]; omega), if_pos (by rw [pile]; exact c'.2), if_pos (by simp only [ofN, xlen, List.length_map]; omega)]
    have : R.find? (fun d => clsIn d x) = some R[i] := by
     rw [List.find?_eq_some_iff_getElem]
     exact ⟨c, i, hl, rfl, fun j hj => by rw [hp j hj (by omega)]; rfl⟩
    unfold clsA
    rw [this]
   rw [← ih (i + 1) (by omega) fun j hj h => by
     by_cases e : j = i
     ·subst e; simpa using c
     exact hp j (by omega) h]
   simp only [clsIn, Bool.and_eq_true, decide_eq_true_eq] at c
   apply Ze
   unfold Z5m
   dsimp only
   rw [if_pos (by rw [pilt]; simp only [ofN, xlen, List.length_map]; omega), if_pos (by simp only [ofN, xlen, List.length_map]; omega), ptoN, g0, g1, g2, pnext (by omega)]
   by_cases c2 : (R[i].fld 0).toI ≤ x
   ·rw [if_pos (by rw [pile]; exact c2), if_pos (by simp only [ofN, xlen, List.length_map]; omega), if_neg (by rw [pile]; exact fun h => c ⟨c2, h⟩)]
   rw [if_neg (by rw [pile]; exact c2)]
 exact key R.length 0 (by omega) fun j hj => by omega
theorem Z6n {n : Nat} : allN n (fun _ => true) = true := by simp [Z1c]
theorem Zt0 {r : List D} (h : r.length ≤ 1000000) : Z1y r r = some true := by
 unfold Z1y
 rw [if_pos (by rw [pieq])]
 have := Z15 (B := Z4l r r) (P := fun _ => true) (n := r.length) (e := true) (fun i hi => by
  unfold Z4l
  dsimp only
  rw [if_pos (by rw [pilt]; simp only [ofN, xlen]; omega), if_pos (by simp only [ofN, xlen]; omega), if_pos (by simp only [ofN, xlen]; omega), if_pos (by simp [band, ieq]), pnext (by omega)]
  rfl) (by
  unfold Z4l
  dsimp only
  rw [if_neg (by rw [pilt]; simp only [ofN, xlen]; omega)])
 rw [this, Z6n]; rfl
theorem Zlu {r : List Int} (h : r.length ≤ 1000000) : Z1k r r = some true := by
 unfold Z1k
 rw [if_pos (by rw [pieq])]
 have := Z15 (B := Z40 r r) (P := fun _ => true) (n := r.length) (e := true) (fun i hi => by
  unfold Z40
  dsimp only
  rw [if_pos (by rw [pilt]; simp only [ofN, xlen]; omega), if_pos (by simp only [ofN, xlen]; omega), if_pos (by simp only [ofN, xlen]; omega), if_pos (by rw [pieq]), pnext (by omega)]
  rfl) (by
  unfold Z40
  dsimp only
  rw [if_neg (by rw [pilt]; simp only [ofN, xlen]; omega)])
 rw [this, Z6n]; rfl
theorem Zq1 {x t : Int} {l d : List Int} {b : Bool} {n : Nat} {g : Nat → A} (hl : l.length ≤ 1000000) (hd : d.length ≤ 1000000) (hn : n ≤ 1000000) (hg : ∀ i, i < n → AOk (g i)) : Z18 x l t b d (queuesS n g) x l t b d (queuesS n g) = some true := by
 unfold Z18
 rw [if_pos (by rw [pieq]), if_pos (by rw [pieq]), if_pos (by rw [pbeq2]), if_pos (by rw [pieq]), Zlu hl, Z7, Zlu hd, Z7]
 dsimp only
 rw [if_pos rfl, if_pos rfl]
 have := Z15 (B := Z23 (queuesS n g) (queuesS n g)) (P := fun _ => true) (n := n) (e := true) (fun i hi => by
  have hA := (hg i hi).n
  unfold Z23
  dsimp only
  rw [if_pos (by rw [pilt]; simp only [ofN, xlen, Zx]; omega), if_pos (by simp only [ofN, xlen, Zx]; omega), if_pos (by simp only [ofN, xlen, Zx]; omega), ptoN, Z6a hi, Zt0 (by rw [List.length_map]; omega), Z7, pnext (by omega)]) (by
  unfold Z23
  dsimp only
  rw [if_neg (by rw [pilt]; simp only [ofN, xlen, Zx]; omega)])
 rw [this, Z6n]; rfl
theorem Zi {α β : Type} {o : Option α} {k : α → Option β} {r : β} {a : α} (e : o = some a) (h : k a = some r) : bindO o k = some r := by
 rw [e]; exact h
theorem Rep.one {r : List D} {n : Nat} {g : Nat → A} {a : A} (h : Rep r n g) (hn : n = 1) (e : g 0 = a) : Rep r 1 (fun _ => a) := by
 subst hn
 refine h.congr fun j hj => ?_
 have : j = 0 := by omega
 subst this
 exact e.symm
def exC : D := .l [.s [120], .i 1500, .i 10, .i 100, .i 2, .b true]
def exA (bt : Int) (l : List Pk) : A := { key := [120], q := 1500, r := 10, b := 100, lim := 2, sh := true, br := 10, bb := 100, bt := bt, ql := 2, l := l }
theorem Z2o {bt : Int} {l : List Pk} (h : 0 ≤ bt ∧ bt ≤ 100) (hn : l.length ≤ 10) (hs : ∀ p ∈ l, 1 ≤ p.2.2 ∧ p.2.2 ≤ 1500) : ∀ i, i < 1 → AOk ((fun _ => exA bt l) i) := fun i _ =>
 ⟨by unfold U exA; dsimp only; omega, by unfold U exA; dsimp only; omega, by unfold U exA; dsimp only; omega, by unfold U exA; dsimp only; omega, by unfold exA; dsimp only; omega, hs⟩
theorem Zuk : Z1t [exC] [exC] = some true := by
 unfold Z1t
 rw [if_pos (by rw [pieq])]
 refine (Ze (y := (1 : Int)) ?_).trans (Zb ?_)
 ·unfold Z3c
  dsimp only
  rw [if_pos (by rw [pilt]; decide), if_pos (by decide), if_pos (by decide)]
  rfl
 unfold Z3c
 dsimp only
 rw [if_neg (by rw [pilt]; decide)]
theorem Zs1 : Z1r [] [] = some true := by
 unfold Z1r
 rw [if_pos (by rw [pieq])]
 refine Zb ?_
 unfold Z5d
 dsimp only
 rw [if_neg (by rw [pilt]; decide)]
theorem Zqd : Z3f [] 0 0 false = some (-1) := by
 unfold Z3f
 refine Zb ?_
 unfold Za1
 dsimp only
 rw [if_neg (by rw [pilt]; decide)]
theorem Zzr : Z3r 0 0 false = some true := by
 unfold Z3r
 rw [if_neg (by rw [pilt]; decide), if_pos (by rw [pieq]), if_pos (by rw [pieq]), if_neg (by rw [pilt]; decide), if_neg (by rw [pile]; decide)]
 refine Zi (a := false) ?_ rfl
 unfold Z5e
 exact Zi Zqd rfl
theorem Zz5 : Z3l [] false 0 = some false := by
 unfold Z3l
 rw [if_pos (by rw [pilt]; decide)]
theorem q1500 : ∀ x ∈ [(1500 : Int)], U x := by intro x hx; simp at hx; subst hx; unfold U; omega
theorem rok {d : Int} (h : 0 ≤ d ∧ d ≤ 2000) : RingOk [1500] 0 [d] := ⟨by decide, by decide, by decide, rfl, q1500, by intro x hx; simp at hx; subst hx; unfold U; omega⟩
def pk1 : Pk := (1, 1, 60)
def pk2 : Pk := (2, 2, 70)
theorem Z102 : Z3z = some true := by
 unfold Z3z
 obtain ⟨r0, h0, R0⟩ := Zvx (s := [112]) (b := true) (r1 := [exC]) (df := 0) (by decide) (by decide)
 replace R0 : Rep r0 1 (fun _ => exA 100 []) := R0.one rfl rfl
 refine Zi h0 ?_
 dsimp only
 obtain ⟨r1, h1, R1⟩ := Z7u (flow := 1) (size := 60) (seq := 0) (x5 := 0) (b2 := false) (l2 := [0]) (df := 0) (s := [112]) (b1 := true) (r1 := [exC]) (r2 := []) (l1 := [1500]) R0 (by decide) (by decide) (Z2o (by decide) (by decide) (by simp [pk1, pk2])) (by decide)
 replace h1 : Z10 1 60 [112] true 0 0 [exC] [] 1 0 false r0 [1500] [0] = some (1, 1, 60, 0, 1, r1) := h1
 replace R1 : Rep r1 1 (fun _ => exA 100 [pk1]) := R1.one rfl rfl
 refine Zi h1 ?_
 dsimp only
 obtain ⟨r2, h2, R2⟩ := Z7u (flow := 2) (size := 70) (seq := 1) (x5 := 0) (b2 := false) (l2 := [0]) (df := 0) (s := [112]) (b1 := true) (r1 := [exC]) (r2 := []) (l1 := [1500]) R1 (by decide) (by decide) (Z2o (by decide) (by decide) (by simp [pk1, pk2])) (by decide)
 replace h2 : Z10 2 70 [112] true 0 1 [exC] [] 1 0 false r1 [1500] [0] = some (2, 2, 70, 0, 2, r2) := h2
 replace R2 : Rep r2 1 (fun _ => exA 100 [pk1, pk2]) := R2.one rfl rfl
 refine Zi h2 ?_
 dsimp only
 obtain ⟨r3, h3, R3⟩ := Z7u (flow := 1) (size := 5) (seq := 2) (x5 := 0) (b2 := false) (l2 := [0]) (df := 0) (s := [112]) (b1 := true) (r1 := [exC]) (r2 := []) (l1 := [1500]) R2 (by decide) (by decide) (Z2o (by decide) (by decide) (by simp [pk1, pk2])) (by decide)
 replace h3 : Z10 1 5 [112] true 0 2 [exC] [] 1 0 false r2 [1500] [0] = some (0, 0, 0, 35, 2, r3) := h3
 replace R3 : Rep r3 1 (fun _ => exA 100 [pk1, pk2]) := R3.one rfl rfl
 refine Zi h3 ?_
 dsimp only
 obtain ⟨r4, h4, R4⟩ := Z7c (s := [112]) (up := true) (ad := false) (df := 0) (seq := 2) (t := 0) (r1 := [exC]) (r2 := []) (q := [1500]) (d := [0]) R3 (by decide) (Z2o (by decide) (by decide) (by simp [pk1, pk2])) rfl (rok (by decide))
 replace h4 : Z13 [112] true 0 2 [exC] [] 1 0 false r3 [1500] [0] = some (1, 1, 60, [120], true, 0, true, [1440], r4) := h4
 replace R4 : Rep r4 1 (fun _ => exA 40 [pk2]) := R4.one rfl rfl
 refine Zi h4 ?_
 dsimp only
 obtain ⟨r5, h5, R5⟩ := Z7c (s := [112]) (up := true) (ad := true) (df := 0) (seq := 2) (t := 0) (r1 := [exC]) (r2 := []) (q := [1500]) (d := [1440]) R4 (by decide) (Z2o (by decide) (by decide) (by simp [pk1, pk2])) rfl (rok (by decide))
 replace h5 : Z13 [112] true 0 2 [exC] [] 1 0 true r4 [1500] [1440] = some (0, 0, 0, [], false, 0, false, [0], r5) := h5
 replace R5 : Rep r5 1 (fun _ => exA 40 [pk2]) := R5.one rfl rfl
 refine Zi h5 ?_
 dsimp only
 obtain ⟨r6, h6, R6⟩ := Zmr (x := 3) (seq := 2) (x5 := 0) (b2 := false) (l2 := [0]) (df := 0) (s := [112]) (b1 := true) (r1 := [exC]) (r2 := []) (l1 := [1500]) R5 (by unfold U; omega) (by decide) (Z2o (by decide) (by decide) (by simp [pk1, pk2]))
 replace R6 : Rep r6 1 (fun _ => exA 70 [pk2]) := R6.one rfl rfl
 refine Zi h6 ?_
 obtain ⟨r7, h7, R7⟩ := Z7c (s := [112]) (up := true) (ad := false) (df := 0) (seq := 2) (t := 0) (r1 := [exC]) (r2 := []) (q := [1500]) (d := [0]) R6 (by decide) (Z2o (by decide) (by decide) (by simp [pk1, pk2])) rfl (rok (by decide))
 replace h7 : Z13 [112] true 0 2 [exC] [] 1 0 false r6 [1500] [0] = some (2, 2, 70, [120], true, 0, true, [1430], r7) := h7
 replace R7 : Rep r7 1 (fun _ => exA 0 []) := R7.one rfl rfl
 refine Zi h7 ?_
 dsimp only
 have ok7 := Z2o (bt := 0) (l := []) (by decide) (by decide) (by simp)
 have h8 := Zjx (s := [112]) (b := true) (b2 := true) (df := 0) (seq := 2) (x := 0) (r1 := [exC]) (r2 := []) (l1 := [1500]) (l2 := [1430]) R7 (by decide) ok7
 have h9 := Zgp (s := [112]) (b := true) (b2 := true) (df := 0) (seq := 2) (x := 0) (r1 := [exC]) (r2 := []) (l1 := [1500]) (l2 := [1430]) R7 (by decide) (by decide) ok7
 have hR : Z1i [112] true 0 [exC] = some true := by rw [Zmh]; exact Z5h (by decide) (by decide)
 have hP : Z4k [112] true 0 [112] true 0 [exC] [exC] [] = some true := by
  unfold Z4k
  rw [if_pos (by rw [pseq]), if_pos (by rw [pbeq2])]
  refine Zi Zuk ?_
  dsimp only
  rw [if_pos rfl]
  refine Zi Zs1 ?_
  rfl
 rw [if_pos (by decide), if_pos (by decide), if_pos (by decide), if_pos (by decide), if_pos (by decide), if_pos (by decide), if_pos rfl, if_neg (by decide), if_pos rfl, if_pos (by decide)]
 refine Zi h8 ?_
 dsimp only
 rw [if_pos (by decide)]
 refine Zi h9 ?_
 dsimp only
 rw [if_pos (by decide)]
 refine Zi (a := (0 : Int)) ?_ ?_
 ·unfold Z5k
  refine Zi hR ?_
  dsimp only
  rw [if_pos rfl]
  refine Zi hP ?_
  rfl
 rw [if_pos (by decide)]
 refine Zi (a := ([exC], [])) ?_ ?_
 ·unfold Z12 Z4f
  refine Zi (a := ([exC], [])) ?_ rfl
  refine Zi (Z7p (by decide)) ?_
  exact Zi (Z86 (by decide)) rfl
 try dsimp only
 rw [if_pos (by decide)]
 refine Zi hR ?_
 rw [if_pos rfl]
 refine Zi Zz5 ?_
 try dsimp only
 rw [if_neg (by decide)]
 refine Zi (a := (1, 2, 0, true, [1430])) ?_ rfl
 unfold Z4p
 refine Zi Zzr ?_
 try dsimp only
 rw [if_pos rfl, if_neg (by rw [pieq]; decide)]
def stepsOk (r2 : List D) : Prop := ∀ i, i < r2.length → U (D.toI (D.fld (getD r2 i) 3)) ∧ 0 ≤ D.toI (D.fld (getD r2 i) 4) ∧ D.toI (D.fld (getD r2 i) 4) < 256
theorem SW.snap {w : W} {r : List D} {m : Nat} (S : SW w r m) : Zr w.key w.up w.df w.sq w.C w.R w.C.length w.t w.ad r (w.C.map cQ) w.d = some (tokensS w.C.length w.g, w.d, queuesS w.C.length w.g, r) :=
 Zgp S.rep (by have := S.right.n8; omega) (by have h8 := S.right.n8; have := S.ring.l; simp at this; omega) S.ok
theorem Zjl {e : D → D → Bool} {r : List D} (h : ∀ d, e d d = true) : eqRows e r r = true := by
 simp [eqRows, Z1c, h]
theorem Zvd (d : D) : eqRule d d = true := by simp [eqRule]
theorem Ztq (d : D) : eqCls d d = true := by simp [eqCls]
theorem Zh6 {r s : List D} (h : eqRows eqRule r s = true) : r.map canonR = s.map canonR := by
 simp only [eqRows, Bool.and_eq_true, decide_eq_true_eq, Z1c] at h
 refine List.ext_getElem (by simp [h.1]) fun i h1 h2 => ?_
 have hi : i < r.length := by simpa using h1
 have := h.2 i hi
 rw [pgetD hi, pgetD (by omega)] at this
 simp only [eqRule, decide_eq_true_eq] at this
 obtain ⟨a, b, c⟩ := this
 simp only [List.getElem_map, canonR, a, b, c]
theorem Zz8 {r s : List D} (h : eqRows eqCls r s = true) : r.map canonC = s.map canonC := by
 simp only [eqRows, Bool.and_eq_true, decide_eq_true_eq, Z1c] at h
 refine List.ext_getElem (by simp [h.1]) fun i h1 h2 => ?_
 have hi : i < r.length := by simpa using h1
 have := h.2 i hi
 rw [pgetD hi, pgetD (by omega)] at this
 simp only [eqCls, decide_eq_true_eq] at this
 obtain ⟨a, b, c, d, e, f⟩ := this
 simp only [List.getElem_map, canonC, a, b, c, d, e, f]
theorem Zme {r s : List Int} (h : r.length ≤ 1000000) : ∃ b, Z1k r s = some b := by
 unfold Z1k
 by_cases c : ieq (ofN (xlen r)) (ofN (xlen s)) = true
 ·rw [if_pos c]
  rw [pieq] at c
  simp only [ofN, xlen] at c
  refine ⟨_, Z15 (P := fun i => ieq (getI r i) (getI s i)) (n := r.length) (e := true) (fun i hi => ?_) ?_⟩
  ·unfold Z40
   dsimp only
   rw [if_pos (by rw [pilt]; simp only [ofN, xlen]; omega), if_pos (by simp only [ofN, xlen]; omega), if_pos (by simp only [ofN, xlen]; omega), ptoN, pnext (by omega)]
  unfold Z40
  dsimp only
  rw [if_neg (by rw [pilt]; simp only [ofN, xlen]; omega)]
 rw [if_neg c]; exact ⟨_, rfl⟩
theorem Zzs {r s : List D} (h : r.length ≤ 1000000) : ∃ b, Z1y r s = some b := by
 unfold Z1y
 by_cases c : ieq (ofN (xlen r)) (ofN (xlen s)) = true
 ·rw [if_pos c]
  rw [pieq] at c
  simp only [ofN, xlen] at c
  refine ⟨_, Z15 (P := fun i => band (ieq (D.toI (D.fld (getD r i) 0)) (D.toI (D.fld (getD s i) 0))) (band (ieq (D.toI (D.fld (getD r i) 1)) (D.toI (D.fld (getD s i) 1))) (band (ieq (D.toI (D.fld (getD r i) 2)) (D.toI (D.fld (getD s i) 2))) true))) (n := r.length) (e := true) (fun i hi => ?_) ?_⟩
  ·unfold Z4l
   dsimp only
   rw [if_pos (by rw [pilt]; simp only [ofN, xlen]; omega), if_pos (by simp only [ofN, xlen]; omega), if_pos (by simp only [ofN, xlen]; omega), ptoN, pnext (by omega)]
  unfold Z4l
  dsimp only
  rw [if_neg (by rw [pilt]; simp only [ofN, xlen]; omega)]
 rw [if_neg c]; exact ⟨_, rfl⟩
theorem Zsc {x x' t t' : Int} {l l' d d' : List Int} {b b' : Bool} {r r' : List D} (hl : l.length ≤ 1000000) (hd : d.length ≤ 1000000) (hr : r.length ≤ 1000000) (hq : ∀ i, i < r.length → (D.toL (getD r i)).length ≤ 1000000) : ∃ c, Z18 x l t b d r x' l' t' b' d' r' = some c := by
 obtain ⟨c1, h1⟩ := Zme (s := l') hl
 obtain ⟨c2, h2⟩ := Zme (s := d') hd
 have key : (ofN (xlen r)) = (ofN (xlen r')) → ∀ (m i : Nat), i + m = r.length → ∃ c, iter (Z23 r r') (i : Int) = some c := by
  intro he m
  simp only [ofN, xlen] at he
  induction m with
  | zero => intro i hi; exact ⟨true, Zb (by
    unfold Z23
    dsimp only
    rw [if_neg (by rw [pilt]; simp only [ofN, xlen]; omega)])⟩
  | succ m ih =>
   intro i hi
   obtain ⟨c3, h3⟩ := Zzs (s := D.toL (getD r' i)) (hq i (by omega))
   obtain ⟨c4, h4⟩ := ih (i + 1) (by omega)
   cases c3 with
   | true =>
    refine ⟨c4, ?_⟩
    rw [← h4]
    apply Ze
    unfold Z23
    dsimp only
    rw [if_pos (by rw [pilt]; simp only [ofN, xlen]; omega), if_pos (by simp only [ofN, xlen]; omega), if_pos (by simp only [ofN, xlen]; omega), ptoN, h3, Z7, if_pos rfl, pnext (by omega)]
   | false =>
    refine ⟨false, Zb ?_⟩
    unfold Z23
    dsimp only
    rw [if_pos (by rw [pilt]; simp only [ofN, xlen]; omega), if_pos (by simp only [ofN, xlen]; omega), if_pos (by simp only [ofN, xlen]; omega), ptoN, h3, Z7, if_neg (by simp)]
 unfold Z18
 rw [h1, Z7, h2, Z7]
 by_cases k1 : ieq x x' = true
 ·rw [if_pos k1]
  by_cases k2 : ieq t t' = true
  ·rw [if_pos k2]
   by_cases k3 : beq2 b b' = true
   ·rw [if_pos k3]
    by_cases k4 : ieq (ofN (xlen r)) (ofN (xlen r')) = true
    ·rw [if_pos k4]
     cases c1 with
     | false => exact ⟨_, rfl⟩
     | true =>
      cases c2 with
      | false => exact ⟨_, rfl⟩
      | true => exact key (by rw [pieq] at k4; exact k4) r.length 0 (by omega)
    rw [if_neg k4]; exact ⟨_, rfl⟩
   rw [if_neg k3]; exact ⟨_, rfl⟩
  rw [if_neg k2]; exact ⟨_, rfl⟩
 rw [if_neg k1]; exact ⟨_, rfl⟩
theorem Zip {s : List UInt8} {b : Bool} {C R : List D} {x : Int} (hC : C.length ≤ 1000000) (hR : R.length ≤ 1000000) : Z1n s b C R x s b C R x = some true := by
 unfold Z1n
 rw [if_pos (by rw [pseq]), if_pos (by rw [pbeq2]), if_pos (by rw [pieq])]
 have h23 : Z39 R x R x = some true := by
  unfold Z39
  rw [if_pos (by rw [pieq]), if_pos (by rw [pieq])]
  have := Z15 (B := Z6s R R) (P := fun _ => true) (n := R.length) (e := true) (fun i hi => by
   unfold Z6s
   dsimp only
   rw [if_pos (by rw [pilt]; simp only [ofN, xlen]; omega), if_pos (by simp only [ofN, xlen]; omega), if_pos (by simp only [ofN, xlen]; omega), if_pos (by simp [band, ieq]), pnext (by omega)]
   rfl) (by
   unfold Z6s
   dsimp only
   rw [if_neg (by rw [pilt]; simp only [ofN, xlen]; omega)])
  rw [this, Z6n]; rfl
 have := Z15 (B := Z6t C C R x R x) (P := fun _ => true) (n := C.length) (e := true) (fun i hi => by
  unfold Z6t
  dsimp only
  rw [if_pos (by rw [pilt]; simp only [ofN, xlen]; omega), if_pos (by simp only [ofN, xlen]; omega), if_pos (by simp only [ofN, xlen]; omega), if_pos (by simp [band, ieq, seq, beq2]), pnext (by omega)]
  rfl) (by
  unfold Z6t
  dsimp only
  rw [if_neg (by rw [pilt]; simp only [ofN, xlen]; omega), h23, Z7])
 rw [this, Z6n]; rfl
theorem Z10c {r1 r2 : List D} {df : Int} (h : RightP r1 r2 df) : rightB r1 r2 df = true := by
 unfold rightB
 simp only [Bool.and_eq_true, Bool.not_eq_true', decide_eq_false_iff_not, Z1c, and_true, inN, decide_eq_true_eq]
 refine ⟨⟨⟨by have := h.n1; omega, by have := h.n8; omega⟩, h.df⟩, fun i hi => ?_, fun i hi => ?_⟩
 ·have h1 := h.q i hi
  have h2 := h.lim i hi
  simp only [clsOk, Bool.and_eq_true, Bool.or_eq_true, Bool.not_eq_true', decide_eq_false_iff_not, decide_eq_true_eq]
  refine ⟨⟨⟨by omega, by omega⟩, by omega⟩, ?_⟩
  by_cases c : i = 0
  ·exact .inl c
  have := h.keys (i - 1) (by omega)
  rw [show i - 1 + 1 = i by omega] at this
  exact .inr this
 exact h.rules _ (by rw [pgetD hi]; exact List.getElem_mem hi)
theorem SW.own {w : W} {r : List D} {m : Nat} (S : SW w r m) (b2 : Bool) : Zj w.key w.up w.C w.R w.df b2 w.key w.up w.df w.sq w.C w.R w.C.length w.t w.ad r (w.C.map cQ) w.d = some (0, w.key, w.up, w.df, w.C, w.R, w.C.length, w.t, w.ad, r, w.C.map cQ, w.d) := by
 have h8 := S.right.n8
 unfold Zj
 rw [Z5h (by omega) S.rl, Z7, Z10c S.right]
 dsimp only
 rw [if_pos rfl, Zot (by omega) S.rl, Z7]
 have : sameP w.key w.up w.C w.R w.df w.key w.up w.df w.C w.R = true := by simp [sameP, Zjl Ztq, Zjl Zvd]
 rw [if_pos this]
def Fl (w : W) : Prop := ∀ c, c < w.C.length → ∀ p ∈ (w.g c).l, w.cls p.2.1 = (c : Int)
theorem Fl.ev {w w' : W} {a b : Pk} (F : Fl w) (h : Ev w w' a b) : Fl w' := by
 intro c hc p hp
 cases h with
 | same ha hb hs hn hcl hq => rw [hn] at hc; rw [hq c hc] at hp; rw [hcl]; exact F c hc p hp
 | came flow size c2 hbp hcl2 hl ha hb hs hn hcl hq =>
  rw [hn] at hc
  rw [hq c hc] at hp
  rw [hcl]
  by_cases e : c = c2
  ·subst e
   rw [if_pos rfl] at hp
   rcases List.mem_append.1 hp with hp | hp
   ·exact F c hc p hp
   have : p = a := by simpa using hp
   subst this
   rw [ha]; exact hcl2
  rw [if_neg e] at hp; exact F c hc p hp
 | went c2 l hcn hl ha hs hn hcl hq =>
  rw [hn] at hc
  rw [hq c hc] at hp
  rw [hcl]
  by_cases e : c = c2
  ·subst e
   rw [if_pos rfl] at hp
   exact F c hc p (by rw [hl]; exact List.mem_cons_of_mem _ hp)
  rw [if_neg e] at hp; exact F c hc p hp
 | moved ha hb hs hq =>
  rw [hq c hc] at hp
  obtain ⟨i, _, _, h2⟩ := (Z7f _).1 hp
  exact h2
theorem Zbx {g : Nat → A} : ∀ n, cntS n g = sumL (qsOf g) n
 | 0 => rfl
 | n + 1 => by simp only [cntS, sumL, Zbx n]; rfl
theorem Zmn {r1 q33 : List D} {x1 i6 : Int} {k c : Nat} {l : List Pk} (hk : irem (iconv .i64 x1) (ofN (xlen r1)) = (k : Int)) (hc : c < q33.length) (hq : D.toL (getD q33 c) = l.map mkP) (hR : (pRules (getD r1 k)).length ≤ 1000000) (hl : l.length ≤ 1000000) (hn : c ≤ 1000)
  (hf : ∀ p ∈ l, clsA (pRules (getD r1 k)) (pDf (getD r1 k)) p.2.1 = (c : Int)) : ∀ (m j : Nat), j + m = l.length →
  iter (Z4v (c : Int) q33 ((pRules (getD r1 k)).map canonR) r1 x1 i6) (j : Int) = some (.inl (isub .i64 i6 (l.length : Int), ((c + 1 : Nat) : Int)))
 | 0, j, hj => by
  apply Zb
  unfold Z4v
  dsimp only
  rw [if_pos (by simp only [ofN, xlen]; omega), ptoN, hq, if_neg (by rw [pilt]; simp only [ofN, xlen, List.length_map]; omega), pnext (by omega)]
  simp only [ofN, xlen, List.length_map]
 | m + 1, j, hj => by
  have hjl : j < l.length := by omega
  rw [← Zmn hk hc hq hR hl hn hf m (j + 1) (by omega)]
  have hg : getD (l.map mkP) j = mkP l[j] := by rw [pgetD (by simpa using hjl)]; simp
  have hcl : Z27 ((pRules (getD r1 k)).map canonR) (D.toI (D.fld (D.fld (getD r1 k) 3) 1)) (D.toI (D.fld (mkP l[j]) 1)) = some (c : Int) := by
   have := Zaf (R := pRules (getD r1 k)) (df := pDf (getD r1 k)) (x := l[j].2.1) hR
   rw [hf _ (List.getElem_mem hjl)] at this
   exact this
  apply Ze
  unfold Z4v
  dsimp only
  rw [if_pos (by simp only [ofN, xlen]; omega), ptoN, ptoN, hq, hk, ptoN, if_pos (by rw [pilt]; simp only [ofN, xlen, List.length_map]; omega), if_pos (by simp only [ofN, xlen]; omega), if_pos (by simp only [ofN, xlen, List.length_map]; omega), hg, hcl, Z7, if_pos (by rw [pieq]), pnext (by omega)]
theorem Zdc {r1 r : List D} {x1 : Int} {k m0 : Nat} {w : W} (hk : irem (iconv .i64 x1) (ofN (xlen r1)) = (k : Int)) (S : SW w r m0) (hm : m0 ≤ 1000) (hR : (pRules (getD r1 k)).length ≤ 1000000)
  (hf : ∀ c, c < w.C.length → ∀ p ∈ (w.g c).l, clsA (pRules (getD r1 k)) (pDf (getD r1 k)) p.2.1 = (c : Int)) (hC' : (pCls (getD r1 k)).length ≤ 1000000)
  (hs1 : w.key = D.toS (D.fld (getD r1 k) 0)) (hs2 : w.up = D.toB (D.fld (getD r1 k) 1)) (hs3 : w.C.map canonC = (pCls (getD r1 k)).map canonC) (hs4 : w.R.map canonR = (pRules (getD r1 k)).map canonR) (hs5 : w.df = pDf (getD r1 k)) : ∀ (m c : Nat) (N : Nat), c + m = w.C.length → N + sumL (qsOf w.g) c = sumL (qsOf w.g) w.C.length →
  iter (Z2b (queuesS w.C.length w.g) ((pRules (getD r1 k)).map canonR) r1 x1 0 w.key w.up w.df w.sq w.C w.R w.C.length w.t w.ad r (w.C.map cQ) w.d) ((N : Int), (c : Int)) = some true
 | 0, c, N, hc, hN => by
  have h8 := S.right.n8
  have hc' : c = w.C.length := by omega
  subst hc'
  have hN0 : N = 0 := by omega
  subst hN0
  have e1 := Z6v (s := D.toS (D.fld (getD r1 k) 0)) (b := D.toB (D.fld (getD r1 k) 1)) (df := pDf (getD r1 k)) hC' hR
  apply Zb
  unfold Z2b
  dsimp only
  rw [if_neg (by rw [pilt]; simp only [ofN, xlen, Zx]; omega), if_pos (by rw [pieq]), if_pos (by rw [pieq]; rfl), hk, ptoN]
  refine Z8 (Z6f (by omega) S.rl) ?_
  dsimp only
  refine Z8 (Z6v (by omega) S.rl) ?_
  dsimp only
  refine Z8 e1 ?_
  dsimp only
  have h25 : Z1n w.key w.up (w.C.map canonC) (w.R.map canonR) w.df (D.toS (D.fld (getD r1 k) 0)) (D.toB (D.fld (getD r1 k) 1)) ((pCls (getD r1 k)).map canonC) ((pRules (getD r1 k)).map canonR) (D.toI (D.fld (D.fld (getD r1 k) 3) 1)) = some true := by
   have e5 : D.toI (D.fld (D.fld (getD r1 k) 3) 1) = w.df := hs5.symm
   rw [e5, ← hs1, ← hs2, ← hs3, ← hs4]
   exact Zip (by rw [List.length_map]; omega) (by rw [List.length_map]; exact S.rl)
  exact Z8 h25 rfl
 | m + 1, c, N, hc, hN => by
  have h8 := S.right.n8
  have htot := S.tot
  have hcn : c < w.C.length := by omega
  have hmono := Z6j (qs := qsOf w.g) (i := c + 1) (j := w.C.length) (by omega)
  have e : (qsOf w.g c).length = (w.g c).l.length := rfl
  simp only [sumL] at hmono
  have h3 := Zmn (i6 := (N : Int)) hk (by rw [Zx]; exact hcn) (Z6a hcn) hR (by omega) (by omega) (hf c hcn) (w.g c).l.length 0 (by omega)
  have h3' : iter (Z4v (c : Int) (queuesS w.C.length w.g) ((pRules (getD r1 k)).map canonR) r1 x1 (N : Int)) (0 : Int) = _ := h3
  have es : isub .i64 (N : Int) ((w.g c).l.length : Int) = ((N - (w.g c).l.length : Nat) : Int) := by simp only [isub]; rw [pwi64 (by omega) (by omega)]; omega
  rw [← Zdc hk S hm hR hf hC' hs1 hs2 hs3 hs4 hs5 m (c + 1) (N - (w.g c).l.length) (by omega) (by simp only [sumL]; omega)]
  apply Ze
  unfold Z2b
  dsimp only
  rw [if_pos (by rw [pilt]; simp only [ofN, xlen, Zx]; omega), if_pos (by simp only [ofN, xlen, Zx]; omega), h3', es]
theorem Zpg {r1 r : List D} {x1 y28 : Int} {k m : Nat} {w : W} (hk : irem (iconv .i64 x1) (ofN (xlen r1)) = (k : Int)) (hkl : k < r1.length) (hp : PortsOk r1) (S : SW w r m) (F : Fl w) (hm : m ≤ 999) (he : rightB (pCls (getD r1 k)) (pRules (getD r1 k)) (pDf (getD r1 k)) = false → y28 = 1) :
  (bindO (Zz (D.toS (D.fld (getD r1 k) 0)) (D.toB (D.fld (getD r1 k) 1)) (D.toL (D.fld (getD r1 k) 2)) (D.toL (D.fld (D.fld (getD r1 k) 3) 0)) (D.toI (D.fld (D.fld (getD r1 k) 3) 1))) fun c15 => if c15 = true then bindO (Z1o w.key w.up w.df w.sq w.C w.R w.C.length w.t w.ad r (w.C.map cQ) w.d) fun x => match x with
   | (y34, q29) => bindO (Zj (D.toS (D.fld (getD r1 k) 0)) (D.toB (D.fld (getD r1 k) 1)) (D.toL (D.fld (getD r1 k) 2)) (D.toL (D.fld (D.fld (getD r1 k) 3) 0)) (D.toI (D.fld (D.fld (getD r1 k) 3) 1)) true w.key w.up w.df w.sq w.C w.R w.C.length w.t w.ad q29 (w.C.map cQ) w.d) fun x => match x with
    | (y35, t6, c16, y36, q30, q31, k7, y37, c17, q32, m19, m20) => bindO (Zr t6 c16 y36 w.sq q30 q31 k7 y37 c17 q32 m19 m20) fun x => match x with
     | (m21, m22, q33, q34) => bindO (Zy (D.toS (D.fld (getD r1 k) 0)) (D.toB (D.fld (getD r1 k) 1)) (D.toL (D.fld (getD r1 k) 2)) (D.toL (D.fld (D.fld (getD r1 k) 3) 0)) (D.toI (D.fld (D.fld (getD r1 k) 3) 1))) fun x => match x with
      | (q35, q36) => Option.map (fun t => (.inr t)) (iter (Z2b q33 q36 r1 x1 y35 t6 c16 y36 w.sq q30 q31 k7 y37 c17 q34 m19 m20) (y34, (0 : Int))) else some (.inr (ieq y28 (1 : Int)))) = (some (.inr true) : Option ((Int × (List UInt8) × Bool × Int × Int × (List D) × (List D) × Nat × Int × Bool × (List D) × (List Int) × (List Int)) ⊕ (Bool))) := by
 have h8 := S.right.n8
 have htot := S.tot
 have hcl := hp.cls k hkl
 have hru := hp.rules k hkl
 have hn := Zjx (s := w.key) (b := w.up) (b2 := w.ad) (df := w.df) (seq := w.sq) (x := w.t) (r1 := w.C) (r2 := w.R) (l1 := w.C.map cQ) (l2 := w.d) S.rep (by omega) S.ok
 refine Z8 (Z5h (by show (pCls (getD r1 k)).length ≤ _; omega) (by show (pRules (getD r1 k)).length ≤ _; omega)) ?_
 have hB : rightB (D.toL (D.fld (getD r1 k) 2)) (D.toL (D.fld (D.fld (getD r1 k) 3) 0)) (D.toI (D.fld (D.fld (getD r1 k) 3) 1)) = rightB (pCls (getD r1 k)) (pRules (getD r1 k)) (pDf (getD r1 k)) := rfl
 rw [hB]
 cases hb : rightB (pCls (getD r1 k)) (pRules (getD r1 k)) (pDf (getD r1 k)) with
 | false =>
  rw [if_neg (by simp), he hb]
  rfl
 | true =>
  rw [if_pos rfl]
  refine Z8 hn ?_
  dsimp only
  have e1 := Z6v (s := D.toS (D.fld (getD r1 k) 0)) (b := D.toB (D.fld (getD r1 k) 1)) (df := pDf (getD r1 k)) (C := pCls (getD r1 k)) (R := pRules (getD r1 k)) (by omega) (by omega)
  rcases Zaj (s1 := D.toS (D.fld (getD r1 k) 0)) (s2 := w.key) (b1 := D.toB (D.fld (getD r1 k) 1)) (b2 := true) (b3 := w.up) (b4 := w.ad) (C' := pCls (getD r1 k)) (R' := pRules (getD r1 k)) (df' := pDf (getD r1 k)) (df := w.df) (sq := w.sq) (t := w.t) (R := w.R) (q := w.C.map cQ) (d := w.d) S.rep (by omega) S.ok (by omega) (by omega) (by omega) with ⟨e, g1, g2, g3, g4⟩ | ⟨_, r', g1, g2⟩
  ·have he0 := g4 rfl hb
   subst he0
   have hs := g1 rfl
   simp only [sameP, Bool.and_eq_true, decide_eq_true_eq] at hs
   obtain ⟨k1, k2, k3, k4, k5⟩ := hs
   refine Z8 g3 ?_
   dsimp only
   refine Z8 S.snap ?_
   dsimp only
   refine Z8 e1 ?_
   dsimp only
   have hf : ∀ c, c < w.C.length → ∀ p ∈ (w.g c).l, clsA (pRules (getD r1 k)) (pDf (getD r1 k)) p.2.1 = (c : Int) := fun c hc p hp => by
    have h1 := F c hc p hp
    have h2 := Zaf (R := pRules (getD r1 k)) (df := pDf (getD r1 k)) (x := p.2.1) (by omega)
    have h3 := Zaf (R := w.R) (df := pDf (getD r1 k)) (x := p.2.1) S.rl
    rw [Zh6 k4, h3] at h2
    rw [← Option.some.inj h2, k5]
    exact h1
   have h2 := Zdc (m0 := m) hk S (by omega) (by omega) hf (by omega) k1.symm k2.symm (Zz8 k3).symm (Zh6 k4).symm k5.symm w.C.length 0 (sumL (qsOf w.g) w.C.length) (by omega) (by simp [sumL])
   rw [Zbx]
   have h2' : iter (Z2b (queuesS w.C.length w.g) ((pRules (getD r1 k)).map canonR) r1 x1 0 w.key w.up w.df w.sq w.C w.R w.C.length w.t w.ad r (w.C.map cQ) w.d) (((sumL (qsOf w.g) w.C.length : Nat) : Int), (0 : Int)) = some true := h2
   rw [h2']
   rfl
  obtain ⟨k1, k2⟩ := S.apply (s1 := D.toS (D.fld (getD r1 k) 0)) (b1 := D.toB (D.fld (getD r1 k) 1)) (by omega) (by omega) (hp.ud k hkl) (Z24 hb) g2
  refine Z8 g1 ?_
  dsimp only
  have hsn := k1.snap
  dsimp only at hsn
  refine Z8 hsn ?_
  dsimp only
  refine Z8 e1 ?_
  dsimp only
  have hsum := Z9f (cls := clsA (pRules (getD r1 k)) (pDf (getD r1 k))) (qs := qsOf w.g) (n := (pCls (getD r1 k)).length) (fun x => Z7r (Z24 hb).df (Z24 hb).rules) w.C.length
  have h2 := Zdc (m0 := m + 1) hk k1 (by omega) (by omega) (fun c hc p hp2 => by
   obtain ⟨i, _, _, h2⟩ := (Z7f _).1 hp2
   exact h2) (by omega) rfl rfl rfl rfl rfl (pCls (getD r1 k)).length 0 (sumL (qsOf w.g) w.C.length) (by dsimp only; omega) (by
    simp only [sumL, Nat.add_zero]
    exact hsum.symm)
  rw [Zbx]
  dsimp only at h2
  have h2' := h2
  refine (congrArg (Option.map _) h2').trans rfl
theorem Zrm : @Zb5 = @Z2b := rfl
theorem Zx9 : ∀ x1 l1 x2 b1 l2 r1, Z20 x1 l1 x2 b1 l2 r1 = some () := fun _ _ _ _ _ _ => rfl
theorem SW.same {w : W} {r : List D} {m : Nat} (S : SW w r m) : Z18 w.sq (tokensS w.C.length w.g) w.t w.ad w.d (queuesS w.C.length w.g) w.sq (tokensS w.C.length w.g) w.t w.ad w.d (queuesS w.C.length w.g) = some true := by
 have h8 := S.right.n8
 exact Zq1 (by rw [Z68]; omega) (by have := S.ring.l; simp at this; omega) (by omega) S.ok
theorem Zzi {r1 r2 r : List D} {x1 : Int} {m : Nat} {w : W} (hp : PortsOk r1) (hx : 0 ≤ x1 ∧ x1 < 256) (S : SW w r m) (F : Fl w) (hm : m ≤ 300) :
  Z59 r2 r1 x1 ((r2.length : Int), w.key, w.up, w.df, w.sq, w.C, w.R, w.C.length, w.t, w.ad, r, w.C.map cQ, w.d) = some (.inr true) := by
 obtain ⟨k, hkl, hk⟩ := Zhy hp.n.1 hx
 have h8 := S.right.n8
 have htot := S.tot
 have hn := hp.n
 have hcl := hp.cls k hkl
 have hru := hp.rules k hkl
 have e25 := Zip (s := w.key) (b := w.up) (C := w.C.map canonC) (R := w.R.map canonR) (x := w.df) (by rw [List.length_map]; omega) (by rw [List.length_map]; exact S.rl)
 unfold Z59
 dsimp only
 rw [if_neg (by rw [pilt]; simp only [ofN, xlen]; omega), hk, ptoN, Zrm]
 simp only [Zx9, Z7]
 refine Z8 S.snap ?_
 dsimp only
 refine Z8 (Z6f (by omega) S.rl) ?_
 dsimp only
 rw [if_pos (by simp only [ofN, xlen]; omega), if_pos (by simp only [ofN, xlen]; omega)]
 rcases Zaj (s1 := D.toS (D.fld (getD r1 k) 0)) (s2 := w.key) (b1 := D.toB (D.fld (getD r1 k) 1)) (b2 := false) (b3 := w.up) (b4 := w.ad) (C' := pCls (getD r1 k)) (R' := pRules (getD r1 k)) (df' := pDf (getD r1 k)) (df := w.df) (sq := w.sq) (t := w.t) (R := w.R) (q := w.C.map cQ) (d := w.d) S.rep (by omega) S.ok (by omega) (by omega) (by omega) with ⟨e, g1, g2, g3, g4⟩ | ⟨hb, r', g1, g2⟩
 ·refine Z8 g3 ?_
  dsimp only
  refine Z8 S.snap ?_
  dsimp only
  refine Z8 S.same ?_
  have tail := Zpg (y28 := e) hk hkl hp S F (by omega) (fun h => g2.1 h)
  by_cases he : ieq e 0 = true
  ·rw [if_pos he]
   refine Z8 (Z6f (by omega) S.rl) ?_
   dsimp only
   refine Z8 (S.own false) ?_
   dsimp only
   rw [if_pos (by rw [pieq])]
   refine Z8 S.snap ?_
   dsimp only
   refine Z8 S.same ?_
   rw [if_pos rfl]
   exact tail
  rw [if_neg he, if_pos rfl]
  refine Z8 (Z6f (by omega) S.rl) ?_
  dsimp only
  refine Z8 (Z6v (by omega) S.rl) ?_
  dsimp only
  refine Z8 (Z6v (by omega) S.rl) ?_
  dsimp only
  refine Z8 e25 ?_
  rw [if_pos rfl]
  refine Z8 (S.own false) ?_
  dsimp only
  rw [if_pos (by rw [pieq])]
  refine Z8 S.snap ?_
  dsimp only
  refine Z8 S.same ?_
  rw [if_pos rfl]
  exact tail
 obtain ⟨k1, k2⟩ := S.apply (s1 := D.toS (D.fld (getD r1 k) 0)) (b1 := D.toB (D.fld (getD r1 k) 1)) (by omega) (by omega) (hp.ud k hkl) (Z24 hb) g2
 have F' := F.ev k2
 obtain ⟨c, hc⟩ := Zsc (x := w.sq) (x' := w.sq) (t := w.t) (t' := 0) (l := tokensS w.C.length w.g) (l' := tokensS (pCls (getD r1 k)).length fun c => newA (getD (pCls (getD r1 k)) c) (lastB w.g (cKey (getD (pCls (getD r1 k)) c)) w.C.length) (accQ (clsA (pRules (getD r1 k)) (pDf (getD r1 k))) (qsOf w.g) c w.C.length)) (d := w.d) (d' := List.replicate (pCls (getD r1 k)).length 0) (b := w.ad) (b' := false) (r := queuesS w.C.length w.g) (r' := queuesS (pCls (getD r1 k)).length fun c => newA (getD (pCls (getD r1 k)) c) (lastB w.g (cKey (getD (pCls (getD r1 k)) c)) w.C.length) (accQ (clsA (pRules (getD r1 k)) (pDf (getD r1 k))) (qsOf w.g) c w.C.length)) (by rw [Z68]; omega) (by have := S.ring.l; simp at this; omega) (by rw [Zx]; omega) (fun i hi => by
  rw [Zx] at hi
  rw [Z6a hi, List.length_map]; have := (S.ok i hi).n; omega)
 have tail := Zpg (y28 := 0) hk hkl hp k1 F' (by omega) (fun h => by rw [hb] at h; cases h)
 have s1 := k1.snap
 have s2 := k1.own false
 have s3 := k1.same
 dsimp only at tail s1 s2 s3
 refine Z8 g1 ?_
 dsimp only
 refine Z8 s1 ?_
 dsimp only
 refine Z8 hc ?_
 rw [if_pos (by rw [pieq])]
 refine Z8 (Z6f (by omega) (by omega)) ?_
 dsimp only
 refine Z8 s2 ?_
 dsimp only
 rw [if_pos (by rw [pieq])]
 refine Z8 s1 ?_
 dsimp only
 refine Z8 s3 ?_
 rw [if_pos rfl]
 exact tail
theorem Zmw {r1 r2 : List D} {x1 : Int} (hp : PortsOk r1) (hx1 : 0 ≤ x1 ∧ x1 < 256) (hn : r2.length ≤ 300) (hx : stepsOk r2) : ∀ (m i : Nat) (w : W) (r : List D), i + m = r2.length → SW w r i → Fl w →
  iter (Z59 r2 r1 x1) ((i : Int), w.key, w.up, w.df, w.sq, w.C, w.R, w.C.length, w.t, w.ad, r, w.C.map cQ, w.d) = some true
 | 0, i, w, r, hm, S, F => by
  have : i = r2.length := by omega
  subst this
  exact Zb (Zzi hp hx1 S F hn)
 | m + 1, i, w, r, hm, S, F => by
  have hi : i < r2.length := by omega
  obtain ⟨h4, h5⟩ := hx i hi
  obtain ⟨a, b, w', r', hdo, S', E, _⟩ := Zwj (x1 := D.toI (D.fld (getD r2 i) 0)) (x2 := D.toI (D.fld (getD r2 i) 1)) (x3 := D.toI (D.fld (getD r2 i) 2)) (x4 := D.toI (D.fld (getD r2 i) 3)) (x5 := D.toI (D.fld (getD r2 i) 4)) hp S (by omega) h4 h5
  rw [← Zmw hp hx1 hn hx m (i + 1) w' r' (by omega) S' (F.ev E)]
  apply Ze
  unfold Z59
  dsimp only
  rw [if_pos (by rw [pilt]; simp only [ofN, xlen]; omega), if_pos (by simp only [ofN, xlen]; omega), ptoN, pnext (by omega)]
  exact Z8 hdo rfl
theorem SW.start {s : List UInt8} {b : Bool} {C R r' : List D} {df : Int} (hb : rightB C R df = true) (hr : R.length ≤ 1000000) (hU : clsU C) (e2 : Rep r' C.length fun i => freshA (getD C i)) :
  SW ⟨s, b, df, 0, C, R, 0, false, List.replicate C.length 0, fun i => freshA (getD C i)⟩ r' 0 := by
 have hP := Z24 hb
 have hn1 := hP.n1
 have hn8 := hP.n8
 refine ⟨hP, hr, hU, e2, fun j hj => ?_, fun j hj => ⟨_, _, rfl⟩, ⟨by dsimp only; omega, by dsimp only; simp; omega, by dsimp only; simp; omega, by dsimp only; simp, fun x hx => ?_, fun x hx => ?_⟩, by dsimp only; omega, ?_⟩
 ·have := hU _ (show getD C j ∈ C by rw [pgetD hj]; exact List.getElem_mem hj)
  exact ⟨this.1, this.2.1, this.2.2, this.2.2, by simp [freshA], by simp [freshA]⟩
 ·obtain ⟨d, hd, rfl⟩ := List.mem_map.1 hx
  exact (hU d hd).1
 ·have := List.eq_of_mem_replicate hx
  subst this; unfold U; omega
 have : qsOf (fun i => freshA (getD C i)) = fun _ => [] := rfl
 dsimp only
 rw [this, Zd5]
 exact Nat.le_refl _
theorem Zyb {r1 r2 : List D} {x1 : Int} (h1 : r1.length ≤ maxLen) (hc : ∀ i, i < r1.length → clsU (pCls (getD r1 i))) (hx : stepsOk r2) (hx1 : 0 ≤ x1 ∧ x1 < 256) : Z3m r1 r2 x1 = some true := by
 unfold Z3m
 refine Z8 Z102 ?_
 rw [if_pos rfl]
 refine Z8 (Z10e h1) ?_
 dsimp only
 by_cases cf : fewB r1 r2 = true
 ·obtain ⟨f1, f2, f3, f4⟩ := Ztp cf
  rw [if_pos cf, if_pos (by simp only [ofN, xlen]; omega), show (toN (0 : Int)) = 0 from rfl]
  obtain ⟨f5, f6⟩ := f4 0 (by omega)
  rcases Zu6 (s := D.toS (D.fld (getD r1 0) 0)) (b := D.toB (D.fld (getD r1 0) 1)) (r1 := pCls (getD r1 0)) (r2 := pRules (getD r1 0)) (df := pDf (getD r1 0)) (by omega) (by omega) with ⟨_, e1⟩ | ⟨hb, r', e1, e2⟩
  ·exact Z8 e1 rfl
  refine Z8 e1 ?_
  exact Zmw ⟨⟨f1, f2⟩, fun i hi => (f4 i hi).1, fun i hi => (f4 i hi).2, hc⟩ hx1 f3 hx r2.length 0 _ r' (by omega) (SW.start (s := D.toS (D.fld (getD r1 0) 0)) (b := D.toB (D.fld (getD r1 0) 1)) hb (by omega) (hc 0 (by omega)) e2) (fun c hc p hp => absurd hp (by simp [freshA]))
 rw [if_neg cf]
theorem Z10t (r1 r2 : List D) (x1 : Int) (h1 : (Ty.row 33 (.st [.str, .bool, .row 83 (.st [.str, .int .u64, .int .u64, .int .u64, .int .i64, .bool]), .st [.row 96 (.st [.int .i64, .int .i64, .int .i64]), .int .i64]])).rng (.l r1))
  (h2 : (Ty.row 58 (.st [.int .i64, .int .i64, .int .i64, .int .u64, .int .u8])).rng (.l r2)) (h3 : (Lit.int .u8 x1).wf = true) : Z3m r1 r2 x1 = some true := by
 refine Zyb h1.1 (fun i hi => ?_) (fun i hi => ?_) (Zll h3)
 ·exact Zsq (h1.2 _ (by rw [pgetD hi]; exact List.getElem_mem hi))
 have := h2.2 (getD r2 i) (by rw [pgetD hi]; exact List.getElem_mem hi)
 simp only [Ty.rng, Ty.rngL] at this
 exact ⟨Z7e this.2.2.2.1, Zll this.2.2.2.2.1⟩
end Go.Proofs.Ytojbpjcfdjakkaa
end
