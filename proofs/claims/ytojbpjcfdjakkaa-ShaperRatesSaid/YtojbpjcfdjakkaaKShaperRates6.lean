/-
  Texts that the row of this claim stands on, one behind the other.
-/
import Derived.Test.YtojbpjcfdjakkaaKShaperRates1
import Derived.Test.YtojbpjcfdjakkaaKShaperRates2
import Derived.Test.YtojbpjcfdjakkaaKShaperRates3
import Derived.Test.YtojbpjcfdjakkaaKShaperRates4
import Derived.Test.YtojbpjcfdjakkaaKShaperRates5
section
/-
  A new shaper, whether a port may be, whether two are the same; how many packets wait; what a shaper has.
-/
set_option linter.unusedVariables false
set_option linter.unusedSimpArgs false
namespace Go.Proofs.Ytojbpjcfdjakkaa
def allN (n : Nat) (P : Nat → Bool) : Bool := (List.range n).all P
theorem allN_iff {n : Nat} {P : Nat → Bool} : allN n P = true ↔ ∀ i, i < n → P i = true := by
 simp [allN, List.all_eq_true]
theorem iter_all {B : Int → Option (Int ⊕ Bool)} {P : Nat → Bool} {n : Nat} {e : Bool} (hs : ∀ i, i < n → B (i : Int) = if P i = true then some (.inl ((i + 1 : Nat) : Int)) else some (.inr false))
  (he : B (n : Int) = some (.inr e)) : iter B (0 : Int) = some (allN n P && e) := by
 have key : ∀ (m i : Nat), i + m = n → (∀ j, j < i → P j = true) → iter B (i : Int) = some (allN n P && e) := by
  intro m
  induction m with
  | zero =>
   intro i hi hp
   have : i = n := by omega
   subst this
   rw [iter_inr he, allN_iff.2 hp, Bool.true_and]
  | succ m ih =>
   intro i hi hp
   by_cases c : P i = true
   ·rw [iter_inl ((hs i (by omega)).trans (if_pos c))]
    exact ih (i + 1) (by omega) fun j hj => by
     by_cases e : j = i
     ·subst e; exact c
     ·exact hp j (by omega)
   ·rw [iter_inr ((hs i (by omega)).trans (if_neg c))]
    have : allN n P = false := by
     cases h : allN n P with
     | false => rfl
     | true => exact absurd (allN_iff.1 h i (by omega)) c
    rw [this, Bool.false_and]
 exact key n 0 (by omega) fun j hj => by omega
def cKey (d : D) : List UInt8 := (d.fld 0).toS
def cQ (d : D) : Int := (d.fld 1).toI
def cLim (d : D) : Int := (d.fld 4).toI
def clsOk (r1 : List D) (i : Nat) : Bool :=
 !decide (cQ (getD r1 i) < 1500) && !decide (cLim (getD r1 i) < 1) && !decide (64 < cLim (getD r1 i)) && (decide (i = 0) || slt (cKey (getD r1 (i - 1))) (cKey (getD r1 i)))
def inN (n : Nat) (x : Int) : Bool := decide (0 ≤ x) && decide (x < (n : Int))
def rightB (r1 r2 : List D) (df : Int) : Bool :=
 !decide (r1.length < 1) && !decide (8 < r1.length) && inN r1.length df && (allN r1.length (clsOk r1) && (allN r2.length (fun i => inN r1.length ((getD r2 i).fld 2).toI) && true))
theorem p_in {x : Int} {n : Nat} : F_shaper_RightIn x (ofN n) = some (inN n x) := by
 unfold F_shaper_RightIn inN
 simp only [pile]
 by_cases h : 0 ≤ x
 ·rw [if_pos h]; show some (decide (x < (n : Int))) = _; simp [h]
 ·rw [if_neg h]; simp [h]
theorem p_rightL1 {r1 r2 : List D} (hn : r1.length ≤ 1000000) (i : Nat) (hi : i < r1.length) : F_shaper_Right_3_L1 r1 r2 (i : Int) = if clsOk r1 i = true then some (.inl ((i + 1 : Nat) : Int)) else some (.inr false) := by
 unfold F_shaper_Right_3_L1
 dsimp only
 rw [if_pos (by rw [pilt]; simp only [ofN, xlen]; omega), if_pos (by simp only [ofN, xlen]; omega), ptoN]
 unfold clsOk
 have e1 : D.toI (D.fld (getD r1 i) 1) = cQ (getD r1 i) := rfl
 have e2 : D.toI (D.fld (getD r1 i) 4) = cLim (getD r1 i) := rfl
 rw [e1, e2]
 simp only [pilt]
 by_cases c1 : cQ (getD r1 i) < 1500
 ·rw [if_pos c1]; simp [c1]
 rw [if_neg c1]
 by_cases c2 : cLim (getD r1 i) < 1
 ·rw [if_pos c2]; simp [c2]
 rw [if_neg c2]
 by_cases c3 : 64 < cLim (getD r1 i)
 ·rw [if_pos c3]; simp [c3]
 rw [if_neg c3]
 simp only [c1, c2, c3, decide_false, Bool.not_false, Bool.true_and]
 by_cases c4 : i = 0
 ·subst c4
  rw [if_neg (by omega), pnext (by omega)]
  simp
 ·rw [if_pos (by omega)]
  have e3 : isub .i64 (i : Int) 1 = ((i - 1 : Nat) : Int) := by simp only [isub]; rw [pwi64 (by omega) (by omega)]; omega
  rw [e3, if_pos (by simp only [ofN, xlen]; omega), ptoN, pnext (by omega)]
  simp only [c4, decide_false, Bool.false_or]
  rfl
theorem p_right {s : List UInt8} {b : Bool} {r1 r2 : List D} {df : Int} (hn : r1.length ≤ 1000000) (hr : r2.length ≤ 1000000) : F_shaper_Right_3 s b r1 r2 df = some (rightB r1 r2 df) := by
 unfold F_shaper_Right_3 rightB
 simp only [pilt, ofN, xlen]
 by_cases c1 : r1.length < 1
 ·rw [if_pos (by omega)]; simp [c1]
 rw [if_neg (by omega)]
 by_cases c2 : 8 < r1.length
 ·rw [if_pos (by omega)]; simp [c2]
 rw [if_neg (by omega)]
 have hin : F_shaper_RightIn df (r1.length : Int) = some (inN r1.length df) := p_in
 rw [hin, bindO_some]
 by_cases c3 : inN r1.length df = true
 ·rw [if_pos c3]
  simp only [c1, c2, c3, decide_false, Bool.not_false, Bool.true_and]
  refine iter_all (P := clsOk r1) (n := r1.length) (fun i hi => p_rightL1 hn i hi) ?_
  unfold F_shaper_Right_3_L1
  dsimp only
  rw [if_neg (by rw [pilt]; simp only [ofN, xlen]; omega)]
  have := iter_all (B := F_shaper_Right_3_L2 r2 r1) (P := fun i => inN r1.length ((getD r2 i).fld 2).toI) (n := r2.length) (e := true) (fun i hi => by
   unfold F_shaper_Right_3_L2
   dsimp only
   rw [if_pos (by rw [pilt]; simp only [ofN, xlen]; omega), if_pos (by simp only [ofN, xlen]; omega), ptoN]
   have h2 : F_shaper_RightIn (D.toI (D.fld (getD r2 i) 2)) (ofN (xlen r1)) = some (inN r1.length ((getD r2 i).fld 2).toI) := p_in
   rw [h2, bindO_some, pnext (by omega)]) (by
   unfold F_shaper_Right_3_L2
   dsimp only
   rw [if_neg (by rw [pilt]; simp only [ofN, xlen]; omega)])
  rw [this]
  rfl
 ·rw [if_neg c3]
  simp [c3]
structure RightP (r1 r2 : List D) (df : Int) : Prop where
 n1 : 1 ≤ r1.length
 n8 : r1.length ≤ 8
 df : 0 ≤ df ∧ df < (r1.length : Int)
 q : ∀ i, i < r1.length → 1500 ≤ cQ (getD r1 i)
 lim : ∀ i, i < r1.length → 1 ≤ cLim (getD r1 i) ∧ cLim (getD r1 i) ≤ 64
 keys : ∀ i, i + 1 < r1.length → slt (cKey (getD r1 i)) (cKey (getD r1 (i + 1))) = true
 rules : ∀ d ∈ r2, 0 ≤ (d.fld 2).toI ∧ (d.fld 2).toI < (r1.length : Int)
theorem rightB_P {r1 r2 : List D} {df : Int} (h : rightB r1 r2 df = true) : RightP r1 r2 df := by
 unfold rightB at h
 simp only [Bool.and_eq_true, Bool.not_eq_true', decide_eq_false_iff_not, allN_iff, and_true, inN, decide_eq_true_eq] at h
 obtain ⟨⟨⟨h1, h2⟩, h3⟩, h4, h5⟩ := h
 have h6 : ∀ i, i < r1.length → (¬ cQ (getD r1 i) < 1500) ∧ (¬ cLim (getD r1 i) < 1) ∧ (¬ 64 < cLim (getD r1 i)) ∧ (i = 0 ∨ slt (cKey (getD r1 (i - 1))) (cKey (getD r1 i)) = true) := fun i hi => by
  have := h4 i hi
  simp only [clsOk, Bool.and_eq_true, Bool.or_eq_true, Bool.not_eq_true', decide_eq_false_iff_not, decide_eq_true_eq] at this
  obtain ⟨⟨⟨a, b⟩, c⟩, d⟩ := this
  exact ⟨a, b, c, d⟩
 refine ⟨by omega, by omega, h3, fun i hi => ?_, fun i hi => ?_, fun i hi => ?_, fun d hd => ?_⟩
 ·obtain ⟨a, b, c, d⟩ := h6 i hi; omega
 ·obtain ⟨a, b, c, d⟩ := h6 i hi; omega
 ·obtain ⟨a, b, c, d⟩ := h6 (i + 1) hi
  rcases d with d | d
  ·omega
  ·simpa using d
 ·obtain ⟨j, hj, rfl⟩ := List.getElem_of_mem hd
  have := h5 j hj
  rw [pgetD hj] at this
  exact this
theorem right_nil {s : List UInt8} {b : Bool} {x : Int} {r1 : List D} : F_shaper_Right s b x r1 = F_shaper_Right_3 s b r1 [] x := by
 have hL : F_shaper_Right_L1 r1 = F_shaper_Right_3_L1 r1 [] := by
  funext i
  unfold F_shaper_Right_L1 F_shaper_Right_3_L1
  have e1 : iter F_shaper_Right_L2 () = some true := iter_inr (by unfold F_shaper_Right_L2; rw [if_neg (by rw [pilt]; simp only [ofN]; omega)])
  have e2 : iter (F_shaper_Right_3_L2 [] r1) (0 : Int) = some true := iter_inr (by unfold F_shaper_Right_3_L2; dsimp only; rw [if_neg (by rw [pilt]; simp [ofN, xlen])])
  dsimp only
  rw [e1, e2]
 unfold F_shaper_Right F_shaper_Right_3
 rw [hL]
def freshA (d : D) : A := { key := cKey d, q := cQ d, r := (d.fld 2).toI, b := (d.fld 3).toI, lim := cLim d, sh := (d.fld 5).toB, br := (d.fld 2).toI, bb := (d.fld 3).toI, bt := (d.fld 3).toI, ql := cLim d, l := [] }
theorem p_cloneC {l : List D} (h : l.length ≤ 1000000) : cloneC l = some l := by
 unfold cloneC
 rw [if_pos (by simp only [xlen]; simp; omega)]
theorem p_cloneR {l : List D} (h : l.length ≤ 1000000) : cloneR l = some l := by
 unfold cloneR
 rw [if_pos (by simp only [xlen]; simp; omega)]
theorem p_own {s : List UInt8} {b : Bool} {r1 r2 : List D} {x : Int} (hn : r1.length ≤ 1000000) (hr : r2.length ≤ 1000000) : F_shaper_own_3 s b r1 r2 x = some (r1, r2) := by
 unfold F_shaper_own_3
 rw [p_cloneC hn, bindO_some]
 dsimp only
 rw [p_cloneR hr]
 rfl
theorem p_byL {r1 q1 q2 : List D} (hn : r1.length ≤ 1000) : ∃ r', iter (F_shaper_Shaper_by_2_L1 r1 q1 q2) ((0 : Int), ([] : List Int), 0, ([] : List D)) = some (q1, q2, r1.length, r', r1.map cQ, List.replicate r1.length 0) ∧ Rep r' r1.length fun i => freshA (getD r1 i) := by
 have key : ∀ (m i : Nat) (r3 : List D), i + m = r1.length → r3.length = i → (∀ j, j < i → RC (r3.getD j (.i 0)) (freshA (getD r1 j))) →
   ∃ r', iter (F_shaper_Shaper_by_2_L1 r1 q1 q2) ((i : Int), (r1.take i).map cQ, i, r3) = some (q1, q2, r1.length, r', r1.map cQ, List.replicate r1.length 0) ∧ Rep r' r1.length fun i => freshA (getD r1 i) := by
  intro m
  induction m with
  | zero =>
   intro i r3 hi h3 hp
   have hi' : i = r1.length := by omega
   subst hi'
   refine ⟨r3, iter_inr ?_, h3, hp⟩
   unfold F_shaper_Shaper_by_2_L1
   dsimp only
   rw [if_neg (by rw [pilt]; simp only [ofN, xlen]; omega), List.take_length, p_new (by simpa using hn), bindO_some]
   simp
  | succ m ih =>
   intro i r3 hi h3 hp
   have hl : i < r1.length := by omega
   obtain ⟨r', h1, h2⟩ := ih (i + 1) (r3 ++ [encA (freshA (getD r1 i)) [] 0]) (by omega) (by simp [h3]) (fun j hj => by
    by_cases e : j < i
    ·rw [getD_append_l (by omega)]; exact hp j e
    ·have : j = i := by omega
     subst this
     have : (r3 ++ [encA (freshA (getD r1 j)) [] 0]).getD j (.i 0) = encA (freshA (getD r1 j)) [] 0 := by
      rw [List.getD_eq_getElem?_getD, List.getElem?_append_right (by omega)]; simp [h3]
     rw [this]
     exact ⟨[], 0, rfl, QR.nil⟩)
   refine ⟨r', ?_, h2⟩
   rw [← h1]
   apply iter_inl
   unfold F_shaper_Shaper_by_2_L1
   dsimp only
   rw [if_pos (by rw [pilt]; simp only [ofN, xlen]; omega), if_pos (by simp only [ofN, xlen]; omega), ptoN]
   unfold F_bucket_New
   rw [bindO_some]
   unfold F_fifo_New
   rw [bindO_some]
   rw [if_pos (by omega), if_pos (by simp only [xlen, List.length_map, List.length_take, List.length_cons, List.length_nil]; omega), pnext (by omega)]
   have e : (r1.take (i + 1)).map cQ = cat ((r1.take i).map cQ) [D.toI (D.fld (getD r1 i) 1)] := by
    rw [List.take_succ_eq_append_getElem hl, List.map_append, pgetD hl]; rfl
   rw [e]
   rfl
 exact key r1.length 0 [] (by omega) rfl fun j hj => by omega
theorem p_by {s s2 : List UInt8} {b b2 : Bool} {r1 r2 : List D} {df x2 x3 : Int} (hn : r1.length ≤ 1000) (hr : r2.length ≤ 1000000) : ∃ r', F_shaper_Shaper_by_2 s b r1 r2 df s2 b2 x2 x3 = some (r1, r2, r1.length, r', r1.map cQ, List.replicate r1.length 0) ∧ Rep r' r1.length fun i => freshA (getD r1 i) := by
 unfold F_shaper_Shaper_by_2
 rw [p_own (by omega) hr, bindO_some]
 exact p_byL hn
theorem p_newS {s : List UInt8} {b : Bool} {r1 r2 : List D} {df : Int} (hn : r1.length ≤ 1000000) (hr : r2.length ≤ 1000000) :
  (rightB r1 r2 df = false ∧ F_shaper_New_2 s b r1 r2 df = some (.inl ())) ∨
  (rightB r1 r2 df = true ∧ ∃ r', F_shaper_New_2 s b r1 r2 df = some (.inr (r1, r2, r1.length, r', r1.map cQ, List.replicate r1.length 0)) ∧ Rep r' r1.length fun i => freshA (getD r1 i)) := by
 unfold F_shaper_New_2
 rw [p_right hn hr, bindO_some]
 cases c : rightB r1 r2 df with
 | false => exact .inl ⟨rfl, rfl⟩
 | true =>
  have := (rightB_P c).n8
  obtain ⟨r', h1, h2⟩ := p_by (s := s) (s2 := []) (b := b) (b2 := false) (r1 := r1) (r2 := r2) (df := df) (x2 := 0) (x3 := 0) (by omega) hr
  refine .inr ⟨rfl, r', ?_, h2⟩
  rw [h1]
  rfl
theorem p_newN {s : List UInt8} {b : Bool} {r1 : List D} {df : Int} (hn : r1.length ≤ 1000000) (hb : rightB r1 [] df = true) :
  ∃ r', F_shaper_New s b df r1 = some (.inr (r1, [], r1.length, r', r1.map cQ, List.replicate r1.length 0)) ∧ Rep r' r1.length fun i => freshA (getD r1 i) := by
 unfold F_shaper_New
 rw [right_nil, p_right hn (by simp), bindO_some, hb]
 have := (rightB_P hb).n8
 have hL : F_shaper_Shaper_by_L1 r1 = F_shaper_Shaper_by_2_L1 r1 := rfl
 obtain ⟨r', h1, h2⟩ := p_byL (q1 := r1) (q2 := []) (r1 := r1) (by omega)
 refine ⟨r', ?_, h2⟩
 dsimp only
 rw [if_pos rfl]
 unfold F_shaper_Shaper_by F_shaper_own
 rw [p_cloneC hn, bindO_some]
 dsimp only
 rw [p_cloneR (by simp), bindO_some]
 dsimp only [bindO]
 rw [hL, h1]
def cntS : Nat → (Nat → A) → Nat
 | 0, _ => 0
 | n + 1, g => cntS n g + (g n).l.length
theorem p_len {s : List UInt8} {b b2 : Bool} {df seq x : Int} {r1 r2 r : List D} {n : Nat} {l1 l2 : List Int} {g : Nat → A} (hR : Rep r n g) (hn : n ≤ 1000) (hg : ∀ i, i < n → AOk (g i)) :
  F_shaper_Shaper_Len s b df seq r1 r2 n x b2 r l1 l2 = some ((cntS n g : Int), r) := by
 unfold F_shaper_Shaper_Len
 have hle : ∀ i, i ≤ n → cntS i g ≤ 100000 * i := by
  intro i
  induction i with
  | zero => intro _; simp [cntS]
  | succ i ih => intro h; have := ih (by omega); have := (hg i (by omega)).n; simp only [cntS]; omega
 have key : ∀ (m i : Nat), i + m = n → iter (F_shaper_Shaper_Len_L1 n) ((cntS i g : Int), (i : Int), r) = some ((cntS n g : Int), r) := by
  intro m
  induction m with
  | zero =>
   intro i hi
   have : i = n := by omega
   subst this
   apply iter_inr
   unfold F_shaper_Shaper_Len_L1
   dsimp only
   rw [if_neg (by rw [pilt]; simp only [ofN]; omega)]
  | succ m ih =>
   intro i hi
   have hin : i < n := by omega
   rw [← ih (i + 1) (by omega)]
   obtain ⟨ring, f, he, hq⟩ := hR.at_ i hin
   have he' : getD r i = encA (g i) ring f := he
   have := hle i (by omega)
   have := (hg i hin).n
   apply iter_inl
   unfold F_shaper_Shaper_Len_L1 F_fifo_Queue_Len
   dsimp only [bindO]
   rw [if_pos (by rw [pilt]; simp only [ofN]; omega), if_pos (by simp only [ofN]; omega), ptoN, he', pnext (by omega)]
   have e : iadd .i64 (cntS i g : Int) ((g i).l.length : Int) = ((cntS (i + 1) g : Nat) : Int) := by simp only [iadd, cntS]; rw [pwi64 (by omega) (by omega)]; omega
   have hset : setD r i (encA (g i) ring f) = r := setD_same he'
   rw [← e]
   exact congrArg (fun z => some (Sum.inl (_, _, z))) hset
 exact key n 0 (by omega)
theorem p_allM {lim : Int} {f n : Nat} {r : List D} {l : List Pk} (h : QR f n r l) (hn : n ≤ 400000) : F_fifo_Queue_All lim (f : Int) (n : Int) r = some (l.map mkP) := by
 unfold F_fifo_Queue_All F_fifo_Queue_Len
 dsimp only [bindO]
 have hle := h.le
 have hbig := h.big
 have hl := h.hn
 have key : ∀ (m i : Nat), i + m = n → iter (F_fifo_Queue_All_L1 (n : Int) lim (f : Int) r) ((i : Int), (l.take i).map mkP) = some (l.map mkP) := by
  intro m
  induction m with
  | zero =>
   intro i hi
   apply iter_inr
   unfold F_fifo_Queue_All_L1
   dsimp only
   rw [if_neg (by rw [pilt]; omega), List.take_of_length_le (by omega)]
  | succ m ih =>
   intro i hi
   have hf : f < r.length := by rcases h.hf with hf | ⟨rfl, _⟩; exact hf; simp at hle; omega
   have hlt : (f + i) % r.length < r.length := Nat.mod_lt _ (by omega)
   rw [← ih (i + 1) (by omega)]
   apply iter_inl
   unfold F_fifo_Queue_All_L1
   dsimp only
   rw [if_pos (by rw [pilt]; omega), p_at (by omega) (by omega) (by omega), bindO_some]
   rw [if_pos (by simp only [ofN, xlen]; omega), if_pos (by simp only [xlen, List.length_map, List.length_take, List.length_cons, List.length_nil]; omega), pnext (by omega), ptoN]
   have e : (l.take (i + 1)).map mkP = cat ((l.take i).map mkP) [mkP (pk (getD r ((f + i) % r.length)))] := by
    have h3 : pk (getD r ((f + i) % r.length)) = l[i]'(by omega) := h.at_ i (by omega)
    rw [List.take_succ_eq_append_getElem (by omega), List.map_append, h3]; rfl
   rw [e]
   rfl
 exact key n 0 (by omega)
def queuesS (n : Nat) (g : Nat → A) : List D := (List.range n).map fun i => .l ((g i).l.map mkP)
theorem p_queues {s : List UInt8} {b b2 : Bool} {df seq x : Int} {r1 r2 r : List D} {n : Nat} {l1 l2 : List Int} {g : Nat → A} (hR : Rep r n g) (hn : n ≤ 1000) (hg : ∀ i, i < n → AOk (g i)) :
  F_shaper_Shaper_queues s b df seq r1 r2 n x b2 r l1 l2 = some (queuesS n g, r) := by
 unfold F_shaper_Shaper_queues
 have key : ∀ (m i : Nat), i + m = n → iter (F_shaper_Shaper_queues_L1 n) ((i : Int), queuesS i g, r) = some (queuesS n g, r) := by
  intro m
  induction m with
  | zero =>
   intro i hi
   have : i = n := by omega
   subst this
   apply iter_inr
   unfold F_shaper_Shaper_queues_L1
   dsimp only
   rw [if_neg (by rw [pilt]; simp only [ofN]; omega)]
  | succ m ih =>
   intro i hi
   have hin : i < n := by omega
   rw [← ih (i + 1) (by omega)]
   obtain ⟨ring, f, he, hq⟩ := hR.at_ i hin
   have he' : getD r i = encA (g i) ring f := he
   have := (hg i hin).n
   have hb : queuesS (i + 1) g = cat (queuesS i g) [.l ((g i).l.map mkP)] := by simp [queuesS, List.range_succ, cat]
   have hl : (queuesS i g).length = i := by simp [queuesS]
   apply iter_inl
   unfold F_shaper_Shaper_queues_L1
   dsimp only
   rw [if_pos (by rw [pilt]; simp only [ofN]; omega), if_pos (by simp only [ofN]; omega), ptoN, he']
   refine (congrArg (fun o => bindO o _) (p_allM (lim := (g i).ql) hq (by omega))).trans ?_
   rw [bindO_some]
   rw [if_pos (by simp only [xlen, List.length_cons, List.length_nil]; omega), pnext (by omega), hb]
   have hset : setD r i (encA (g i) ring f) = r := setD_same he'
   exact congrArg (fun z => some (Sum.inl (_, _, z))) hset
 exact key n 0 (by omega)
def tokensS (n : Nat) (g : Nat → A) : List Int := (List.range n).map fun i => (g i).bt
theorem p_snap {s : List UInt8} {b b2 : Bool} {df seq x : Int} {r1 r2 r : List D} {n : Nat} {l1 l2 : List Int} {g : Nat → A} (hR : Rep r n g) (hn : n ≤ 1000) (h2 : l2.length ≤ 1000) (hg : ∀ i, i < n → AOk (g i)) :
  F_shaper_Shaper_Snap s b df seq r1 r2 n x b2 r l1 l2 = some (tokensS n g, l2, queuesS n g, r) := by
 unfold F_shaper_Shaper_Snap
 rw [p_state h2, bindO_some]
 dsimp only
 rw [p_queues hR hn hg, bindO_some]
 dsimp only
 have key : ∀ (m i : Nat), i + m = n → iter (F_shaper_Shaper_Snap_L1 n l2 (queuesS n g)) ((i : Int), r, tokensS i g) = some (tokensS n g, l2, queuesS n g, r) := by
  intro m
  induction m with
  | zero =>
   intro i hi
   have : i = n := by omega
   subst this
   apply iter_inr
   unfold F_shaper_Shaper_Snap_L1
   dsimp only
   rw [if_neg (by rw [pilt]; simp only [ofN]; omega)]
  | succ m ih =>
   intro i hi
   have hin : i < n := by omega
   rw [← ih (i + 1) (by omega)]
   obtain ⟨ring, f, he, hq⟩ := hR.at_ i hin
   have he' : getD r i = encA (g i) ring f := he
   have hb : tokensS (i + 1) g = cat (tokensS i g) [(g i).bt] := by simp [tokensS, List.range_succ, cat]
   have hl : (tokensS i g).length = i := by simp [tokensS]
   apply iter_inl
   unfold F_shaper_Shaper_Snap_L1
   dsimp only
   rw [if_pos (by rw [pilt]; simp only [ofN]; omega), if_pos (by simp only [ofN]; omega), ptoN, he']
   rw [if_pos (by simp only [xlen, List.length_cons, List.length_nil]; omega), pnext (by omega), hb]
   have hset : setD r i (encA (g i) ring f) = r := setD_same he'
   exact congrArg (fun z => some (Sum.inl (_, z, _))) hset
 exact key n 0 (by omega)
end Go.Proofs.Ytojbpjcfdjakkaa
end
section
/-
  The document's example of a shaper.
-/
set_option linter.unusedVariables false
set_option linter.unusedSimpArgs false
namespace Go.Proofs.Ytojbpjcfdjakkaa
theorem bindO_step {α β : Type} {o : Option α} {k : α → Option β} {r : β} {a : α} (e : o = some a) (h : k a = some r) : bindO o k = some r := by
 rw [e]; exact h
theorem Rep.one {r : List D} {n : Nat} {g : Nat → A} {a : A} (h : Rep r n g) (hn : n = 1) (e : g 0 = a) : Rep r 1 (fun _ => a) := by
 subst hn
 refine h.congr fun j hj => ?_
 have : j = 0 := by omega
 subst this
 exact e.symm
def exC : D := .l [.s [120], .i 1500, .i 10, .i 100, .i 2, .b true]
def exA (bt : Int) (l : List Pk) : A := { key := [120], q := 1500, r := 10, b := 100, lim := 2, sh := true, br := 10, bb := 100, bt := bt, ql := 2, l := l }
theorem exA_ok {bt : Int} {l : List Pk} (h : 0 ≤ bt ∧ bt ≤ 100) (hn : l.length ≤ 10) (hs : ∀ p ∈ l, 1 ≤ p.2.2 ∧ p.2.2 ≤ 1500) : ∀ i, i < 1 → AOk ((fun _ => exA bt l) i) := fun i _ =>
 ⟨by unfold U exA; dsimp only; omega, by unfold U exA; dsimp only; omega, by unfold U exA; dsimp only; omega, by unfold U exA; dsimp only; omega, by unfold exA; dsimp only; omega, hs⟩
theorem p_sameC : F_slices_EqualC [exC] [exC] = some true := by
 unfold F_slices_EqualC
 rw [if_pos (by rw [pieq])]
 refine (iter_inl (y := (1 : Int)) ?_).trans (iter_inr ?_)
 ·unfold F_slices_EqualC_L1
  dsimp only
  rw [if_pos (by rw [pilt]; decide), if_pos (by decide), if_pos (by decide)]
  rfl
 ·unfold F_slices_EqualC_L1
  dsimp only
  rw [if_neg (by rw [pilt]; decide)]
theorem p_sameR : F_slices_EqualR [] [] = some true := by
 unfold F_slices_EqualR
 rw [if_pos (by rw [pieq])]
 refine iter_inr ?_
 unfold F_slices_EqualR_L1
 dsimp only
 rw [if_neg (by rw [pilt]; decide)]
theorem p_idxQ : F_slices_IndexFuncQ [] 0 0 false = some (-1) := by
 unfold F_slices_IndexFuncQ
 refine iter_inr ?_
 unfold F_slices_IndexFuncQ_L1
 dsimp only
 rw [if_neg (by rw [pilt]; decide)]
theorem p_rightQ : F_snap_Right 0 0 false = some true := by
 unfold F_snap_Right
 rw [if_neg (by rw [pilt]; decide), if_pos (by rw [pieq]), if_pos (by rw [pieq]), if_neg (by rw [pilt]; decide), if_neg (by rw [pile]; decide)]
 refine bindO_step (a := false) ?_ rfl
 unfold F_slices_ContainsFunc
 exact bindO_step p_idxQ rfl
theorem p_right0 : F_shaper_Right_2 [] false 0 = some false := by
 unfold F_shaper_Right_2
 rw [if_pos (by rw [pilt]; decide)]
theorem q1500 : ∀ x ∈ [(1500 : Int)], U x := by intro x hx; simp at hx; subst hx; unfold U; omega
theorem rok {d : Int} (h : 0 ≤ d ∧ d ≤ 2000) : RingOk [1500] 0 [d] := ⟨by decide, by decide, by decide, rfl, q1500, by intro x hx; simp at hx; subst hx; unfold U; omega⟩
def pk1 : Pk := (1, 1, 60)
def pk2 : Pk := (2, 2, 70)
theorem p_awake : F_tollbarlaw27_awake = some true := by
 unfold F_tollbarlaw27_awake
 obtain ⟨r0, h0, R0⟩ := p_newN (s := [112]) (b := true) (r1 := [exC]) (df := 0) (by decide) (by decide)
 replace R0 : Rep r0 1 (fun _ => exA 100 []) := R0.one rfl rfl
 refine bindO_step h0 ?_
 dsimp only
 obtain ⟨r1, h1, R1⟩ := p_arrive (flow := 1) (size := 60) (seq := 0) (x5 := 0) (b2 := false) (l2 := [0]) (df := 0) (s := [112]) (b1 := true) (r1 := [exC]) (r2 := []) (l1 := [1500]) R0 (by decide) (by decide) (exA_ok (by decide) (by decide) (by simp [pk1, pk2])) (by decide)
 replace h1 : F_shaper_Shaper_Arrive 1 60 [112] true 0 0 [exC] [] 1 0 false r0 [1500] [0] = some (1, 1, 60, 0, 1, r1) := h1
 replace R1 : Rep r1 1 (fun _ => exA 100 [pk1]) := R1.one rfl rfl
 refine bindO_step h1 ?_
 dsimp only
 obtain ⟨r2, h2, R2⟩ := p_arrive (flow := 2) (size := 70) (seq := 1) (x5 := 0) (b2 := false) (l2 := [0]) (df := 0) (s := [112]) (b1 := true) (r1 := [exC]) (r2 := []) (l1 := [1500]) R1 (by decide) (by decide) (exA_ok (by decide) (by decide) (by simp [pk1, pk2])) (by decide)
 replace h2 : F_shaper_Shaper_Arrive 2 70 [112] true 0 1 [exC] [] 1 0 false r1 [1500] [0] = some (2, 2, 70, 0, 2, r2) := h2
 replace R2 : Rep r2 1 (fun _ => exA 100 [pk1, pk2]) := R2.one rfl rfl
 refine bindO_step h2 ?_
 dsimp only
 obtain ⟨r3, h3, R3⟩ := p_arrive (flow := 1) (size := 5) (seq := 2) (x5 := 0) (b2 := false) (l2 := [0]) (df := 0) (s := [112]) (b1 := true) (r1 := [exC]) (r2 := []) (l1 := [1500]) R2 (by decide) (by decide) (exA_ok (by decide) (by decide) (by simp [pk1, pk2])) (by decide)
 replace h3 : F_shaper_Shaper_Arrive 1 5 [112] true 0 2 [exC] [] 1 0 false r2 [1500] [0] = some (0, 0, 0, 35, 2, r3) := h3
 replace R3 : Rep r3 1 (fun _ => exA 100 [pk1, pk2]) := R3.one rfl rfl
 refine bindO_step h3 ?_
 dsimp only
 obtain ⟨r4, h4, R4⟩ := p_nextS (s := [112]) (up := true) (ad := false) (df := 0) (seq := 2) (t := 0) (r1 := [exC]) (r2 := []) (q := [1500]) (d := [0]) R3 (by decide) (exA_ok (by decide) (by decide) (by simp [pk1, pk2])) rfl (rok (by decide))
 replace h4 : F_shaper_Shaper_Next [112] true 0 2 [exC] [] 1 0 false r3 [1500] [0] = some (1, 1, 60, [120], true, 0, true, [1440], r4) := h4
 replace R4 : Rep r4 1 (fun _ => exA 40 [pk2]) := R4.one rfl rfl
 refine bindO_step h4 ?_
 dsimp only
 obtain ⟨r5, h5, R5⟩ := p_nextS (s := [112]) (up := true) (ad := true) (df := 0) (seq := 2) (t := 0) (r1 := [exC]) (r2 := []) (q := [1500]) (d := [1440]) R4 (by decide) (exA_ok (by decide) (by decide) (by simp [pk1, pk2])) rfl (rok (by decide))
 replace h5 : F_shaper_Shaper_Next [112] true 0 2 [exC] [] 1 0 true r4 [1500] [1440] = some (0, 0, 0, [], false, 0, false, [0], r5) := h5
 replace R5 : Rep r5 1 (fun _ => exA 40 [pk2]) := R5.one rfl rfl
 refine bindO_step h5 ?_
 dsimp only
 obtain ⟨r6, h6, R6⟩ := p_tick (x := 3) (seq := 2) (x5 := 0) (b2 := false) (l2 := [0]) (df := 0) (s := [112]) (b1 := true) (r1 := [exC]) (r2 := []) (l1 := [1500]) R5 (by unfold U; omega) (by decide) (exA_ok (by decide) (by decide) (by simp [pk1, pk2]))
 replace R6 : Rep r6 1 (fun _ => exA 70 [pk2]) := R6.one rfl rfl
 refine bindO_step h6 ?_
 obtain ⟨r7, h7, R7⟩ := p_nextS (s := [112]) (up := true) (ad := false) (df := 0) (seq := 2) (t := 0) (r1 := [exC]) (r2 := []) (q := [1500]) (d := [0]) R6 (by decide) (exA_ok (by decide) (by decide) (by simp [pk1, pk2])) rfl (rok (by decide))
 replace h7 : F_shaper_Shaper_Next [112] true 0 2 [exC] [] 1 0 false r6 [1500] [0] = some (2, 2, 70, [120], true, 0, true, [1430], r7) := h7
 replace R7 : Rep r7 1 (fun _ => exA 0 []) := R7.one rfl rfl
 refine bindO_step h7 ?_
 dsimp only
 have ok7 := exA_ok (bt := 0) (l := []) (by decide) (by decide) (by simp)
 have h8 := p_len (s := [112]) (b := true) (b2 := true) (df := 0) (seq := 2) (x := 0) (r1 := [exC]) (r2 := []) (l1 := [1500]) (l2 := [1430]) R7 (by decide) ok7
 have h9 := p_snap (s := [112]) (b := true) (b2 := true) (df := 0) (seq := 2) (x := 0) (r1 := [exC]) (r2 := []) (l1 := [1500]) (l2 := [1430]) R7 (by decide) (by decide) ok7
 have hR : F_shaper_Right [112] true 0 [exC] = some true := by rw [right_nil]; exact p_right (by decide) (by decide)
 have hP : F_plan_Same [112] true 0 [112] true 0 [exC] [exC] [] = some true := by
  unfold F_plan_Same
  rw [if_pos (by rw [pseq]), if_pos (by rw [pbeq2])]
  refine bindO_step p_sameC ?_
  dsimp only
  rw [if_pos rfl]
  refine bindO_step p_sameR ?_
  rfl
 rw [if_pos (by decide), if_pos (by decide), if_pos (by decide), if_pos (by decide), if_pos (by decide), if_pos (by decide), if_pos rfl, if_neg (by decide), if_pos rfl, if_pos (by decide)]
 refine bindO_step h8 ?_
 dsimp only
 rw [if_pos (by decide)]
 refine bindO_step h9 ?_
 dsimp only
 rw [if_pos (by decide)]
 refine bindO_step (a := (0 : Int)) ?_ ?_
 ·unfold F_shaper_Shaper_Apply
  refine bindO_step hR ?_
  dsimp only
  rw [if_pos rfl]
  refine bindO_step hP ?_
  rfl
 rw [if_pos (by decide)]
 refine bindO_step (a := ([exC], [])) ?_ ?_
 ·unfold F_shaper_Shaper_Port F_shaper_own_2
  refine bindO_step (a := ([exC], [])) ?_ rfl
  refine bindO_step (p_cloneC (by decide)) ?_
  exact bindO_step (p_cloneR (by decide)) rfl
 try dsimp only
 rw [if_pos (by decide)]
 refine bindO_step hR ?_
 rw [if_pos rfl]
 refine bindO_step p_right0 ?_
 try dsimp only
 rw [if_neg (by decide)]
 refine bindO_step (a := (1, 2, 0, true, [1430])) ?_ rfl
 unfold F_shaper_Shaper_Restore
 refine bindO_step p_rightQ ?_
 try dsimp only
 rw [if_pos rfl, if_neg (by rw [pieq]; decide)]
end Go.Proofs.Ytojbpjcfdjakkaa
end
section
/-
  What is known of arguments: their numbers fit.
-/
set_option linter.unusedVariables false
set_option linter.unusedSimpArgs false
namespace Go.Proofs.Ytojbpjcfdjakkaa
theorem wf_U {x : Int} (h : (Lit.int .u64 x).wf = true) : U x := by
 have : 0 ≤ x ∧ x ≤ 18446744073709551615 := by simpa [Lit.wf, IntKind.min, IntKind.max, IntKind.signed, IntKind.bits, Int.lt_add_one_iff, Int.le_sub_one_iff] using h
 unfold U; omega
theorem wf_u32 {x : Int} (h : (Lit.int .u32 x).wf = true) : 0 ≤ x ∧ x < 4294967296 := by
 have : 0 ≤ x ∧ x ≤ 4294967295 := by simpa [Lit.wf, IntKind.min, IntKind.max, IntKind.signed, IntKind.bits, Int.lt_add_one_iff, Int.le_sub_one_iff] using h
 omega
theorem wf_u16 {x : Int} (h : (Lit.int .u16 x).wf = true) : 0 ≤ x ∧ x < 65536 := by
 have : 0 ≤ x ∧ x ≤ 65535 := by simpa [Lit.wf, IntKind.min, IntKind.max, IntKind.signed, IntKind.bits, Int.lt_add_one_iff, Int.le_sub_one_iff] using h
 omega
theorem wf_u8 {x : Int} (h : (Lit.int .u8 x).wf = true) : 0 ≤ x ∧ x < 256 := by
 have : 0 ≤ x ∧ x ≤ 255 := by simpa [Lit.wf, IntKind.min, IntKind.max, IntKind.signed, IntKind.bits, Int.lt_add_one_iff, Int.le_sub_one_iff] using h
 omega
theorem wf_i64 {x : Int} (h : (Lit.int .i64 x).wf = true) : -9223372036854775808 ≤ x ∧ x ≤ 9223372036854775807 := by
 simpa [Lit.wf, IntKind.min, IntKind.max, IntKind.signed, IntKind.bits, Int.lt_add_one_iff, Int.le_sub_one_iff] using h
end Go.Proofs.Ytojbpjcfdjakkaa
end
section
/-
  What a shaped class sends between two moments.
-/
set_option linter.unusedVariables false
set_option linter.unusedSimpArgs false
namespace Go.Proofs.Ytojbpjcfdjakkaa

theorem slt_irr : ∀ x : List UInt8, slt x x = false
  | [] => by simp [slt, Op.bytesLess]
  | a :: x => by
    have := slt_irr x
    simp only [slt] at this ⊢
    rw [Op.bytesLess, this]
    simp
theorem slt_trans : ∀ {x y z : List UInt8}, slt x y = true → slt y z = true → slt x z = true
  | [], [], _, h, _ => by simp [slt, Op.bytesLess] at h
  | [], _ :: _, [], _, h => by simp [slt, Op.bytesLess] at h
  | [], _ :: _, _ :: _, _, _ => by simp [slt, Op.bytesLess]
  | _ :: _, [], _, h, _ => by simp [slt, Op.bytesLess] at h
  | _ :: _, _ :: _, [], _, h => by simp [slt, Op.bytesLess] at h
  | a :: x, b :: y, c :: z, h1, h2 => by
    have ih := @slt_trans x y z
    simp only [slt] at h1 h2 ih ⊢
    rw [Op.bytesLess] at h1 h2 ⊢
    simp only [Bool.or_eq_true, Bool.and_eq_true, decide_eq_true_eq, beq_iff_eq] at h1 h2 ⊢
    rcases h1 with h1 | ⟨rfl, h1⟩
    · rcases h2 with h2 | ⟨rfl, h2⟩
      · exact .inl (UInt8.lt_trans h1 h2)
      · exact .inl h1
    · rcases h2 with h2 | ⟨rfl, h2⟩
      · exact .inl h2
      · exact .inr ⟨rfl, ih h1 h2⟩
theorem keys_rise {r1 : List D} (h : ∀ i, i + 1 < r1.length → slt (cKey (getD r1 i)) (cKey (getD r1 (i + 1))) = true) : ∀ (m i : Nat), i + m + 1 < r1.length → slt (cKey (getD r1 i)) (cKey (getD r1 (i + m + 1))) = true
  | 0, i, hi => h i hi
  | m + 1, i, hi => slt_trans (keys_rise h m i (by omega)) (h (i + m + 1) (by omega))
theorem keys_ne {r1 : List D} (h : ∀ i, i + 1 < r1.length → slt (cKey (getD r1 i)) (cKey (getD r1 (i + 1))) = true) {i j : Nat} (hi : i < r1.length) (hj : j < r1.length) (e : cKey (getD r1 i) = cKey (getD r1 j)) : i = j := by
  rcases Nat.lt_trichotomy i j with c | c | c
  · have := keys_rise h (j - i - 1) i (by omega)
    rw [show i + (j - i - 1) + 1 = j by omega, e, slt_irr] at this; cases this
  · exact c
  · have := keys_rise h (i - j - 1) j (by omega)
    rw [show j + (i - j - 1) + 1 = i by omega, e, slt_irr] at this; cases this

def wsum (l : List Int) (a b : Nat) : Int := ((l.take b).drop a).sum
theorem wsum_old {l : List Int} {x : Int} {a b : Nat} (h : b ≤ l.length) : wsum (l ++ [x]) a b = wsum l a b := by
  unfold wsum; rw [List.take_append_of_le_length h]
theorem wsum_new {l : List Int} {x : Int} {a : Nat} (h : a ≤ l.length) : wsum (l ++ [x]) a (l.length + 1) = wsum l a l.length + x := by
  unfold wsum
  rw [List.take_of_length_le (by simp), List.take_length, List.drop_append_of_le_length h, List.sum_append]; simp
theorem wsum_self {l : List Int} {a : Nat} : wsum l a a = 0 := by
  unfold wsum; rw [List.drop_eq_nil_of_le (by simp; omega)]; rfl
theorem wsum_next {l : List Int} {a b : Nat} (h : b < l.length) (ha : a ≤ b) : wsum l a (b + 1) = wsum l a b + getI l b := by
  unfold wsum
  rw [List.take_succ_eq_append_getElem h, List.drop_append_of_le_length (by simp; omega), List.sum_append, pgetI h]; simp
theorem sum_bd {m : Int} : ∀ {l : List Int}, (∀ x ∈ l, 0 ≤ x ∧ x ≤ m) → 0 ≤ l.sum ∧ l.sum ≤ m * (l.length : Int)
  | [], _ => by simp
  | x :: l, h => by
    have h1 := h x (by simp)
    have h2 := sum_bd (l := l) fun y hy => h y (by simp [hy])
    simp only [List.sum_cons, List.length_cons]
    rw [show ((l.length + 1 : Nat) : Int) = (l.length : Int) + 1 by omega, Int.mul_add]
    omega
theorem wsum_bd {m : Int} {l : List Int} {a b : Nat} (hm : 0 ≤ m) (h : ∀ x ∈ l, 0 ≤ x ∧ x ≤ m) : 0 ≤ wsum l a b ∧ wsum l a b ≤ m * (l.length : Int) := by
  have h1 := sum_bd (l := (l.take b).drop a) fun x hx => h x (List.mem_of_mem_take (List.mem_of_mem_drop hx))
  have h2 : ((l.take b).drop a).length ≤ l.length := by simp; omega
  have h3 : m * (((l.take b).drop a).length : Int) ≤ m * (l.length : Int) := Int.mul_le_mul_of_nonneg_left (by omega) hm
  unfold wsum
  omega
structure WinOk (l1 l2 : List Int) (B R T : Int) : Prop where
  len : l2.length = l1.length
  b1 : ∀ x ∈ l1, 0 ≤ x ∧ x ≤ 1500
  b2 : ∀ x ∈ l2, 0 ≤ x ∧ x ≤ 9999
  tB : T ≤ B
  now : ∀ a, a ≤ l1.length → wsum l1 a l1.length + T ≤ B + R * wsum l2 a l1.length
  all : ∀ a b, a ≤ b → b ≤ l1.length → wsum l1 a b ≤ B + R * wsum l2 a b
theorem WinOk.start {B R : Int} (h : 0 ≤ B) : WinOk [] [] B R B := by
  refine ⟨rfl, by simp, by simp, by omega, fun a ha => ?_, fun a b h1 h2 => ?_⟩
  · simp [wsum]
  · simp [wsum]; omega
theorem WinOk.step {l1 l2 : List Int} {B R T T' b t : Int} (h : WinOk l1 l2 B R T) (hb : 0 ≤ b ∧ b ≤ 1500) (ht : 0 ≤ t ∧ t ≤ 9999) (h0 : 0 ≤ T') (h1 : T' ≤ B) (h2 : T' + b ≤ T + R * t) : WinOk (l1 ++ [b]) (l2 ++ [t]) B R T' := by
  have hl := h.len
  have key : ∀ a, a ≤ l1.length + 1 → wsum (l1 ++ [b]) a (l1.length + 1) + T' ≤ B + R * wsum (l2 ++ [t]) a (l1.length + 1) := fun a ha => by
    by_cases c : a = l1.length + 1
    · subst c
      rw [wsum_self, wsum_self, Int.mul_zero]; omega
    · have h3 := h.now a (by omega)
      rw [wsum_new (by omega)]
      have e : wsum (l2 ++ [t]) a (l1.length + 1) = wsum l2 a l1.length + t := by rw [← hl]; exact wsum_new (by omega)
      rw [e, Int.mul_add]
      omega
  refine ⟨by simp [hl], fun x hx => ?_, fun x hx => ?_, h1, fun a ha => ?_, fun a c hac hc => ?_⟩
  · rcases List.mem_append.1 hx with hx | hx
    · exact h.b1 x hx
    · simp at hx; omega
  · rcases List.mem_append.1 hx with hx | hx
    · exact h.b2 x hx
    · simp at hx; omega
  · have := key a (by simpa using ha)
    simpa using this
  · by_cases e : c = l1.length + 1
    · subst e
      have := key a hac
      omega
    · have hc' : c ≤ l1.length := by simp at hc; omega
      rw [wsum_old hc', wsum_old (by omega)]
      exact h.all a c hac hc'

def pCls (d : D) : List D := D.toL (D.fld d 2)
def pRules (d : D) : List D := D.toL (D.fld (D.fld d 3) 0)
def pDf (d : D) : Int := D.toI (D.fld (D.fld d 3) 1)
def fewP (r1 : List D) (i : Nat) : Bool := !decide (20 < (pCls (getD r1 i)).length) && !decide (40 < (pRules (getD r1 i)).length)
def fewB (r1 r2 : List D) : Bool := allN r1.length (fewP r1) && (decide (0 < r1.length) && (decide (r1.length ≤ 10) && decide (r2.length ≤ 300)))
theorem p_few {r1 r2 : List D} (h : r1.length ≤ maxLen) : F_tollbarlaw27_few r1 r2 = some (fewB r1 r2) := by
  unfold F_tollbarlaw27_few fewB
  unfold maxLen at h
  refine iter_all (P := fewP r1) (fun i hi => ?_) ?_
  · unfold F_tollbarlaw27_few_L1 fewP pCls pRules
    dsimp only
    rw [if_pos (by rw [pilt]; simp only [ofN, xlen]; omega), if_pos (by simp only [ofN, xlen]; omega), ptoN]
    simp only [pilt, ofN, xlen]
    by_cases c1 : 20 < (D.toL (D.fld (getD r1 i) 2)).length
    · rw [if_pos (by omega)]; simp [c1]
    rw [if_neg (by omega), if_pos (by omega)]
    by_cases c2 : 40 < (D.toL (D.fld (D.fld (getD r1 i) 3) 0)).length
    · rw [if_pos (by omega)]; simp [c2]
    rw [if_neg (by omega), pnext (by omega)]
    simp [c1, c2]
  · unfold F_tollbarlaw27_few_L1
    dsimp only
    rw [if_neg (by rw [pilt]; simp only [ofN, xlen]; omega)]
    simp only [pilt, pile, ofN, xlen]
    by_cases c1 : 0 < r1.length
    · rw [if_pos (by omega)]
      by_cases c2 : r1.length ≤ 10
      · rw [if_pos (by omega)]
        simp only [c1, c2, decide_true, Bool.true_and, ile]
        congr 2
        rw [decide_eq_decide]; omega
      · rw [if_neg (by omega)]; simp [c2]
    · rw [if_neg (by omega)]; simp [c1]
theorem fewB_ok {r1 r2 : List D} (h : fewB r1 r2 = true) : 1 ≤ r1.length ∧ r1.length ≤ 10 ∧ r2.length ≤ 300 ∧ ∀ i, i < r1.length → (pCls (getD r1 i)).length ≤ 20 ∧ (pRules (getD r1 i)).length ≤ 40 := by
  unfold fewB fewP at h
  simp only [Bool.and_eq_true, Bool.not_eq_true', decide_eq_false_iff_not, allN_iff, decide_eq_true_eq] at h
  obtain ⟨h1, h2, h3, h4⟩ := h
  exact ⟨by omega, h3, h4, fun i hi => by have := h1 i hi; omega⟩

structure Und (C : List D) (kc : Nat) (i : Nat) (sq : Int) (t : Int) (r3 : List D) (d : List Int) (g : Nat → A) : Prop where
  rep : Rep r3 C.length g
  ok : ∀ j, j < C.length → AOk (g j)
  key : ∀ j, j < C.length → (g j).key = cKey (getD C j)
  len : ∀ j, j < C.length → (g j).l.length ≤ i
  br : (g kc).br = D.toI (D.fld (getD C kc) 2)
  bb : (g kc).bb = D.toI (D.fld (getD C kc) 3)
  sh : (g kc).sh = D.toB (D.fld (getD C kc) 5)
  ring : RingOk (C.map cQ) t d
  sq : 0 ≤ sq ∧ sq ≤ (i : Int)
theorem Und.more {C : List D} {kc i : Nat} {sq t : Int} {r3 : List D} {d : List Int} {g : Nat → A} (h : Und C kc i sq t r3 d g) : Und C kc (i + 1) sq t r3 d g :=
  ⟨h.rep, h.ok, h.key, fun j hj => by have := h.len j hj; omega, h.br, h.bb, h.sh, h.ring, by have := h.sq; omega⟩
theorem Und.arr {C : List D} {kc i : Nat} {sq t : Int} {r3 r' : List D} {d : List Int} {g : Nat → A} {c : Nat} {flow size : Int} (h : Und C kc i sq t r3 d g) (hi : i ≤ 1000) (hc : c < C.length)
    (hR : Rep r' C.length (arrS g sq c flow size).2.2.2) : Und C kc (i + 1) (arrS g sq c flow size).2.2.1 t r' d (arrS g sq c flow size).2.2.2 ∧ ((arrS g sq c flow size).2.2.2 kc).bt = (g kc).bt := by
  have h0 := h.more
  revert hR
  unfold arrS
  by_cases c1 : badP flow size = true
  · rw [if_pos c1]; exact fun hR => ⟨{ h0 with rep := hR }, rfl⟩
  rw [if_neg c1]
  by_cases c2 : (g c).ql ≤ ((g c).l.length : Int)
  · rw [if_pos c2]; exact fun hR => ⟨{ h0 with rep := hR }, rfl⟩
  rw [if_neg c2]
  intro hR
  have hsz : 1 ≤ size ∧ size ≤ 1500 := by
    simp only [badP, Bool.or_eq_true, decide_eq_true_eq] at c1; omega
  have hA := h.ok c hc
  have hp : AOk (putA (g c) (sq + 1, flow, size)) := ⟨hA.q, hA.br, hA.bb, hA.bt, by have := h.len c hc; simp [putA]; omega, fun p hp => by
    rcases List.mem_append.1 hp with hp | hp
    · exact hA.sz p hp
    · simp at hp; subst hp; exact hsz⟩
  have hS := h.sq
  refine ⟨⟨hR, fun j hj => ?_, fun j hj => ?_, fun j hj => ?_, ?_, ?_, ?_, h.ring, by dsimp only; omega⟩, ?_⟩
  · by_cases e : j = c
    · subst e; simpa [updA] using hp
    · simpa [updA, e] using h.ok j hj
  · by_cases e : j = c
    · subst e; simpa [updA, putA] using h.key j hj
    · simpa [updA, e] using h.key j hj
  · by_cases e : j = c
    · subst e; have := h.len j hj; simp [updA, putA]; omega
    · have := h.len j hj; simp [updA, e]; omega
  · by_cases e : kc = c
    · subst e; simpa [updA, putA] using h.br
    · simpa [updA, e] using h.br
  · by_cases e : kc = c
    · subst e; simpa [updA, putA] using h.bb
    · simpa [updA, e] using h.bb
  · by_cases e : kc = c
    · subst e; simpa [updA, putA] using h.sh
    · simpa [updA, e] using h.sh
  · by_cases e : kc = c
    · subst e; simp [updA, putA]
    · simp [updA, e]
theorem Und.tick {C : List D} {kc i : Nat} {sq t x : Int} {r3 r' : List D} {d : List Int} {g : Nat → A} (h : Und C kc i sq t r3 d g) (hx : U x) (hR : Rep r' C.length fun i => tickA x (g i)) : Und C kc (i + 1) sq t r' d fun i => tickA x (g i) :=
  ⟨hR, fun j hj => tickA_ok hx (h.ok j hj), fun j hj => h.key j hj, fun j hj => by have := h.len j hj; simp [tickA]; omega, h.br, h.bb, h.sh, h.ring, by have := h.sq; omega⟩
theorem fillA_le {x by_ n m : Int} (h0 : x ≤ m) (h1 : 0 ≤ by_) (h2 : 0 ≤ n) (h3 : 0 ≤ x) : 0 ≤ fillA x by_ n m ∧ fillA x by_ n m ≤ m ∧ fillA x by_ n m ≤ x + by_ * n := by
  have hm := Int.mul_nonneg h1 h2
  have e1 : smul by_ n ≤ by_ * n := by unfold smul; split <;> omega
  have e2 : sadd x (smul by_ n) ≤ x + smul by_ n := by unfold sadd; split <;> omega
  unfold fillA
  omega
theorem Und.go {C : List D} {kc i : Nat} {sq t : Int} {r3 r' : List D} {d : List Int} {g : Nat → A} {up ad : Bool} (h : Und C kc i sq t r3 d g) (hkc : kc < C.length) (hn : C.length ≤ 8) (hkeys : ∀ i, i + 1 < C.length → slt (cKey (getD C i)) (cKey (getD C (i + 1))) = true)
    (hs : (g kc).sh = true)
    (hR : Rep r' C.length (nextS up C.length g (C.map cQ) t ad d).2.2) :
    Und C kc (i + 1) sq (nextS up C.length g (C.map cQ) t ad d).2.1.1 r' (nextS up C.length g (C.map cQ) t ad d).2.1.2.2 (nextS up C.length g (C.map cQ) t ad d).2.2 ∧
    (((nextS up C.length g (C.map cQ) t ad d).1.2.2 = true ∧ (nextS up C.length g (C.map cQ) t ad d).1.2.1 = cKey (getD C kc) ∧ 1 ≤ (nextS up C.length g (C.map cQ) t ad d).1.1.2.2 ∧ (nextS up C.length g (C.map cQ) t ad d).1.1.2.2 ≤ 1500 ∧
      0 ≤ ((nextS up C.length g (C.map cQ) t ad d).2.2 kc).bt ∧ ((nextS up C.length g (C.map cQ) t ad d).2.2 kc).bt + (nextS up C.length g (C.map cQ) t ad d).1.1.2.2 = (g kc).bt) ∨
     (((nextS up C.length g (C.map cQ) t ad d).1.2.2 = true → (nextS up C.length g (C.map cQ) t ad d).1.2.1 ≠ cKey (getD C kc)) ∧ ((nextS up C.length g (C.map cQ) t ad d).2.2 kc).bt = (g kc).bt)) := by
  obtain ⟨hok, hgo⟩ := next_go (up := up) (ad := ad) h.ok (by simp) h.ring
  have h0 := h.more
  revert hR
  unfold nextS
  generalize nextF (C.map cQ) (viewsS up C.length g) t ad d = v at *
  obtain ⟨v1, v2, v3, v4⟩ := v
  dsimp only at hok hgo ⊢
  rcases hgo with rfl | ⟨c, p, l, rfl, hc, hl, hup, hsh⟩
  · rw [if_pos (by omega)]
    intro hR
    exact ⟨{ h0 with rep := hR, ring := hok }, .inr ⟨fun e => by simp at e, rfl⟩⟩
  · rw [if_neg (by omega)]
    simp only [Int.toNat_natCast]
    have hgS : goS g c = (p, updA g c (popA (g c) p l)) := by unfold goS; rw [hl]
    rw [hgS]
    intro hR
    have hA := h.ok c hc
    have hb := hA.bt.lo
    have hb1 := hA.bt.hi
    have hp2 := hA.sz p (by rw [hl]; simp)
    have hll : l.length + 1 ≤ i := by have := h.len c hc; rw [hl] at this; simpa using this
    have hn5 := hA.n
    have hp : AOk (popA (g c) p l) := ⟨hA.q, hA.br, hA.bb, by
      have := hA.bt
      unfold popA
      dsimp only
      split
      · split
        · exact this
        · unfold U; omega
      · exact this, by rw [hl] at hn5; simp at hn5; simp [popA]; omega, fun y hy => hA.sz y (by rw [hl]; exact List.mem_cons_of_mem _ hy)⟩
    refine ⟨⟨hR, fun j hj => ?_, fun j hj => ?_, fun j hj => ?_, ?_, ?_, ?_, hok, h0.sq⟩, ?_⟩
    · by_cases e : j = c
      · subst e; simpa [updA] using hp
      · simpa [updA, e] using h.ok j hj
    · by_cases e : j = c
      · subst e; simpa [updA, popA] using h.key j hj
      · simpa [updA, e] using h.key j hj
    · by_cases e : j = c
      · subst e; simp [updA, popA]; omega
      · have := h.len j hj; simp [updA, e]; omega
    · by_cases e : kc = c
      · subst e; simpa [updA, popA] using h.br
      · simpa [updA, e] using h.br
    · by_cases e : kc = c
      · subst e; simpa [updA, popA] using h.bb
      · simpa [updA, e] using h.bb
    · by_cases e : kc = c
      · subst e; simpa [updA, popA] using h.sh
      · simpa [updA, e] using h.sh
    · by_cases e : kc = c
      · subst e
        refine .inl ⟨by trivial, h.key kc hc, hp2.1, hp2.2, ?_⟩
        have := hsh hs
        simp only [updA, if_true, popA]
        rw [if_pos hs, if_neg (by omega)]
        omega
      · refine .inr ⟨fun _ e2 => ?_, by simp [updA, e]⟩
        rw [h.key c hc] at e2
        exact e (keys_ne hkeys hc hkc e2).symm
end Go.Proofs.Ytojbpjcfdjakkaa
end
section
/-
  The statement ShaperRates.
-/
set_option linter.unusedVariables false
set_option linter.unusedSimpArgs false
namespace Go.Proofs.Ytojbpjcfdjakkaa
theorem rates_L3 {r1 r2 : List D} {l1 l2 : List Int} {x1 : Int} {kc : Nat} {B R T : Int} (hk : irem (iconv .i64 x1) (ofN (xlen (pCls (getD r1 0)))) = (kc : Int))
  (hB : D.toI (D.fld (getD (pCls (getD r1 0)) kc) 3) = B) (hR : D.toI (D.fld (getD (pCls (getD r1 0)) kc) 2) = R) (h1 : l1.length = r2.length) (hw : WinOk l1 l2 B R T) (hn : r2.length ≤ 120)
  (hB0 : 0 ≤ B ∧ B ≤ 1000000000) (hR0 : 0 ≤ R ∧ R ≤ 1000000000) {a : Nat} (ha : a < r2.length) (y : Int) :
  iter (F_tollbarlaw27_ShaperRates_L3 r2 l1 l2 r1 x1 y) ((0 : Int), (0 : Int), (a : Int)) = some (.inl (iadd .i64 y 1)) := by
 have key : ∀ (m b : Nat), b + m = r2.length → a ≤ b → iter (F_tollbarlaw27_ShaperRates_L3 r2 l1 l2 r1 x1 y) (wsum l1 a b, wsum l2 a b, (b : Int)) = some (.inl (iadd .i64 y 1)) := by
  intro m
  induction m with
  | zero =>
   intro b hb hab
   apply iter_inr
   unfold F_tollbarlaw27_ShaperRates_L3
   dsimp only
   rw [if_neg (by rw [pilt]; simp only [ofN, xlen]; omega)]
  | succ m ih =>
   intro b hb hab
   have hl := hw.len
   rw [← ih (b + 1) (by omega) (by omega)]
   have n1 := wsum_next (l := l1) (a := a) (b := b) (by omega) hab
   have n2 := wsum_next (l := l2) (a := a) (b := b) (by omega) hab
   have b1 := wsum_bd (a := a) (b := b + 1) (by omega) hw.b1
   have b2 := wsum_bd (a := a) (b := b + 1) (by omega) hw.b2
   have hall := hw.all a (b + 1) (by omega) (by omega)
   have e1 : iadd .u64 (wsum l1 a b) (getI l1 b) = wsum l1 a (b + 1) := by simp only [iadd]; rw [← n1]; exact pu64 (by omega) (by omega)
   have e2 : iadd .u64 (wsum l2 a b) (getI l2 b) = wsum l2 a (b + 1) := by simp only [iadd]; rw [← n2]; exact pu64 (by omega) (by omega)
   have m0 := Int.mul_nonneg hR0.1 b2.1
   have m1 : R * wsum l2 a (b + 1) ≤ 1000000000 * wsum l2 a (b + 1) := Int.mul_le_mul_of_nonneg_right hR0.2 b2.1
   have e3 : imul .u64 R (wsum l2 a (b + 1)) = R * wsum l2 a (b + 1) := by simp only [imul]; exact pu64 (by omega) (by omega)
   have e4 : iadd .u64 B (R * wsum l2 a (b + 1)) = B + R * wsum l2 a (b + 1) := by simp only [iadd]; exact pu64 (by omega) (by omega)
   apply iter_inl
   unfold F_tollbarlaw27_ShaperRates_L3
   dsimp only
   rw [show (toN (0 : Int)) = 0 from rfl]
   change (if _ then (if _ then (if _ then (if ilt (iadd .u64 (D.toI (D.fld (getD (pCls (getD r1 0)) (toN (irem (iconv .i64 x1) (ofN (xlen (pCls (getD r1 0))))))) 3)) (imul .u64 (D.toI (D.fld (getD (pCls (getD r1 0)) (toN (irem (iconv .i64 x1) (ofN (xlen (pCls (getD r1 0))))))) 2)) _)) _ = true then _ else _) else _) else _) else _) = _
   rw [if_pos (by rw [pilt]; simp only [ofN, xlen]; omega), if_pos (by simp only [ofN, xlen]; omega), if_pos (by simp only [ofN, xlen]; omega), hk, ptoN, ptoN, hB, hR, e1, e2, e3, e4, if_neg (by rw [pilt]; omega), pnext (by omega)]
 have := key (r2.length - a) a (by omega) (by omega)
 rw [wsum_self, wsum_self] at this
 exact this
theorem rates_L2 {r1 r2 : List D} {l1 l2 : List Int} {x1 : Int} {kc : Nat} {B R T : Int} (hk : irem (iconv .i64 x1) (ofN (xlen (pCls (getD r1 0)))) = (kc : Int))
  (hB : D.toI (D.fld (getD (pCls (getD r1 0)) kc) 3) = B) (hR : D.toI (D.fld (getD (pCls (getD r1 0)) kc) 2) = R) (h1 : l1.length = r2.length) (hw : WinOk l1 l2 B R T) (hn : r2.length ≤ 120)
  (hB0 : 0 ≤ B ∧ B ≤ 1000000000) (hR0 : 0 ≤ R ∧ R ≤ 1000000000) :
  iter (F_tollbarlaw27_ShaperRates_L2 r2 l1 l2 r1 x1) (0 : Int) = some true := by
 have := iter_all (B := F_tollbarlaw27_ShaperRates_L2 r2 l1 l2 r1 x1) (P := fun _ => true) (n := r2.length) (e := true) (fun i hi => by
  unfold F_tollbarlaw27_ShaperRates_L2
  dsimp only
  rw [if_pos (by rw [pilt]; simp only [ofN, xlen]; omega), rates_L3 hk hB hR h1 hw hn hB0 hR0 hi, pnext (by omega)]
  rfl) (by
  unfold F_tollbarlaw27_ShaperRates_L2
  dsimp only
  rw [if_neg (by rw [pilt]; simp only [ofN, xlen]; omega)])
 rw [this]
 simp [allN_iff]
theorem rates_step {r1 r2 : List D} {l1 l2 d : List Int} {r3 : List D} {x1 sq t : Int} {ad : Bool} {kc i : Nat} {g : Nat → A} {B R : Int} (hk : irem (iconv .i64 x1) (ofN (xlen (pCls (getD r1 0)))) = (kc : Int)) (hkc : kc < (pCls (getD r1 0)).length)
  (hP : RightP (pCls (getD r1 0)) (pRules (getD r1 0)) (pDf (getD r1 0))) (hrl : (pRules (getD r1 0)).length ≤ 40)
  (hB : D.toI (D.fld (getD (pCls (getD r1 0)) kc) 3) = B) (hR : D.toI (D.fld (getD (pCls (getD r1 0)) kc) 2) = R) (hs : D.toB (D.fld (getD (pCls (getD r1 0)) kc) 5) = true)
  (hU : Und (pCls (getD r1 0)) kc i sq t r3 d g) (h1 : l1.length = i) (hw : WinOk l1 l2 B R (g kc).bt) (hn : r2.length ≤ 120) (hi : i < r2.length) (hx : U (D.toI (D.fld (getD r2 i) 3))) :
  ∃ sq' l1' l2' t' ad' r3' d' g', F_tollbarlaw27_ShaperRates_L1 r2 r1 (pCls (getD r1 0)) (pRules (getD r1 0)) (pCls (getD r1 0)).length ((pCls (getD r1 0)).map cQ) x1 ((i : Int), sq, l1, l2, t, ad, r3, d) = some (.inl (((i + 1 : Nat) : Int), sq', l1', l2', t', ad', r3', d')) ∧
   Und (pCls (getD r1 0)) kc (i + 1) sq' t' r3' d' g' ∧ l1'.length = i + 1 ∧ WinOk l1' l2' B R (g' kc).bt := by
 have hn8 := hP.n8
 have hl := hw.len
 have hA := hU.ok kc hkc
 have hb := hA.bt.lo
 have hR0 : 0 ≤ R := by have := hA.br.lo; rw [hU.br, hR] at this; exact this
 have same : ∀ {T' : Int}, T' = (g kc).bt → WinOk (l1 ++ [0]) (l2 ++ [0]) B R T' := fun e => by
  subst e
  exact hw.step (by omega) (by omega) hb hw.tB (by rw [Int.mul_zero]; omega)
 have hm : ∀ {l : List Int} {x : Int}, l.length = i → ((((xlen l) : Nat) : Int) + (((xlen ([x] : List Int)) : Nat) : Int)) * ((8 : Nat) : Int) ≤ 140737488355328 := fun {l x} e => by
  simp only [xlen, List.length_cons, List.length_nil]; omega
 unfold F_tollbarlaw27_ShaperRates_L1
 dsimp only
 rw [if_pos (by rw [pilt]; simp only [ofN, xlen]; omega), if_pos (by simp only [ofN, xlen]; omega), ptoN, show (toN (0 : Int)) = 0 from rfl]
 by_cases c0 : D.toI (D.fld (getD r2 i) 0) = 0
 ·rw [if_pos (by rw [pieq]; exact c0)]
  have hc := clsA_ok (x := D.toI (D.fld (getD r2 i) 1)) hP.df hP.rules
  have hc' : (clsA (pRules (getD r1 0)) (pDf (getD r1 0)) (D.toI (D.fld (getD r2 i) 1))).toNat < (pCls (getD r1 0)).length := by omega
  obtain ⟨r', e1, e2⟩ := p_arrive (flow := D.toI (D.fld (getD r2 i) 1)) (size := D.toI (D.fld (getD r2 i) 2)) (df := pDf (getD r1 0)) (seq := sq) (x5 := t) (s := D.toS (D.fld (getD r1 0) 0)) (b1 := D.toB (D.fld (getD r1 0) 1)) (b2 := ad) (r1 := pCls (getD r1 0)) (r2 := pRules (getD r1 0)) (l1 := (pCls (getD r1 0)).map cQ) (l2 := d) hU.rep (by omega) hc hU.ok (by have := hU.sq; omega)
  obtain ⟨u1, u2⟩ := hU.arr (by omega) hc' e2
  refine ⟨_, l1 ++ [0], l2 ++ [0], t, ad, r', d, _, bindO_step e1 ?_, u1, by simp [h1], same u2⟩
  dsimp only
  rw [if_pos (hm h1), if_pos (hm (by omega)), pnext (by omega)]
  rfl
 rw [if_neg (by rw [pieq]; exact c0)]
 by_cases c1 : D.toI (D.fld (getD r2 i) 0) = 1
 ·rw [if_pos (by rw [pieq]; exact c1)]
  have hq : irem (D.toI (D.fld (getD r2 i) 3)) 10000 = D.toI (D.fld (getD r2 i) 3) % 10000 := by
   simp only [irem]; exact Int.tmod_eq_emod_of_nonneg hx.lo
  rw [hq]
  have hy : 0 ≤ D.toI (D.fld (getD r2 i) 3) % 10000 ∧ D.toI (D.fld (getD r2 i) 3) % 10000 ≤ 9999 := by omega
  generalize D.toI (D.fld (getD r2 i) 3) % 10000 = y at *
  have hyU : U y := by unfold U; omega
  obtain ⟨r', e1, e2⟩ := p_tick (x := y) (df := pDf (getD r1 0)) (seq := sq) (x5 := t) (s := D.toS (D.fld (getD r1 0) 0)) (b1 := D.toB (D.fld (getD r1 0) 1)) (b2 := ad) (r1 := pCls (getD r1 0)) (r2 := pRules (getD r1 0)) (l1 := (pCls (getD r1 0)).map cQ) (l2 := d) hU.rep hyU (by omega) hU.ok
  have u1 := hU.tick hyU e2
  have hbb : (g kc).bb = B := by rw [hU.bb, hB]
  have hbr : (g kc).br = R := by rw [hU.br, hR]
  have hf := fillA_le (x := (g kc).bt) (by_ := R) (n := y) (m := B) hw.tB hR0 hy.1 hb
  have hT : (tickA y (g kc)).bt = fillA (g kc).bt R y B := by simp only [tickA]; rw [hbb, hbr]
  refine ⟨sq, l1 ++ [0], l2 ++ [y], t, ad, r', d, _, bindO_step e1 ?_, u1, by simp [h1], ?_⟩
  ·rw [if_pos (hm h1), if_pos (hm (by omega)), pnext (by omega)]
   rfl
  ·rw [hT]
   exact hw.step (by omega) hy hf.1 hf.2.1 (by omega)
 rw [if_neg (by rw [pieq]; exact c1)]
 by_cases c2 : D.toI (D.fld (getD r2 i) 0) = 2
 ·rw [if_pos (by rw [pieq]; exact c2)]
  obtain ⟨r', e1, e2⟩ := p_nextS (up := D.toB (D.fld (getD r1 0) 1)) (ad := ad) (df := pDf (getD r1 0)) (seq := sq) (t := t) (s := D.toS (D.fld (getD r1 0) 0)) (r1 := pCls (getD r1 0)) (r2 := pRules (getD r1 0)) (q := (pCls (getD r1 0)).map cQ) (d := d) hU.rep (by omega) hU.ok (by simp) hU.ring
  obtain ⟨u1, u2⟩ := hU.go hkc hn8 hP.keys (by rw [hU.sh, hs]) e2
  generalize nextS (D.toB (D.fld (getD r1 0) 1)) (pCls (getD r1 0)).length g ((pCls (getD r1 0)).map cQ) t ad d = V at *
  obtain ⟨⟨⟨p1, p2, p3⟩, ky, is⟩, ⟨t', ad', d'⟩, g'⟩ := V
  dsimp only at u1 u2
  have hkey : D.toS (D.fld (getD (D.toL (D.fld (getD r1 0) 2)) (toN (irem (iconv .i64 x1) (ofN (xlen (D.toL (D.fld (getD r1 0) 2))))))) 0) = cKey (getD (pCls (getD r1 0)) kc) := by
   show cKey (getD (pCls (getD r1 0)) (toN (irem (iconv .i64 x1) (ofN (xlen (pCls (getD r1 0))))))) = _
   rw [hk, ptoN]
  rcases u2 with ⟨v1, v2, v3, v4, v5, v6⟩ | ⟨v1, v2⟩
  ·have ec : iconv .u64 p3 = p3 := by simp only [iconv]; exact pu64 (by omega) (by omega)
   refine ⟨sq, l1 ++ [p3], l2 ++ [0], t', ad', r', d', g', bindO_step e1 ?_, u1, by simp [h1], hw.step ⟨by omega, v4⟩ (by omega) v5 (by have := hw.tB; omega) (by rw [Int.mul_zero]; omega)⟩
   dsimp only
   rw [if_pos v1, hkey, if_pos (by rw [pseq]; exact v2), ec, if_pos (hm h1), if_pos (hm (by omega)), pnext (by omega)]
   rfl
  ·refine ⟨sq, l1 ++ [0], l2 ++ [0], t', ad', r', d', g', bindO_step e1 ?_, u1, by simp [h1], same v2⟩
   dsimp only
   by_cases c3 : is = true
   ·rw [if_pos c3, hkey, if_neg (by rw [pseq]; exact v1 c3), if_pos (hm h1), if_pos (hm (by omega)), pnext (by omega)]
    rfl
   ·rw [if_neg c3, if_pos (hm h1), if_pos (hm (by omega)), pnext (by omega)]
    rfl
 rw [if_neg (by rw [pieq]; exact c2)]
 refine ⟨sq, l1 ++ [0], l2 ++ [0], t, ad, r3, d, g, ?_, hU.more, by simp [h1], same rfl⟩
 rw [if_pos (hm h1), if_pos (hm (by omega)), pnext (by omega)]
 rfl
theorem rates_L1 {r1 r2 : List D} {x1 : Int} {kc : Nat} {B R : Int} (hk : irem (iconv .i64 x1) (ofN (xlen (pCls (getD r1 0)))) = (kc : Int)) (hkc : kc < (pCls (getD r1 0)).length)
  (hP : RightP (pCls (getD r1 0)) (pRules (getD r1 0)) (pDf (getD r1 0))) (hrl : (pRules (getD r1 0)).length ≤ 40)
  (hB : D.toI (D.fld (getD (pCls (getD r1 0)) kc) 3) = B) (hR : D.toI (D.fld (getD (pCls (getD r1 0)) kc) 2) = R) (hs : D.toB (D.fld (getD (pCls (getD r1 0)) kc) 5) = true)
  (hB0 : 0 ≤ B ∧ B ≤ 1000000000) (hR0 : 0 ≤ R ∧ R ≤ 1000000000)
  (hn : r2.length ≤ 120) (hx : ∀ i, i < r2.length → U (D.toI (D.fld (getD r2 i) 3))) : ∀ (m i : Nat) (sq : Int) (l1 l2 : List Int) (t : Int) (ad : Bool) (r3 : List D) (d : List Int) (g : Nat → A), i + m = r2.length →
  Und (pCls (getD r1 0)) kc i sq t r3 d g → l1.length = i → WinOk l1 l2 B R (g kc).bt →
  iter (F_tollbarlaw27_ShaperRates_L1 r2 r1 (pCls (getD r1 0)) (pRules (getD r1 0)) (pCls (getD r1 0)).length ((pCls (getD r1 0)).map cQ) x1) ((i : Int), sq, l1, l2, t, ad, r3, d) = some true
 | 0, i, sq, l1, l2, t, ad, r3, d, g, hm, hU, h1, hw => by
  apply iter_inr
  unfold F_tollbarlaw27_ShaperRates_L1
  dsimp only
  rw [if_neg (by rw [pilt]; simp only [ofN, xlen]; omega), rates_L2 hk hB hR (by omega) hw hn hB0 hR0]
  rfl
 | m + 1, i, sq, l1, l2, t, ad, r3, d, g, hm, hU, h1, hw => by
  obtain ⟨sq', l1', l2', t', ad', r3', d', g', e1, e2, e3, e4⟩ := rates_step (ad := ad) hk hkc hP hrl hB hR hs hU h1 hw hn (by omega) (hx i (by omega))
  rw [iter_inl e1]
  exact rates_L1 hk hkc hP hrl hB hR hs hB0 hR0 hn hx m (i + 1) sq' l1' l2' t' ad' r3' d' g' (by omega) e2 e3 e4
theorem freshA_ok {d : D} (h : U (cQ d) ∧ U (D.toI (D.fld d 2)) ∧ U (D.toI (D.fld d 3))) : AOk (freshA d) := ⟨h.1, h.2.1, h.2.2, h.2.2, by simp [freshA], by simp [freshA]⟩
theorem rates_law {r1 r2 : List D} {x1 : Int} (h1 : r1.length ≤ maxLen) (hc : ∀ i, i < r1.length → ∀ d ∈ pCls (getD r1 i), U (cQ d) ∧ U (D.toI (D.fld d 2)) ∧ U (D.toI (D.fld d 3)))
  (hx : ∀ i, i < r2.length → U (D.toI (D.fld (getD r2 i) 3))) (h3 : 0 ≤ x1 ∧ x1 < 256) : F_tollbarlaw27_ShaperRates r1 r2 x1 = some true := by
 unfold F_tollbarlaw27_ShaperRates
 refine bindO_step p_awake ?_
 rw [if_pos rfl]
 refine bindO_step (p_few h1) ?_
 dsimp only
 by_cases cf : fewB r1 r2 = true
 ·obtain ⟨f1, f2, f3, f4⟩ := fewB_ok cf
  rw [if_pos cf]
  by_cases c : 120 < r2.length
  ·rw [if_pos (by rw [pilt]; simp only [ofN, xlen]; omega)]
  rw [if_neg (by rw [pilt]; simp only [ofN, xlen]; omega), if_pos (by simp only [ofN, xlen]; omega), show (toN (0 : Int)) = 0 from rfl]
  obtain ⟨f5, f6⟩ := f4 0 (by omega)
  rcases p_newS (s := D.toS (D.fld (getD r1 0) 0)) (b := D.toB (D.fld (getD r1 0) 1)) (r1 := pCls (getD r1 0)) (r2 := pRules (getD r1 0)) (df := pDf (getD r1 0)) (by omega) (by omega) with ⟨_, e1⟩ | ⟨hb, r', e1, e2⟩
  ·exact bindO_step e1 rfl
  ·refine bindO_step e1 ?_
   have hP := rightB_P hb
   have hn1 := hP.n1
   dsimp only
   have hk : irem (iconv .i64 x1) (ofN (xlen (pCls (getD r1 0)))) = ((x1.toNat % (pCls (getD r1 0)).length : Nat) : Int) := by
    simp only [irem, iconv, ofN, xlen]
    rw [pwi64 (by omega) (by omega), Int.tmod_eq_emod_of_nonneg h3.1]
    rw [Int.natCast_emod, Int.toNat_of_nonneg h3.1]
   have hkc : x1.toNat % (pCls (getD r1 0)).length < (pCls (getD r1 0)).length := Nat.mod_lt _ (by omega)
   generalize x1.toNat % (pCls (getD r1 0)).length = kc at hk hkc
   have hk' : irem (iconv .i64 x1) (ofN (xlen (D.toL (D.fld (getD r1 0) 2)))) = (kc : Int) := hk
   have hU := hc 0 (by omega)
   have hd : getD (pCls (getD r1 0)) kc ∈ pCls (getD r1 0) := by rw [pgetD hkc]; exact List.getElem_mem hkc
   have hat : ∀ j, j < (pCls (getD r1 0)).length → AOk (freshA (getD (pCls (getD r1 0)) j)) := fun j hj => freshA_ok (hU _ (by rw [pgetD hj]; exact List.getElem_mem hj))
   rw [if_pos (by simp only [ofN, xlen]; omega), if_pos (by simp only [ofN, xlen]; omega), if_pos (by show (ofN (xlen (pCls (getD r1 0)))) ≠ 0; simp only [ofN, xlen]; omega)]
   rw [hk', if_pos (by show _ ∧ _ < ofN (xlen (pCls (getD r1 0))); simp only [ofN, xlen]; omega), ptoN]
   change (if D.toB (D.fld (getD (pCls (getD r1 0)) kc) 5) = true then (if ilt _ (D.toI (D.fld (getD (pCls (getD r1 0)) kc) 3)) = true then _ else (if ilt _ (D.toI (D.fld (getD (pCls (getD r1 0)) kc) 2)) = true then _ else iter (F_tollbarlaw27_ShaperRates_L1 r2 r1 (pCls (getD r1 0)) (pRules (getD r1 0)) (pCls (getD r1 0)).length ((pCls (getD r1 0)).map cQ) x1) ((0 : Int), (0 : Int), ([] : List Int), ([] : List Int), (0 : Int), false, r', List.replicate (pCls (getD r1 0)).length 0))) else _) = _
   by_cases cs : D.toB (D.fld (getD (pCls (getD r1 0)) kc) 5) = true
   ·rw [if_pos cs]
    by_cases c2 : 1000000000 < D.toI (D.fld (getD (pCls (getD r1 0)) kc) 3)
    ·rw [if_pos (by rw [pilt]; exact c2)]
    rw [if_neg (by rw [pilt]; exact c2)]
    by_cases c3 : 1000000000 < D.toI (D.fld (getD (pCls (getD r1 0)) kc) 2)
    ·rw [if_pos (by rw [pilt]; exact c3)]
    rw [if_neg (by rw [pilt]; exact c3)]
    have hB0 := (hU _ hd).2.2.lo
    have hR0 := (hU _ hd).2.1.lo
    refine rates_L1 hk hkc hP f6 rfl rfl cs ⟨hB0, by omega⟩ ⟨hR0, by omega⟩ (by omega) hx r2.length 0 0 [] [] 0 false r' _ (fun i => freshA (getD (pCls (getD r1 0)) i)) (by omega) ?_ rfl (WinOk.start hB0)
    refine ⟨e2, hat, fun j hj => rfl, fun j hj => by simp [freshA], rfl, rfl, rfl, ⟨by omega, by simp; omega, by simp; omega, by simp, fun x hx => ?_, fun x hx => ?_⟩, by omega⟩
    ·obtain ⟨d, hd, rfl⟩ := List.mem_map.1 hx
     exact (hU d hd).1
    ·have := List.eq_of_mem_replicate hx
     subst this; unfold U; omega
   ·rw [if_neg cs]
 ·rw [if_neg cf]
def portT : Ty := .st [.str, .bool, .row 83 (.st [.str, .int .u64, .int .u64, .int .u64, .int .i64, .bool]), .st [.row 96 (.st [.int .i64, .int .i64, .int .i64]), .int .i64]]
theorem port_cls {d : D} (h : portT.rng d) : ∀ c ∈ pCls d, U (cQ c) ∧ U (D.toI (D.fld c 2)) ∧ U (D.toI (D.fld c 3)) := fun c hc => by
 simp only [portT, Ty.rng, Ty.rngL] at h
 have h1 := h.2.2.1.2 c hc
 exact ⟨wf_U h1.2.1, wf_U h1.2.2.1, wf_U h1.2.2.2.1⟩
theorem p_ShaperRates (r1 r2 : List D) (x1 : Int) (h1 : (Ty.row 33 (.st [.str, .bool, .row 83 (.st [.str, .int .u64, .int .u64, .int .u64, .int .i64, .bool]), .st [.row 96 (.st [.int .i64, .int .i64, .int .i64]), .int .i64]])).rng (.l r1))
  (h2 : (Ty.row 58 (.st [.int .i64, .int .i64, .int .i64, .int .u64, .int .u8])).rng (.l r2)) (h3 : (Lit.int .u8 x1).wf = true) : F_tollbarlaw27_ShaperRates r1 r2 x1 = some true := by
 refine rates_law h1.1 (fun i hi => ?_) (fun i hi => ?_) (wf_u8 h3)
 ·exact port_cls (h1.2 _ (by rw [pgetD hi]; exact List.getElem_mem hi))
 ·have := h2.2 (getD r2 i) (by rw [pgetD hi]; exact List.getElem_mem hi)
  simp only [Ty.rng, Ty.rngL] at this
  exact wf_U this.2.2.2.1
end Go.Proofs.Ytojbpjcfdjakkaa
end
