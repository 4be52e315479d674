/-
  Texts that the row of this claim stands on, one behind the other.
-/
import Derived.Test.YtbkcmpggacbikaaDoorRows
import Derived.ProofKit
import Derived.LaidMore
import Derived.OpenShut
import Derived.Stop.Joined
import Derived.Test.YtbkcmpggacbikaaDoorKJournalRest1
import Derived.Test.YtbkcmpggacbikaaDoorKJournalRest2
import Derived.Test.YtbkcmpggacbikaaDoorKJournalRest3
import Derived.Test.YtbkcmpggacbikaaDoorKJournalRest4
section
/-
  What a save does, in plain words.
-/
set_option linter.unusedVariables false
set_option linter.unusedSimpArgs false
namespace Go.Proofs.YtbkcmpggacbikaaDoor
def pad64 (s : List UInt8) : List UInt8 := s ++ List.replicate (64 - s.length) 0
def chunkV (b : List UInt8) (i : Nat) : List UInt8 := pad64 ((b.drop (64 * i)).take 64)
theorem chunk_len (b : List UInt8) (i : Nat) : (chunkV b i).length = 64 := by
 simp [chunkV, pad64]
 omega
def needV (b : List UInt8) : Nat := (b.length + 63) / 64
def fillV (f : Nat → List UInt8) (a : Nat) (b : List UInt8) (m : Nat) : Nat → List UInt8 := fun j => if 130 * a + 1 ≤ j ∧ j < 130 * a + 1 + m then chunkV b (j - (130 * a + 1)) else f j
def savedV (f : Nat → List UInt8) (n : Nat) (b : List UInt8) : Nat → List UInt8 := fun j => if j = 130 * (n % 2) then headV n b else fillV f (n % 2) b (needV b) j
def tornV (f : Nat → List UInt8) (n : Nat) (b : List UInt8) (w K : Nat) : Nat → List UInt8 :=
 if w < needV b then fun j => if j = 130 * (n % 2) + 1 + w then (chunkV b w).take K ++ (f j).drop K else fillV f (n % 2) b w j
 else fun j => if j = 130 * (n % 2) then (headV n b).take K ++ (f j).drop K else fillV f (n % 2) b (needV b) j
def nextN (y : Nat) : Nat := (y + 1) % 18446744073709551616
theorem fill_zero (f : Nat → List UInt8) (a : Nat) (b : List UInt8) : fillV f a b 0 = f := by
 funext j
 unfold fillV
 rw [if_neg (by omega)]
theorem fill_succ {f : Nat → List UInt8} {a : Nat} {b : List UInt8} {m : Nat} (j : Nat) : fillV f a b (m + 1) j = if j = 130 * a + 1 + m then chunkV b m else fillV f a b m j := by
 unfold fillV
 by_cases h : j = 130 * a + 1 + m
 ·subst h
  rw [if_pos (by omega), if_pos rfl]
  congr 1
  omega
 ·rw [if_neg h]
  by_cases h2 : 130 * a + 1 ≤ j ∧ j < 130 * a + 1 + m
  ·rw [if_pos (by omega), if_pos h2]
  ·rw [if_neg (by omega), if_neg h2]
theorem fill_out {f : Nat → List UInt8} {a : Nat} {b : List UInt8} {m j : Nat} (h : j ≤ 130 * a ∨ 130 * a + 1 + m ≤ j) : fillV f a b m j = f j := by
 unfold fillV
 rw [if_neg (by omega)]
theorem load_e (f : Nat → List UInt8) : (loadV f).2.2 = 0 ∨ (loadV f).2.2 = 39 := by
 unfold loadV
 split
 ·exact .inr rfl
 ·split <;> exact .inl rfl
theorem load_lt {f : Nat → List UInt8} (h0 : (f 0).length = 64) (h1 : (f 130).length = 64) : (loadV f).2.1 < 18446744073709551616 := by
 have g0 := whole_lt (f := f) (a := 0) h0
 have g1 := whole_lt (f := f) (a := 1) h1
 unfold loadV
 split
 ·show 0 < _; omega
 ·split
  ·exact g0
  ·exact g1
theorem p_chunk {s : List UInt8} {m : Nat} (h : 64 * m < s.length) (hs : s.length ≤ 8192) :
  lspl (@lrep UInt8 (toN 64) 0) 0 (lsub (lsub s (toN ((64 * m : Nat) : Int)) (ndec (xlen s) (toN ((64 * m : Nat) : Int)))) 0 (nmin (xlen (@lrep UInt8 (toN 64) 0)) (xlen (lsub s (toN ((64 * m : Nat) : Int)) (ndec (xlen s) (toN ((64 * m : Nat) : Int))))))) = chunkV s m := by
 have e1 : lsub s (toN ((64 * m : Nat) : Int)) (ndec (xlen s) (toN ((64 * m : Nat) : Int))) = s.drop (64 * m) := by
  rw [ptoN]
  unfold lsub ndec xlen
  rw [List.take_of_length_le]
  simp
 have e2 : xlen (@lrep UInt8 (toN 64) 0) = 64 := by simp [xlen, lrep, toN]
 rw [e1, e2]
 have e3 : lsub (s.drop (64 * m)) 0 (nmin 64 (xlen (s.drop (64 * m)))) = (s.drop (64 * m)).take 64 := by
  unfold lsub xlen
  rw [List.drop_zero]
  by_cases h2 : 64 ≤ (s.drop (64 * m)).length
  ·have : nmin 64 (s.drop (64 * m)).length = 64 := by unfold nmin; omega
   rw [this]
  ·have : nmin 64 (s.drop (64 * m)).length = (s.drop (64 * m)).length := by unfold nmin; omega
   rw [this, List.take_of_length_le (Nat.le_refl _), List.take_of_length_le (by omega)]
 rw [e3]
 unfold lspl chunkV pad64 lrep toN
 rw [List.take_zero, List.nil_append, Nat.zero_add, List.drop_replicate]
 rfl
theorem next_eq {y : Nat} (hy : y < 18446744073709551616) : iadd .u64 (y : Int) 1 = ((nextN y : Nat) : Int) := by
 unfold iadd nextN
 rw [pwu64]
 omega
theorem next_lt (y : Nat) : nextN y < 18446744073709551616 := Nat.mod_lt _ (by omega)
theorem at_head (n : Nat) : imul .i64 (iconv .i64 (irem (n : Int) 2)) 130 = ((130 * (n % 2) : Nat) : Int) := by
 have e2 : irem (n : Int) 2 = ((n % 2 : Nat) : Int) := by
  simp only [irem]
  rw [Int.tmod_eq_emod_of_nonneg (by omega)]
  omega
 rw [e2]
 have : n % 2 < 2 := Nat.mod_lt _ (by omega)
 simp only [imul, iconv]
 rw [pwi64 (x := ((n % 2 : Nat) : Int)) (by omega) (by omega), pwi64 (by omega) (by omega)]
 omega
theorem at_data (n : Nat) {m : Nat} (hm : m ≤ 1000) : iadd .i64 (iadd .i64 (imul .i64 (iconv .i64 (irem (n : Int) 2)) 130) 1) (iquo .i64 ((64 * m : Nat) : Int) 64) = ((130 * (n % 2) + 1 + m : Nat) : Int) := by
 have : n % 2 < 2 := Nat.mod_lt _ (by omega)
 have e1 : iquo .i64 ((64 * m : Nat) : Int) 64 = (m : Int) := by
  simp only [iquo]
  rw [Int.tdiv_eq_ediv_of_nonneg (by omega), pwi64 (by omega) (by omega)]
  omega
 rw [at_head, e1]
 simp only [iadd]
 rw [pwi64 (x := ((130 * (n % 2) : Nat) : Int) + 1) (by omega) (by omega), pwi64 (by omega) (by omega)]
 omega
theorem step64 {m : Nat} (hm : m ≤ 1000) : iadd .i64 ((64 * m : Nat) : Int) 64 = ((64 * (m + 1) : Nat) : Int) := by
 simp only [iadd]
 rw [pwi64 (by omega) (by omega)]
 omega
theorem count1 {x : Int} {m : Nat} (hx : 0 ≤ x ∧ x ≤ 1000000000) (hm : m ≤ 1000) : iadd .i64 (x + (m : Int)) 1 = x + ((m + 1 : Nat) : Int) := by
 simp only [iadd]
 rw [pwi64 (by omega) (by omega)]
 omega
theorem need_le {s : List UInt8} (hs : s.length ≤ 8192) : needV s ≤ 128 := by unfold needV; omega
theorem need_lt {s : List UInt8} {m : Nat} : m < needV s ↔ 64 * m < s.length := by unfold needV; omega
theorem save_loop {N : Nat} {f : Nat → List UInt8} (hN : 260 ≤ N ∧ N ≤ 2000) {x : Int} (hx : 0 ≤ x ∧ x ≤ 1000000000) {s : List UInt8} (hs : s.length ≤ 8192) {y : Nat} (hy : y < 18446744073709551616) :
  ∀ (d m : Nat) (r : List D), m + d = needV s → Holds r N (fillV f (nextN y % 2) s m) →
   ∃ r', iter (F_journal_Save_L1 s (y : Int) false) (((64 * m : Nat) : Int), x + (m : Int), r) = some (0, x + ((needV s + 1 : Nat) : Int), r') ∧ Holds r' N (savedV f (nextN y) s) := by
 have hn := next_lt y
 have hnl := need_le hs
 have h2 : nextN y % 2 < 2 := Nat.mod_lt _ (by omega)
 intro d
 induction d with
 | zero =>
  intro m r hm hR
  obtain rfl : m = needV s := by omega
  have hlt : ¬ 64 * needV s < s.length := fun h => by have := need_lt.2 h; omega
  refine ⟨setD r (130 * (nextN y % 2)) (arr64 (headV (nextN y) s)), ?_, ?_⟩
  ·apply iter_inr
   unfold F_journal_Save_L1
   dsimp only
   rw [if_neg (by rw [pilt]; simp only [ofN, xlen]; omega), next_eq hy, p_jhead2 hn hs]
   dsimp only
   rw [at_head, hR.write (by omega) _ (headV_len _ _), count1 hx (by omega)]
   dsimp only
   rw [if_pos (by rw [pieq])]
  ·exact hR.set (by omega) (Is.arr (headV_len _ _)) (fun j hj => rfl)
 | succ d ih =>
  intro m r hm hR
  have hlt : 64 * m < s.length := need_lt.1 (by omega)
  obtain ⟨r', g1, g2⟩ := ih (m + 1) (setD r (130 * (nextN y % 2) + 1 + m) (arr64 (chunkV s m))) (by omega) (hR.set (by omega) (Is.arr (chunk_len _ _)) (fun j hj => fill_succ j))
  refine ⟨r', ?_, g2⟩
  rw [← g1]
  apply iter_inl
  unfold F_journal_Save_L1
  dsimp only
  rw [if_pos (by rw [pilt]; simp only [ofN, xlen]; omega), if_pos (by omega), if_pos (by simp only [ofN, xlen]; omega), p_chunk hlt hs, next_eq hy, at_data _ (by omega), hR.write (by omega) _ (chunk_len _ _), count1 hx (by omega)]
  dsimp only
  rw [if_pos (by rw [pieq]), step64 (by omega)]
theorem save_big {s : List UInt8} (hs : 8192 < s.length) (hs2 : s.length ≤ 1000000) {r : List D} {N : Nat} {f : Nat → List UInt8} (hR : Holds r N f) (hN : 260 ≤ N ∧ N ≤ 2000) (b : Bool) (x : Int) : F_journal_Save s b x r = some (14, x, r) := by
 unfold F_journal_Save
 cases b with
 | true =>
  rw [load_down x (by rw [hR.len]; omega)]
  dsimp only
  rw [if_neg (by rw [pieq]; omega), if_pos (by rw [pilt]; simp only [ofN, xlen]; omega)]
 | false =>
  obtain ⟨k, t, g1, g2⟩ := p_load hR hN x
  rw [g1]
  dsimp only
  rw [if_neg (by rw [pieq]; have := load_e f; omega), if_pos (by rw [pilt]; simp only [ofN, xlen]; omega)]
theorem save_down {s : List UInt8} (hs : s.length ≤ 8192) {r : List D} (hr : 260 ≤ r.length) (x : Int) : F_journal_Save s true x r = some (3, x, r) := by
 unfold F_journal_Save
 rw [load_down x hr]
 dsimp only
 rw [if_neg (by rw [pieq]; omega), if_neg (by rw [pilt]; simp only [ofN, xlen]; omega), if_pos (by rw [pieq])]
theorem p_save {s : List UInt8} (hs : s.length ≤ 8192) {r : List D} {N : Nat} {f : Nat → List UInt8} (hR : Holds r N f) (hN : 260 ≤ N ∧ N ≤ 2000) {x : Int} (hx : 0 ≤ x ∧ x ≤ 1000000000) :
  ∃ r', F_journal_Save s false x r = some (0, x + ((needV s + 1 : Nat) : Int), r') ∧ Holds r' N (savedV f (nextN (loadV f).2.1) s) := by
 obtain ⟨k, t, g1, g2⟩ := p_load hR hN x
 have hy := load_lt (f := f) (hR.l64 (by omega)) (hR.l64 (by omega))
 obtain ⟨r', g3, g4⟩ := save_loop (f := f) hN hx hs hy (needV s) 0 r (by omega) (by rw [fill_zero]; exact hR)
 refine ⟨r', ?_, g4⟩
 unfold F_journal_Save
 rw [g1]
 dsimp only
 have he := load_e f
 rw [if_neg (by rw [pieq]; omega), if_neg (by rw [pilt]; simp only [ofN, xlen]; omega), if_neg (by rw [pieq]; omega)]
 unfold F_journal_blocks
 dsimp only
 have e0 : x + ((0 : Nat) : Int) = x := by omega
 have e1 : ((64 * 0 : Nat) : Int) = 0 := by omega
 rw [e0, e1] at g3
 exact g3
theorem save3_loop {N : Nat} {f : Nat → List UInt8} (hf : ∀ k, k < N → (f k).length = 64) (hN : 260 ≤ N ∧ N ≤ 2000) {x : Int} (hx : 0 ≤ x ∧ x ≤ 1000000000) {s : List UInt8} (hs : s.length ≤ 8192) {y : Nat} (hy : y < 18446744073709551616) {w K : Nat} (hw : w ≤ 1000) (hK : K ≤ 64) :
  ∀ (d m : Nat) (r : List D), m + d = needV s → m ≤ w → Holds r N (fillV f (nextN y % 2) s m) →
   (needV s + 1 ≤ w → ∃ r', iter (F_journal_Save_3_L1 s (y : Int) false (K : Int)) (((64 * m : Nat) : Int), x + (m : Int), r, (w : Int) - (m : Int)) = some (.inl (0, x + ((needV s + 1 : Nat) : Int), r', (w : Int) - ((needV s + 1 : Nat) : Int))) ∧ Holds r' N (savedV f (nextN y) s)) ∧
   (w ≤ needV s → ∃ r' z, iter (F_journal_Save_3_L1 s (y : Int) false (K : Int)) (((64 * m : Nat) : Int), x + (m : Int), r, (w : Int) - (m : Int)) = some (.inr (x + (w : Int), r', z)) ∧ Holds r' N (tornV f (nextN y) s w K)) := by
 have hn := next_lt y
 have hnl := need_le hs
 have h2 : nextN y % 2 < 2 := Nat.mod_lt _ (by omega)
 have sub1 : ∀ m : Nat, m ≤ 1000 → isub .i64 ((w : Int) - (m : Int)) 1 = (w : Int) - ((m + 1 : Nat) : Int) := fun m hm => by
  simp only [isub]
  rw [pwi64 (by omega) (by omega)]
  omega
 intro d
 induction d with
 | zero =>
  intro m r hm hmw hR
  obtain rfl : m = needV s := by omega
  have hlt : ¬ 64 * needV s < s.length := fun h => by have := need_lt.2 h; omega
  have hwr := hR.write2 (i := 130 * (nextN y % 2)) (by omega) (x + ((needV s : Nat) : Int)) ((w : Int) - ((needV s : Nat) : Int)) hK (headV_len (nextN y) s)
  refine ⟨fun hlw => ⟨setD r (130 * (nextN y % 2)) (arr64 (headV (nextN y) s)), ?_, ?_⟩, fun hwl => ⟨setD r (130 * (nextN y % 2)) (cpA 64 (getD r (130 * (nextN y % 2))) ((headV (nextN y) s).take K)), (w : Int) - ((needV s : Nat) : Int), ?_, ?_⟩⟩
  ·apply iter_inr
   unfold F_journal_Save_3_L1
   dsimp only
   rw [if_neg (by rw [pilt]; simp only [ofN, xlen]; omega), next_eq hy, p_jhead2 hn hs]
   dsimp only
   rw [at_head, hwr, if_neg (by omega), count1 hx (by omega), sub1 _ (by omega)]
   dsimp only
   rw [if_pos (by rw [pieq])]
  ·exact hR.set (by omega) (Is.arr (headV_len _ _)) (fun j hj => rfl)
  ·obtain rfl : w = needV s := by omega
   apply iter_inr
   unfold F_journal_Save_3_L1
   dsimp only
   rw [if_neg (by rw [pilt]; simp only [ofN, xlen]; omega), next_eq hy, p_jhead2 hn hs]
   dsimp only
   rw [at_head, hwr, if_pos (by omega)]
   dsimp only
   rw [if_neg (by rw [pieq]; omega)]
  ·obtain rfl : w = needV s := by omega
   refine hR.set (by omega) (Is.torn (hR.at_ _ (by omega)) (headV_len _ _) hK) (fun j hj => ?_)
   unfold tornV
   rw [if_neg (by omega)]
   (try dsimp only)
   rw [fill_out (j := 130 * (nextN y % 2)) (by omega)]
   by_cases e : j = 130 * (nextN y % 2)
   ·rw [if_pos e, if_pos e, e]
   ·rw [if_neg e, if_neg e]
 | succ d ih =>
  intro m r hm hmw hR
  have hlt : 64 * m < s.length := need_lt.1 (by omega)
  have hwr := hR.write2 (i := 130 * (nextN y % 2) + 1 + m) (by omega) (x + (m : Int)) ((w : Int) - (m : Int)) hK (chunk_len s m)
  by_cases hwm : w = m
  ·subst hwm
   refine ⟨fun h => by omega, fun _ => ⟨setD r (130 * (nextN y % 2) + 1 + w) (cpA 64 (getD r (130 * (nextN y % 2) + 1 + w)) ((chunkV s w).take K)), (w : Int) - (w : Int), ?_, ?_⟩⟩
   ·apply iter_inr
    unfold F_journal_Save_3_L1
    dsimp only
    rw [if_pos (by rw [pilt]; simp only [ofN, xlen]; omega), if_pos (by omega), if_pos (by simp only [ofN, xlen]; omega), p_chunk hlt hs, next_eq hy, at_data _ (by omega), hwr, if_pos (by omega)]
    dsimp only
    rw [if_neg (by rw [pieq]; omega)]
   ·refine hR.set (by omega) (Is.torn (hR.at_ _ (by omega)) (chunk_len _ _) hK) (fun j hj => ?_)
    unfold tornV
    rw [if_pos (by omega)]
    (try dsimp only)
    rw [fill_out (j := 130 * (nextN y % 2) + 1 + w) (by omega)]
    by_cases e : j = 130 * (nextN y % 2) + 1 + w
    ·rw [if_pos e, if_pos e, e]
    ·rw [if_neg e, if_neg e]
  ·have hih := ih (m + 1) (setD r (130 * (nextN y % 2) + 1 + m) (arr64 (chunkV s m))) (by omega) (by omega) (hR.set (by omega) (Is.arr (chunk_len _ _)) (fun j hj => fill_succ j))
   have hstep : iter (F_journal_Save_3_L1 s (y : Int) false (K : Int)) (((64 * m : Nat) : Int), x + (m : Int), r, (w : Int) - (m : Int)) = iter (F_journal_Save_3_L1 s (y : Int) false (K : Int)) (((64 * (m + 1) : Nat) : Int), x + ((m + 1 : Nat) : Int), setD r (130 * (nextN y % 2) + 1 + m) (arr64 (chunkV s m)), (w : Int) - ((m + 1 : Nat) : Int)) := by
    apply iter_inl
    unfold F_journal_Save_3_L1
    dsimp only
    rw [if_pos (by rw [pilt]; simp only [ofN, xlen]; omega), if_pos (by omega), if_pos (by simp only [ofN, xlen]; omega), p_chunk hlt hs, next_eq hy, at_data _ (by omega), hwr, if_neg (by omega), count1 hx (by omega), sub1 _ (by omega)]
    dsimp only
    rw [if_pos (by rw [pieq]), step64 (by omega)]
   rw [hstep]
   exact hih
theorem save3_big {s : List UInt8} (hs : 8192 < s.length) (hs2 : s.length ≤ 1000000) {r : List D} {N : Nat} {f : Nat → List UInt8} (hR : Holds r N f) (hN : 260 ≤ N ∧ N ≤ 2000) (x z u : Int) : F_journal_Save_3 s false x r z u = some (.inl (14, x, r, z)) := by
 unfold F_journal_Save_3
 obtain ⟨k, t, g1, g2⟩ := p_load hR hN x
 rw [load3_eq, g1]
 dsimp only
 rw [if_neg (by rw [pieq]; have := load_e f; omega), if_pos (by rw [pilt]; simp only [ofN, xlen]; omega)]
theorem p_save3 {s : List UInt8} (hs : s.length ≤ 8192) {r : List D} {N : Nat} {f : Nat → List UInt8} (hR : Holds r N f) (hN : 260 ≤ N ∧ N ≤ 2000) {x : Int} (hx : 0 ≤ x ∧ x ≤ 1000000000) {w K : Nat} (hw : w ≤ 1000) (hK : K ≤ 64) :
  (needV s + 1 ≤ w → ∃ r', F_journal_Save_3 s false x r (w : Int) (K : Int) = some (.inl (0, x + ((needV s + 1 : Nat) : Int), r', (w : Int) - ((needV s + 1 : Nat) : Int))) ∧ Holds r' N (savedV f (nextN (loadV f).2.1) s)) ∧
  (w ≤ needV s → ∃ r' z, F_journal_Save_3 s false x r (w : Int) (K : Int) = some (.inr (x + (w : Int), r', z)) ∧ Holds r' N (tornV f (nextN (loadV f).2.1) s w K)) := by
 obtain ⟨k, t, g1, g2⟩ := p_load hR hN x
 have hy := load_lt (f := f) (hR.l64 (by omega)) (hR.l64 (by omega))
 have h := save3_loop (f := f) (fun k hk => hR.l64 hk) hN hx hs hy hw hK (needV s) 0 r (by omega) (by omega) (by rw [fill_zero]; exact hR)
 have e0 : x + ((0 : Nat) : Int) = x := by omega
 have e1 : ((64 * 0 : Nat) : Int) = 0 := by omega
 have e2 : (w : Int) - ((0 : Nat) : Int) = (w : Int) := by omega
 rw [e0, e1, Int.sub_zero] at h
 have he := load_e f
 have hF : F_journal_Save_3 s false x r (w : Int) (K : Int) = iter (F_journal_Save_3_L1 s ((loadV f).2.1 : Int) false (K : Int)) (0, x, r, (w : Int)) := by
  unfold F_journal_Save_3
  rw [load3_eq, g1]
  dsimp only
  rw [if_neg (by rw [pieq]; omega), if_neg (by rw [pilt]; simp only [ofN, xlen]; omega), if_neg (by rw [pieq]; omega)]
  rfl
 rw [hF]
 exact h
end Go.Proofs.YtbkcmpggacbikaaDoor
end
section
/-
  What is there behind a save; the document's example.
-/
set_option linter.unusedVariables false
set_option linter.unusedSimpArgs false
namespace Go.Proofs.YtbkcmpggacbikaaDoor
theorem numW_head {n : Nat} (hn : n < 18446744073709551616) (b : List UInt8) : numW (headV n b) = n := by
 unfold numW headV
 rw [List.take_append_of_le_length (by rw [bigB_len]; omega), List.take_of_length_le (by rw [bigB_len]; omega), valB_bigB]
 exact Nat.mod_eq_of_lt hn
theorem lenW_head (n : Nat) {b : List UInt8} (hb : b.length ≤ 8192) : lenW (headV n b) = b.length := by
 unfold lenW headV
 rw [List.drop_append_of_le_length (by rw [bigB_len]; omega), List.drop_of_length_le (by rw [bigB_len]; omega), List.nil_append,
  List.take_append_of_le_length (by rw [bigB_len]; omega), List.take_of_length_le (by rw [bigB_len]; omega), valB_bigB]
 exact Nat.mod_eq_of_lt (by omega)
theorem data_chunks {g : Nat → List UInt8} {a : Nat} {b : List UInt8} : ∀ m, 64 * m ≤ b.length → (∀ i, i < m → g (130 * a + 1 + i) = chunkV b i) → dataV g a m = b.take (64 * m)
 | 0, _, _ => by simp [dataV]
 | m + 1, hm, h => by
  rw [dataV, data_chunks m (by omega) (fun i hi => h i (by omega)), h m (by omega)]
  have e : chunkV b m = (b.drop (64 * m)).take 64 := by
   unfold chunkV pad64
   have : 64 - ((b.drop (64 * m)).take 64).length = 0 := by simp; omega
   rw [this]
   simp
  rw [e, show 64 * (m + 1) = 64 * m + 64 by omega, List.take_add]
theorem read_chunks {g : Nat → List UInt8} {a : Nat} {b : List UInt8} (h : ∀ i, i < needV b → g (130 * a + 1 + i) = chunkV b i) : readD g a b.length = b := by
 unfold readD
 have hN : (b.length + 63) / 64 = needV b := rfl
 rw [hN]
 by_cases h0 : 64 * needV b = b.length
 ·rw [data_chunks _ (by omega) h, h0, List.take_of_length_le (Nat.le_refl _), List.take_of_length_le (Nat.le_refl _)]
 ·obtain ⟨m, hm⟩ : ∃ m, needV b = m + 1 := ⟨needV b - 1, by unfold needV at *; omega⟩
  have h1 : 64 * m < b.length ∧ b.length < 64 * (m + 1) := by unfold needV at *; omega
  rw [hm, dataV, data_chunks m (by omega) (fun i hi => h i (by omega)), h m (by omega)]
  have e : chunkV b m = b.drop (64 * m) ++ List.replicate (64 - (b.drop (64 * m)).length) 0 := by
   unfold chunkV pad64
   rw [List.take_of_length_le (by simp; omega)]
  rw [e, ← List.append_assoc, List.take_append_drop, List.take_append_of_le_length (Nat.le_refl _), List.take_of_length_le (Nat.le_refl _)]
theorem saved_head {f : Nat → List UInt8} {n : Nat} {b : List UInt8} : savedV f n b (130 * (n % 2)) = headV n b := by
 unfold savedV
 rw [if_pos rfl]
theorem saved_data {f : Nat → List UInt8} {n : Nat} {b : List UInt8} {i : Nat} (h : i < needV b) : savedV f n b (130 * (n % 2) + 1 + i) = chunkV b i := by
 unfold savedV fillV
 rw [if_neg (by omega), if_pos (by omega)]
 congr 1
 omega
theorem whole_of {g : Nat → List UInt8} {n : Nat} {b : List UInt8} (h0 : g (130 * (n % 2)) = headV n b) (h1 : ∀ i, i < needV b → g (130 * (n % 2) + 1 + i) = chunkV b i) (hn : n < 18446744073709551616) (h : n ≠ 0) (hb : b.length ≤ 8192) : wholeV g (n % 2) = (b, n) := by
 have hr := read_chunks (g := g) (a := n % 2) (b := b) h1
 unfold wholeV
 rw [h0, numW_head hn, lenW_head n hb, hr, if_pos ⟨h, rfl, hb, rfl⟩]
theorem whole_saved {f : Nat → List UInt8} {n : Nat} {b : List UInt8} (hn : n < 18446744073709551616) (h : n ≠ 0) (hb : b.length ≤ 8192) : wholeV (savedV f n b) (n % 2) = (b, n) :=
 whole_of saved_head (fun i hi => saved_data hi) hn h hb
theorem whole_congr {f g : Nat → List UInt8} {a : Nat} (h : ∀ j, 130 * a ≤ j → j ≤ 130 * a + 128 → f j = g j) : wholeV f a = wholeV g a := by
 have h0 := h (130 * a) (Nat.le_refl _) (by omega)
 unfold wholeV
 rw [h0]
 by_cases hL : lenW (g (130 * a)) ≤ 8192
 ·have hr : readD f a (lenW (g (130 * a))) = readD g a (lenW (g (130 * a))) := by
   unfold readD
   rw [dataV_congr (g := g) (fun i hi => h _ (by omega) (by omega))]
  rw [hr]
 ·rw [if_neg (fun hc => hL hc.2.2.1), if_neg (fun hc => hL hc.2.2.1)]
theorem saved_other {f : Nat → List UInt8} {n : Nat} {b : List UInt8} (hb : b.length ≤ 8192) {a : Nat} (ha : a ≤ 1) (h : a ≠ n % 2) : wholeV (savedV f n b) a = wholeV f a := by
 have h2 : n % 2 < 2 := Nat.mod_lt _ (by omega)
 have hl := need_le hb
 refine whole_congr fun j h1 h3 => ?_
 unfold savedV fillV
 rw [if_neg (by omega), if_neg (by omega)]
theorem whole_none {f : Nat → List UInt8} {a : Nat} (h : numW (f (130 * a)) = 0) : wholeV f a = ([], 0) := by
 unfold wholeV
 rw [if_neg (fun hc => hc.1 h)]
theorem numW_N64 : numW N64 = 0 := by decide
theorem whole_par {f : Nat → List UInt8} {a : Nat} (h : (wholeV f a).2 ≠ 0) : (wholeV f a).2 % 2 = a ∧ (wholeV f a).2 = numW (f (130 * a)) := by
 unfold wholeV at h ⊢
 split
 ·rename_i hc; exact ⟨hc.2.1, rfl⟩
 ·rename_i hc; rw [if_neg hc] at h; exact absurd rfl h
theorem load_of {f : Nat → List UInt8} {n : Nat} {b : List UInt8} (h : n ≠ 0) (h1 : wholeV f (n % 2) = (b, n)) (h2 : (wholeV f (1 - n % 2)).2 < n) : loadV f = (b, n, 0) := by
 have hm : n % 2 = 0 ∨ n % 2 = 1 := by omega
 unfold loadV
 rcases hm with hm | hm
 ·rw [hm] at h1 h2
  rw [h1, if_neg (fun hc => h hc.1), if_pos h2]
 ·rw [hm] at h1 h2
  rw [h1, if_neg (fun hc => h hc.2), if_neg (by show ¬ n < (wholeV f 0).2; have : (wholeV f 0).2 < n := h2; omega)]
theorem load_none {f : Nat → List UInt8} (h0 : (wholeV f 0).2 = 0) (h1 : (wholeV f 1).2 = 0) : loadV f = ([], 0, 39) := by
 unfold loadV
 rw [if_pos ⟨h0, h1⟩]
theorem whole_new (a : Nat) : wholeV (fun _ => N64) a = ([], 0) := by
 have h : numW ((fun _ : Nat => N64) (130 * a)) = 0 := by
  show numW N64 = 0
  exact numW_N64
 exact whole_none h
theorem load_new : loadV (fun _ => N64) = ([], 0, 39) :=
 load_none (by rw [whole_new]) (by rw [whole_new])
theorem load_saved {f : Nat → List UInt8} {n : Nat} {b : List UInt8} (hn : n < 18446744073709551616) (h : n ≠ 0) (hb : b.length ≤ 8192) (h2 : (wholeV f (1 - n % 2)).2 < n) : loadV (savedV f n b) = (b, n, 0) :=
 load_of h (whole_saved hn h hb) (by rw [saved_other hb (by omega) (by omega)]; exact h2)
theorem p_awake : F_tollbarlaw32_awake = some true := by
 have hR := holds_new 260
 obtain ⟨k1, t1, g1, g2⟩ := p_load hR (by omega) 0
 obtain ⟨r', g3, g4⟩ := p_save (s := [97]) (by simp) hR (by omega) (x := 0) (by omega)
 rw [load_new] at g1 g2 g4
 have hs : loadV (savedV (fun _ => N64) (nextN 0) [97]) = ([97], 1, 0) := load_saved (n := 1) (by omega) (by omega) (by simp) (by rw [whole_new]; omega)
 obtain ⟨k2, t2, g5, g6⟩ := p_load g4 (by omega) (0 + ((needV [97] + 1 : Nat) : Int))
 dsimp only at g1 g3 g4 g5 g6
 rw [hs] at g5 g6
 unfold F_tollbarlaw32_awake
 have e0 : (260 : Int) = ((260 : Nat) : Int) := rfl
 rw [e0, p_new (by omega)]
 dsimp only
 rw [g1]
 dsimp only
 have eb : byteOf (97 : Int) = 97 := rfl
 rw [if_pos (by omega), eb, if_pos (by simp [ofN, xlen]), g3]
 dsimp only
 rw [g5]
 dsimp only
 rw [if_pos (by rw [pieq]), if_pos (by rw [pieq]), if_pos (by rw [pseq]; exact g6), if_pos (by rw [pieq]; rfl), if_pos (by rw [pieq])]
 have h2 : F_journal_Save_2 [] = some () := by
  unfold F_journal_Save_2 F_journal_Load_2 F_block_Device_Blocks_2
  rfl
 rw [h2]
 rfl
end Go.Proofs.YtbkcmpggacbikaaDoor
end
section
/-
  What stands behind both areas plays no part; an area whose sum is another one gives way.
-/
set_option linter.unusedVariables false
set_option linter.unusedSimpArgs false
namespace Go.Proofs.YtbkcmpggacbikaaDoor
theorem setB_len (s : List UInt8) (k : Nat) (x : Int) : (setB s k x).length = s.length := by simp [setB]
theorem xor1 : ∀ c : Fin 256, 0 ≤ ixor .u8 (c.val : Int) 1 ∧ ixor .u8 (c.val : Int) 1 < 256 ∧ ixor .u8 (c.val : Int) 1 ≠ (c.val : Int) := by decide +kernel
theorem xor1B (s : List UInt8) (j : Nat) : 0 ≤ ixor .u8 (getB s j) 1 ∧ ixor .u8 (getB s j) 1 < 256 ∧ ixor .u8 (getB s j) 1 ≠ getB s j :=
 xor1 ⟨(s.getD j 0).toNat, u8lt _⟩
def putV (f : Nat → List UInt8) (k : Nat) (s : List UInt8) : Nat → List UInt8 := fun j => if j = k then s else f j
theorem put_ne {f : Nat → List UInt8} {k j : Nat} {s : List UInt8} (h : j ≠ k) : putV f k s j = f j := by unfold putV; rw [if_neg h]
theorem put_eq {f : Nat → List UInt8} {k : Nat} {s : List UInt8} : putV f k s k = s := by unfold putV; rw [if_pos rfl]
theorem Holds.put {r : List D} {n : Nat} {f : Nat → List UInt8} (h : Holds r n f) {k : Nat} (hk : k < n) {s : List UInt8} (hs : s.length = 64) : Holds (setD r k (arr64 s)) n (putV f k s) :=
 h.set hk (Is.arr hs) (fun j hj => rfl)
theorem whole_turned {f g : Nat → List UInt8} {n : Nat} {b : List UInt8} (hn : n < 18446744073709551616) (hb : b.length ≤ 8192) {c : Nat} (hc : 12 ≤ c ∧ c < 16) {v : Int} (hv : 0 ≤ v ∧ v < 256 ∧ v ≠ getB (headV n b) c)
  (h0 : g (130 * (n % 2)) = setB (headV n b) c v) (h1 : ∀ i, i < needV b → g (130 * (n % 2) + 1 + i) = chunkV b i) : wholeV g (n % 2) = ([], 0) := by
 have hr := read_chunks (g := g) (a := n % 2) (b := b) h1
 have hl := headV_len n b
 have t8 : (setB (headV n b) c v).take 8 = (headV n b).take 8 := by
  unfold setB
  rw [List.take_set_of_le (by omega)]
 have t12 : ((setB (headV n b) c v).drop 8).take 4 = ((headV n b).drop 8).take 4 := by
  unfold setB
  rw [List.drop_set, if_neg (by omega), List.take_set_of_le (by omega)]
 have e1 : numW (setB (headV n b) c v) = n := by
  unfold numW
  rw [t8]
  exact numW_head hn b
 have e2 : lenW (setB (headV n b) c v) = b.length := by
  unfold lenW
  rw [t12]
  exact lenW_head n hb
 unfold wholeV
 rw [h0, e1, e2, hr, if_neg]
 rintro ⟨_, _, _, h⟩
 have hg : getB (setB (headV n b) c v) c = getB (headV n b) c := by rw [h]
 apply hv.2.2
 rw [← hg]
 have hlt : c < (headV n b).length := by omega
 simp [getB, setB, hlt]
 omega
theorem rest_law {x : Int} (hx : 0 ≤ x ∧ x < 256) (s1 s2 : List UInt8) : F_tollbarlaw32_JournalRest s1 s2 x = some true := by
 unfold F_tollbarlaw32_JournalRest
 rw [p_awake]
 dsimp only
 rw [if_pos rfl]
 by_cases h1 : 3000 < s1.length
 ·rw [if_pos (by rw [pilt]; simp only [ofN, xlen]; omega)]
 rw [if_neg (by rw [pilt]; simp only [ofN, xlen]; omega)]
 by_cases h2 : 3000 < s2.length
 ·rw [if_pos (by rw [pilt]; simp only [ofN, xlen]; omega)]
 rw [if_neg (by rw [pilt]; simp only [ofN, xlen]; omega)]
 have e0 : (270 : Int) = ((270 : Nat) : Int) := rfl
 rw [e0, p_new (by omega)]
 dsimp only
 rw [if_pos (by omega)]
 have fill : ∀ (d i : Nat) (s : List UInt8), i + d = 64 → s.length = 64 → ∃ s', s'.length = 64 ∧ iter (F_tollbarlaw32_JournalRest_L2 x s1 (List.replicate 270 Z64) s2) ((i : Int), s) = iter (F_tollbarlaw32_JournalRest_L2 x s1 (List.replicate 270 Z64) s2) (((64 : Nat) : Int), s') := by
  intro d
  induction d with
  | zero =>
   intro i s hi hs
   obtain rfl : i = 64 := by omega
   exact ⟨s, hs, rfl⟩
  | succ d ih =>
   intro i s hi hs
   obtain ⟨s', g1, g2⟩ := ih (i + 1) (setB s i x) (by omega) (by rw [setB_len]; exact hs)
   refine ⟨s', g1, ?_⟩
   rw [← g2]
   apply iter_inl
   unfold F_tollbarlaw32_JournalRest_L2
   dsimp only
   rw [if_pos (by rw [pilt]; omega), if_pos (by simp only [ofN, xlen]; omega), if_pos hx, pnext (by omega), ptoN]
 obtain ⟨o, ho, hit⟩ := fill 64 0 (@lrep UInt8 (toN 64) 0) (by omega) (by simp [lrep, toN])
 have e1 : ((0 : Nat) : Int) = 0 := rfl
 rw [e1] at hit
 rw [hit]
 apply iter_inr
 have hR0 := holds_new 270
 obtain ⟨r1, a1, hR1⟩ := p_save (s := s1) (by omega) hR0 (by omega) (x := 0) (by omega)
 rw [load_new] at hR1
 have hR1 : Holds r1 270 (savedV (fun _ => N64) 1 s1) := hR1
 have n1 := need_le (s := s1) (by omega)
 have n2 := need_le (s := s2) (by omega)
 have l1 : loadV (savedV (fun _ => N64) 1 s1) = (s1, 1, 0) := load_saved (n := 1) (by omega) (by omega) (by omega) (by rw [whole_new]; show 0 < 1; omega)
 have w1 : wholeV (savedV (fun _ => N64) 1 s1) 1 = (s1, 1) := whole_saved (n := 1) (by omega) (by omega) (by omega)
 obtain ⟨r2, a2, hR2⟩ := p_save (s := s2) (by omega) hR1 (by omega) (x := 0 + ((needV s1 + 1 : Nat) : Int)) (by omega)
 rw [l1] at hR2
 have hR2 : Holds r2 270 (savedV (savedV (fun _ => N64) 1 s1) 2 s2) := hR2
 have l2 : loadV (savedV (savedV (fun _ => N64) 1 s1) 2 s2) = (s2, 2, 0) := load_saved (n := 2) (by omega) (by omega) (by omega) (by show (wholeV (savedV (fun _ => N64) 1 s1) 1).2 < 2; rw [w1]; show 1 < 2; omega)
 have w2 : wholeV (savedV (savedV (fun _ => N64) 1 s1) 2 s2) 1 = (s1, 1) := by rw [saved_other (by omega) (by omega) (by omega)]; exact w1
 generalize hf2 : savedV (savedV (fun _ => N64) 1 s1) 2 s2 = f2 at hR2 l2 w2
 have hh : f2 0 = headV 2 s2 := by rw [← hf2]; exact saved_head (n := 2)
 have hd : ∀ i, i < needV s2 → f2 (0 + 1 + i) = chunkV s2 i := fun i hi => by rw [← hf2]; exact saved_data (n := 2) hi
 generalize hx2 : (0 : Int) + ((needV s1 + 1 : Nat) : Int) + ((needV s2 + 1 : Nat) : Int) = x2 at a2
 have b1 : F_block_Device_Write 265 o false x2 r2 = some (0, iadd .i64 x2 1, setD r2 265 (arr64 o)) := hR2.write (i := 265) (by omega) x2 ho
 have hR3 := hR2.put (k := 265) (by omega) ho
 have b2 : F_block_Device_Write 129 o false (iadd .i64 x2 1) (setD r2 265 (arr64 o)) = some (0, _, _) := hR3.write (i := 129) (by omega) (iadd .i64 x2 1) ho
 have hR4 := hR3.put (k := 129) (by omega) ho
 have b3 : F_block_Device_Write 259 o false (iadd .i64 (iadd .i64 x2 1) 1) (setD (setD r2 265 (arr64 o)) 129 (arr64 o)) = some (0, _, _) := hR4.write (i := 259) (by omega) (iadd .i64 (iadd .i64 x2 1) 1) ho
 have hR5 := hR4.put (k := 259) (by omega) ho
 have same : ∀ j, j ≤ 128 ∨ 130 ≤ j ∧ j ≤ 258 → putV (putV (putV f2 265 o) 129 o) 259 o j = f2 j := fun j hj => by
  rw [put_ne (by omega), put_ne (by omega), put_ne (by omega)]
 generalize hf5 : putV (putV (putV f2 265 o) 129 o) 259 o = f5 at hR5 same
 have l5 : loadV f5 = (s2, 2, 0) := by
  rw [← l2]
  unfold loadV
  rw [whole_congr (f := f5) (g := f2) (a := 0) (fun j h1 h2 => same j (by omega)), whole_congr (f := f5) (g := f2) (a := 1) (fun j h1 h2 => same j (by omega))]
 generalize setD (setD (setD r2 265 (arr64 o)) 129 (arr64 o)) 259 (arr64 o) = r5 at hR5 b3
 generalize iadd .i64 (iadd .i64 (iadd .i64 x2 1) 1) 1 = x5 at b3
 obtain ⟨k5, t5, c1, c2⟩ := p_load hR5 (by omega) x5
 rw [l5] at c1 c2
 have d1 : F_block_Device_Read 0 false x5 r5 = some (0, f5 0) := hR5.read (i := 0) (by omega) x5
 have hh5 : f5 0 = headV 2 s2 := by rw [same 0 (by omega)]; exact hh
 rw [hh5] at d1
 have hm : irem (iconv .i64 x) 4 = x % 4 := by
  simp only [irem, iconv]
  rw [pwi64 (by omega) (by omega), Int.tmod_eq_emod_of_nonneg (by omega)]
 have hc : iadd .i64 12 (irem (iconv .i64 x) 4) = ((12 + (x % 4).toNat : Nat) : Int) := by
  rw [hm]
  simp only [iadd]
  rw [pwi64 (by omega) (by omega)]
  omega
 have hcr : 12 ≤ 12 + (x % 4).toNat ∧ 12 + (x % 4).toNat < 16 := by omega
 generalize 12 + (x % 4).toNat = c at hc hcr
 have hv := xor1B (headV 2 s2) c
 generalize hve : ixor .u8 (getB (headV 2 s2) c) 1 = v at hv
 have hl2 := headV_len 2 s2
 have hs5 : (setB (headV 2 s2) c v).length = 64 := by rw [setB_len]; exact hl2
 have b6 : F_block_Device_Write_2 0 (setB (headV 2 s2) c v) false x5 r5 = some (0, iadd .i64 x5 1, setD r5 0 (arr64 (setB (headV 2 s2) c v))) := hR5.write (i := 0) (by omega) x5 hs5
 have hR6 := hR5.put (k := 0) (by omega) hs5
 have w60 : wholeV (putV f5 0 (setB (headV 2 s2) c v)) 0 = ([], 0) :=
  whole_turned (f := f5) (n := 2) (b := s2) (by omega) (by omega) hcr hv put_eq (fun i hi => by
   show putV f5 0 _ (0 + 1 + i) = _
   rw [put_ne (by omega), same _ (by omega)]
   exact hd i hi)
 have w61 : wholeV (putV f5 0 (setB (headV 2 s2) c v)) 1 = (s1, 1) := by
  rw [← w2]
  refine whole_congr fun j g1 g2 => ?_
  rw [put_ne (by omega), same j (by omega)]
 have l6 : loadV (putV f5 0 (setB (headV 2 s2) c v)) = (s1, 1, 0) := by
  unfold loadV
  rw [w60, w61]
  rfl
 obtain ⟨k6, t6, c3, c4⟩ := p_load hR6 (by omega) (iadd .i64 x5 1)
 rw [l6] at c3 c4
 unfold F_tollbarlaw32_JournalRest_L2
 dsimp only
 rw [if_neg (by rw [pilt]; omega), a1]
 dsimp only
 rw [if_pos (by rw [pieq]), a2]
 dsimp only
 rw [if_pos (by rw [pieq]), b1]
 dsimp only
 rw [b2]
 dsimp only
 rw [b3]
 dsimp only
 rw [c1]
 dsimp only
 rw [if_pos (by rw [pieq]), if_pos (by rw [pieq]; rfl), if_pos (by rw [pseq]; exact c2), d1]
 dsimp only
 rw [hc, ptoN, hve]
 rw [if_pos (by simp only [ofN, xlen]; omega), if_pos (by simp only [ofN, xlen]; omega), if_pos ⟨hv.1, hv.2.1⟩, b6]
 dsimp only
 rw [c3]
 dsimp only
 rw [if_pos (by rw [pieq]), if_pos (by rw [pieq]; rfl)]
 have : seq (lsub t6 0 k6) s1 = true := by rw [pseq]; exact c4
 rw [this]
theorem p_JournalRest (s1 s2 : List UInt8) (x : Int) (h1 : (Ty.bytes 5).rng (.s s1)) (h2 : (Ty.bytes 5).rng (.s s2)) (h3 : (Lit.int .u8 x).wf = true) : F_tollbarlaw32_JournalRest s1 s2 x = some true := rest_law (wf_u8 h3) s1 s2
end Go.Proofs.YtbkcmpggacbikaaDoor
end
section
/-
  The table `half` of package frame, as the row lays it: what it holds, where it stands.
-/
set_option linter.unusedVariables false
set_option linter.unusedSimpArgs false
namespace Go.Proofs.YtbkcmpggacbikaaDoor
open Go.ChangeShapes Go.WideShapes Go.ChangeAt Go.WideMaps Go.WideElems Go.RowKit
def laidL : List (String × DataW Unit) := [("tollbar/frame.half", Rows.laid_tollbar_frame_half)]
def halfL : List Int := [0, 274646895, 549293790, 820201905, 1098587580, 1361435347, 1640403810, 1905808397, 2197175160, 2460548119, 2722870694, 2987750089, 3280807620, 3553878443, 3811616794, 4084100981]
theorem gHalf : Tryd.prog.globalNamed "tollbar/frame.half" = some 0 := by kernel_rfl
theorem tHalf : (Tryd.prog.globals[0]?).map (·.type) = some 102 := by kernel_rfl
theorem laid_is : (Rows.laid_tollbar_frame_half : DataW Unit) = .agg (halfL.map fun k => .lit (.int .u32 k)) := rfl
theorem laid_cells {W : World} (h : laidMetH Tryd.prog laidL W) : ∀ i, i < 16 → W.cell? ⟨0, i, none⟩ = some (.int .u32 (halfL.getD i 0)) := by
 rw [MakeChecks.laidMetH_plain _ _ _ (by kernel_rfl)] at h
 obtain ⟨ps, ⟨g0, t0, cs0, f0, p0, q0, hg0, ht0, hv0, hd0, _, _⟩, _, _⟩ := h
 obtain rfl := Option.some.inj (gHalf.symm.trans hg0)
 obtain rfl := Option.some.inj (tHalf.symm.trans ht0)
 obtain ⟨xs, m1, rfl, hx1, hlen, hn3, hel⟩ := DataW.trod_array Tryd.underlying102 hd0
 have c3 : Tryd.prog.cellsOf 75 = 1 := by kernel_rfl
 simp only [Prod.mk.injEq] at hx1
 obtain ⟨hx1, _⟩ := hx1
 rw [laid_is] at hx1
 simp only [DataW.agg.injEq] at hx1
 intro i hi
 have h0 := hel i hi
 have hxi : i < xs.length := by omega
 rw [List.getElem?_eq_getElem hxi] at h0
 obtain ⟨k, e1, e2, _⟩ := DataW.trod_int Tryd.underlying75 h0
 have hk := congrArg (fun l => l[i]?) hx1
 have hil : i < halfL.length := hi
 simp only [List.getElem?_map, List.getElem?_eq_getElem hxi, List.getElem?_eq_getElem hil, Option.map_some, Option.some.injEq, e2, DataW.lit.injEq, Lit.int.injEq, true_and] at hk
 have := World.var?_cell hg0 hv0 i
 rw [this]
 rw [c3] at e1
 have e3 : cs0.toList[i]? = some (.int .u32 k) := by
  have := congrArg (fun l => l[0]?) e1
  simpa [List.getElem?_take, List.getElem?_drop] using this
 have e4 : cs0[i]? = some (.int .u32 k) := by simpa using e3
 rw [e4, ← hk]
 simp [hil]
theorem laid_den {W : World} (h : laidMetH Tryd.prog laidL W) : ∀ g r, (g, r) ∈ globs → Den (fun _ => none) W (fun _ => False) (.rsl r) (.slice (some ⟨g, 0, none⟩) (rlen r) (rlen r)) := by
 intro g r hg
 have hc := laid_cells h
 have e : (g, r) = (0, R.ints 75 .u32 halfL) := List.mem_singleton.1 hg
 injection e with e1 e2
 subst e1
 subst e2
 refine .rsl (.ints 75 .u32 halfL) _ _ (fun i j => .int .u32 (halfL.getD i 0)) (Nat.le_refl _) (fun _ => ⟨_, rfl, ?_, fun h => h⟩) ?_ ?_
 ·have h0 := hc 0 (by omega)
  unfold World.cell? at h0
  cases hb : W.heap[0]? with
  | none => rw [hb] at h0; cases h0
  | some o => exact (Array.getElem?_eq_some_iff.1 hb).1
 ·intro i j ad e1 hi hj
  injection e1 with e1
  subst e1
  simp only [R.sz] at hj ⊢
  obtain rfl : j = 0 := by omega
  simp only [Nat.mul_one, add_zero', add_lit', Nat.zero_add]
  exact ⟨hc i hi, rfl⟩
 ·intro i j hi hj
  simp only [R.elem, List.length_singleton] at hj
  obtain rfl : j = 0 := by omega
  simp only [R.elem, List.getElem_cons_zero, lock_eq, getI]
  exact .v _
end Go.Proofs.YtbkcmpggacbikaaDoor
end
