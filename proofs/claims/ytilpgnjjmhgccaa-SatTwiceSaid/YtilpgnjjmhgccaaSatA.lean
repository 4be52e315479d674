/-
  The walks of the statements on sums that never wrap.
-/
import Derived.Test.YtilpgnjjmhgccaaSatW
set_option linter.unusedVariables false
set_option linter.unusedSimpArgs false
namespace Go.Proofs.Ytilpgnjjmhgccaa
open Go.RowKit

theorem U_of {a : Int} (h0 : 0 ≤ a) (h1 : a ≤ 18446744073709551615) : U a := ⟨h0, h1⟩

theorem awake_c (w : World) :
    Calls Try.prog 7 #[] w fun e w' => e = .returned (.bool true) ∧ Below w.heap.size w w' := by
  have e1 : (sadd 18446744073709551615 1 == 18446744073709551615) = true := by decide
  have e2 : (sfill 5 3 2 10 == 10) = true := by decide
  have e3 : (sfill 11 3 2 10 == 11) = true := by decide
  have e4 : (ssub 3 5 == 0) = true := by decide
  have e5 : (smul 6 7 == 42) = true := by decide
  have e6 : (ssum [1, 2, 3] == 6) = true := by decide
  go_enter Try.func7, Try.ntmps7
  go_wp2_with first | (go_at_call 8; (with_reducible refine (add_c _ _ _ (U_of (by decide) (by decide)) (U_of (by decide) (by decide))).mono ?_); rintro e w' ⟨rfl, rfl⟩) | (go_at_call 10; (with_reducible refine (sub_c _ _ _ (U_of (by decide) (by decide)) (U_of (by decide) (by decide))).mono ?_); rintro e w' ⟨rfl, rfl⟩) | (go_at_call 12; (with_reducible refine (mul_c _ _ _ (U_of (by decide) (by decide)) (U_of (by decide) (by decide))).mono ?_); rintro e w' ⟨rfl, rfl⟩) | (go_at_call 16; (with_reducible refine (fill_c _ _ _ _ _ (U_of (by decide) (by decide)) (U_of (by decide) (by decide)) (U_of (by decide) (by decide)) (U_of (by decide) (by decide))).mono ?_); rintro e w' ⟨rfl, rfl⟩)
  refine (sum_c _ _ _ [1, 2, 3] _ (Ints.new w .u64 22 [1, 2, 3] (by decide) (by decide))).mono ?_
  rintro e w' ⟨rfl, rfl⟩
  go_wp2
  go_ret
  exact ⟨rfl, (Below.refl _ _).alloc (Nat.le_refl _) _⟩

theorem tells_c (a b : Int) (A : Option Addr) (n c : Nat) (xs : List Int) (w : World) (wa : (Lit.int .u64 a).wf = true) (wb : (Lit.int .u64 b).wf = true) (h : Ints w .u64 A n xs) :
    Calls Try.prog 3 #[.int .u64 a, .int .u64 b, .slice A n c] w fun e w' => e = .returned (.bool true) ∧ Below w.heap.size w w' := by
  have ha := u64_U wa
  have hb := u64_U wb
  have hm := h.most
  clear wa wb
  go_enter Try.func3, Try.ntmps3
  go_wp2_with first | (go_at_call 7; (with_reducible refine (awake_c _).mono ?_); rintro e w1 ⟨rfl, hB⟩; have hI := h.below hB) | (go_at_call 8; (with_reducible refine (add_c _ _ _ ha hb).mono ?_); rintro e w' ⟨rfl, rfl⟩) | (go_at_call 10; (with_reducible refine (sub_c _ _ _ ha hb).mono ?_); rintro e w' ⟨rfl, rfl⟩) | (go_at_call 12; (with_reducible refine (mul_c _ _ _ ha hb).mono ?_); rintro e w' ⟨rfl, rfl⟩) | (go_at_call 14; (with_reducible refine (sum_c _ _ _ _ _ hI).mono ?_); rintro e w' ⟨rfl, rfl⟩) | (go_at_call 9; (with_reducible refine (radd_c _ _ _ ha hb).mono ?_); rintro e w' ⟨rfl, rfl⟩) | (go_at_call 11; (with_reducible refine (rsub_c _ _ _ ha hb).mono ?_); rintro e w' ⟨rfl, rfl⟩) | (go_at_call 13; (with_reducible refine (rmul_c _ _ _ ha hb).mono ?_); rintro e w' ⟨rfl, rfl⟩) | (go_at_call 15; (with_reducible refine (rsum_c _ _ _ _ _ hI).mono ?_); rintro e w' ⟨rfl, rfl⟩)
  all_goals
    go_ret
    exact ⟨rfl, hB⟩

theorem Ints.U_at {w : World} {A : Option Addr} {n : Nat} {xs : List Int} (h : Ints w .u64 A n xs) {j : Nat} (hj : j < n) : U (xs[j]?.getD 0) := by
  have hl : j < xs.length := by have := h.len; omega
  rw [List.getElem?_eq_getElem hl]
  exact u64_U (h.fits _ (List.getElem_mem hl))

theorem fills_c (A : Option Addr) (n c : Nat) (xs : List Int) (w : World) (h : Ints w .u64 A n xs) :
    Calls Try.prog 4 #[.slice A n c] w fun e w' => e = .returned (.bool true) ∧ Below w.heap.size w w' := by
  have hm := h.most
  go_enter Try.func4, Try.ntmps4
  go_wp2_with (go_at_call 7; (with_reducible refine (awake_c _).mono ?_); rintro e w1 ⟨rfl, hB⟩; have hI := h.below hB)
  · go_ret
    exact ⟨rfl, hB⟩
  · have h4 : 4 ≤ n := by omega
    obtain ⟨ad, hA, hcell⟩ := hI.cells (by omega)
    subst hA
    have c0 := hcell 0 (by omega)
    have c1 := hcell 1 (by omega)
    have c2 := hcell 2 (by omega)
    have c3 := hcell 3 (by omega)
    have g0 := hI.U_at (j := 0) (by omega)
    have g1 := hI.U_at (j := 1) (by omega)
    have g2 := hI.U_at (j := 2) (by omega)
    have g3 := hI.U_at (j := 3) (by omega)
    clear hcell
    generalize xs[0]?.getD 0 = x0 at c0 g0
    generalize xs[1]?.getD 0 = x1 at c1 g1
    generalize xs[2]?.getD 0 = x2 at c2 g2
    generalize xs[3]?.getD 0 = x3 at c3 g3
    rw [Addr.add_zero'] at c0
    simp only [Addr.add, Nat.reduceEqDiff, if_false, Nat.succ_ne_self, reduceIte] at c1 c2 c3
    have b0n : 0 < n := by omega
    have b1 : (1 : Int) < (n : Int) := by omega
    have b2 : (2 : Int) < (n : Int) := by omega
    have b3 : (3 : Int) < (n : Int) := by omega
    go_quiet ((first | (go_at_call 16; exact quietC (fill_c _ _ _ _ _ (by assumption) (by assumption) (by assumption) (by assumption))) | (go_at_call 17; exact quietC (rfill_c _ _ _ _ _ (by assumption) (by assumption) (by assumption) (by assumption)))))
    go_wp2
    go_ret
    exact ⟨rfl, below_drewN hB _⟩

set_option maxHeartbeats 1000000 in
theorem twice_c (A : Option Addr) (n c : Nat) (xs : List Int) (a b : Int) (w : World) (h : Ints w .u64 A n xs) (wa : (Lit.int .u32 a).wf = true) (wb : (Lit.int .u32 b).wf = true) :
    Calls Try.prog 6 #[.slice A n c, .int .u32 a, .int .u32 b] w fun e w' => e = .returned (.bool true) ∧ Below w.heap.size w w' := by
  have hm := h.most
  obtain ⟨a0, a1⟩ := bounds_u32 wa
  obtain ⟨b0, b1⟩ := bounds_u32 wb
  have ua : U a := U_of (by omega) (by omega)
  have ub : U b := U_of (by omega) (by omega)
  have uab : U (a + b) := U_of (by omega) (by omega)
  have u0 : U (0 : Int) := U_of (by decide) (by decide)
  clear wa wb
  by_cases h3 : n < 3
  · go_enter Try.func6, Try.ntmps6
    go_wp2_with (go_at_call 7; (with_reducible refine (awake_c _).mono ?_); rintro e w1 ⟨rfl, hB⟩)
    go_ret
    exact ⟨rfl, hB⟩
  · obtain ⟨ad, hA, hcell⟩ := h.cells (by omega)
    subst hA
    have c0 := hcell 0 (by omega)
    have c1 := hcell 1 (by omega)
    have c2 := hcell 2 (by omega)
    have g0 := h.U_at (j := 0) (by omega)
    have g1 := h.U_at (j := 1) (by omega)
    have g2 := h.U_at (j := 2) (by omega)
    clear hcell
    generalize xs[0]?.getD 0 = x at c0 g0
    generalize xs[1]?.getD 0 = y at c1 g1
    generalize xs[2]?.getD 0 = m at c2 g2
    rw [Addr.add_zero'] at c0
    simp only [Addr.add, Nat.reduceEqDiff, if_false, Nat.succ_ne_self, reduceIte] at c1 c2
    have k0 := World.block_lt_of_cell? w _ c0
    have k1 := World.block_lt_of_cell? w _ c1
    have k2 := World.block_lt_of_cell? w _ c2
    have b0n : 0 < n := by omega
    have f1 := sfill_U g0 g1 ua g2
    have f2 := sfill_twice g0 g1 ua ub uab g2
    have f3 := sfill_U g0 g1 uab g2
    have f4 : sfill x y a m ≤ sfill x y (a + b) m := by rw [← f2]; exact sfill_ge
    have f5 : x ≤ sfill x y a m := sfill_ge
    have f7 := sfill_none g0 g1 g2
    have f8 := sfill_zero g0 ua g2
    by_cases f6 : sfill x y (a + b) m ≤ m
    · go_enter Try.func6, Try.ntmps6
      go_wp2_with first | (go_at_call 7; (with_reducible refine (awake_c _).mono ?_); rintro e w1 ⟨rfl, hB⟩; have d0 := (hB.cell k0).trans c0; have d1 := (hB.cell k1).trans c1; have d2 := (hB.cell k2).trans c2) | (go_at_call 16; (with_reducible refine (fill_c _ _ _ _ _ (by assumption) (by assumption) (by assumption) (by assumption)).mono ?_); rintro e w' ⟨rfl, rfl⟩)
      all_goals
        go_ret
        exact ⟨rfl, hB⟩
    · have f9 := (sfill_most g0 g1 uab g2).resolve_left f6
      go_enter Try.func6, Try.ntmps6
      go_wp2_with first | (go_at_call 7; (with_reducible refine (awake_c _).mono ?_); rintro e w1 ⟨rfl, hB⟩; have d0 := (hB.cell k0).trans c0; have d1 := (hB.cell k1).trans c1; have d2 := (hB.cell k2).trans c2) | (go_at_call 16; (with_reducible refine (fill_c _ _ _ _ _ (by assumption) (by assumption) (by assumption) (by assumption)).mono ?_); rintro e w' ⟨rfl, rfl⟩)
      all_goals
        go_ret
        exact ⟨rfl, hB⟩

end Go.Proofs.Ytilpgnjjmhgccaa
