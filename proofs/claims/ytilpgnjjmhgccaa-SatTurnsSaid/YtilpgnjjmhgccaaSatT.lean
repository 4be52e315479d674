/-
  The walk of SatTurns.
-/
import Derived.Test.YtilpgnjjmhgccaaSatA
set_option linter.unusedVariables false
set_option linter.unusedSimpArgs false
namespace Go.Proofs.Ytilpgnjjmhgccaa
open Go.RowKit

set_option maxHeartbeats 1000000 in
theorem turns_c0 (a b c : Int) (w : World) (wa : (Lit.int .u64 a).wf = true) (wb : (Lit.int .u64 b).wf = true) (wc : (Lit.int .u64 c).wf = true) (hm : a ≤ b) (hz : b = 0) :
    Calls Try.prog 5 #[.int .u64 a, .int .u64 b, .int .u64 c] w fun e w' => e = .returned (.bool true) ∧ Below w.heap.size w w' := by
  have ha := u64_U wa
  have hb := u64_U wb
  have hc := u64_U wc
  have hf1 : ∀ x ∈ [a, b, c], (Lit.int .u64 x).wf = true := by simp [wa, wb, wc]
  have hf2 : ∀ x ∈ [c, a, b], (Lit.int .u64 x).wf = true := by simp [wa, wb, wc]
  clear wa wb wc
  have u0 : U (0 : Int) := U_of (by decide) (by decide)
  have u1 : U (1 : Int) := U_of (by decide) (by decide)
  have u2 := sadd_U ha hb
  have u3 := sadd_U hb hc
  have u4 := smul_U ha hb
  have u5 := smul_U hb hc
  have u6 := ssub_U ha hb
  have e1 : sadd b a = sadd a b := sadd_comm b a
  obtain ⟨g1, g2⟩ := sadd_le ha hb
  have g3 := ssub_sadd ha hb
  have e2 : sadd a (sadd b c) = sadd (sadd a b) c := (sadd_assoc ha hb hc).symm
  have e3 : smul b a = smul a b := smul_comm b a
  have e4 := smul_one ha
  have e5 := smul_zero a
  have e7 : ssum [c, a, b] = ssum [a, b, c] := (ssum_turn ha hb hc).symm
  have e8 := sadd_ssub ha hb
  unfold smin at e8
  have a0 := ha.1
  have b0 := hb.1
  have c0 := hc.1
  have S1 : ∀ (W : World) (m : Nat), W.heap.size = m → Calls Try.prog 14 #[.slice (some ⟨m, 0, none⟩) 3 3] (W.alloc (.cells #[.int .u64 a, .int .u64 b, .int .u64 c] 22)) fun e w' => e = .returned (.int .u64 (ssum [a, b, c])) ∧ W.alloc (.cells #[.int .u64 a, .int .u64 b, .int .u64 c] 22) = w' :=
    fun W m hm => hm ▸ sum_c _ _ _ _ _ (Ints.new W .u64 22 [a, b, c] (by simp) hf1)
  have S2 : ∀ (W : World) (m : Nat), W.heap.size = m → Calls Try.prog 14 #[.slice (some ⟨m, 0, none⟩) 3 3] (W.alloc (.cells #[.int .u64 c, .int .u64 a, .int .u64 b] 22)) fun e w' => e = .returned (.int .u64 (ssum [a, b, c])) ∧ W.alloc (.cells #[.int .u64 c, .int .u64 a, .int .u64 b] 22) = w' :=
    fun W m hm => by subst hm; rw [← e7]; exact sum_c _ _ _ _ _ (Ints.new W .u64 22 [c, a, b] (by simp) hf2)
  clear hf1 hf2 e7
  rw [if_pos hm] at e8
  subst hz
  have hzz : ¬ (0 : Int) < 0 := by omega
  go_enter Try.func5, Try.ntmps5
  go_wp2_with first | (go_at_call 7; (with_reducible refine (awake_c _).mono ?_); rintro e w1 ⟨rfl, hB⟩) | (go_at_call 8; (with_reducible refine (add_c _ _ _ (by assumption) (by assumption)).mono ?_); rintro e w' ⟨rfl, rfl⟩) | (go_at_call 10; (with_reducible refine (sub_c _ _ _ (by assumption) (by assumption)).mono ?_); rintro e w' ⟨rfl, rfl⟩) | (go_at_call 12; (with_reducible refine (mul_c _ _ _ (by assumption) (by assumption)).mono ?_); rintro e w' ⟨rfl, rfl⟩) | (go_at_call 16; (with_reducible refine (fill_c _ _ _ _ _ (by assumption) (by assumption) (by assumption) (by assumption)).mono ?_); rintro e w' ⟨rfl, rfl⟩) | (go_at_call 17; (with_reducible refine (rfill_c _ _ _ _ _ (by assumption) (by assumption) (by assumption) (by assumption)).mono ?_); rintro e w' ⟨rfl, rfl⟩) | (go_at_call 14; (first | (with_reducible refine (S1 _ _ (by simp)).mono ?_) | (with_reducible refine (S2 _ _ (by simp)).mono ?_)); rintro e w' ⟨rfl, rfl⟩)
  all_goals
    go_ret
    exact ⟨rfl, (hB.alloc hB.size _).alloc (by simp; have := hB.size; omega) _⟩

set_option maxHeartbeats 1000000 in
theorem turns_c1 (a b c : Int) (w : World) (wa : (Lit.int .u64 a).wf = true) (wb : (Lit.int .u64 b).wf = true) (wc : (Lit.int .u64 c).wf = true) (hm : a ≤ b) (hz : 0 < b) (hz1 : a = 0) :
    Calls Try.prog 5 #[.int .u64 a, .int .u64 b, .int .u64 c] w fun e w' => e = .returned (.bool true) ∧ Below w.heap.size w w' := by
  have ha := u64_U wa
  have hb := u64_U wb
  have hc := u64_U wc
  have hf1 : ∀ x ∈ [a, b, c], (Lit.int .u64 x).wf = true := by simp [wa, wb, wc]
  have hf2 : ∀ x ∈ [c, a, b], (Lit.int .u64 x).wf = true := by simp [wa, wb, wc]
  clear wa wb wc
  have u0 : U (0 : Int) := U_of (by decide) (by decide)
  have u1 : U (1 : Int) := U_of (by decide) (by decide)
  have u2 := sadd_U ha hb
  have u3 := sadd_U hb hc
  have u4 := smul_U ha hb
  have u5 := smul_U hb hc
  have u6 := ssub_U ha hb
  have e1 : sadd b a = sadd a b := sadd_comm b a
  obtain ⟨g1, g2⟩ := sadd_le ha hb
  have g3 := ssub_sadd ha hb
  have e2 : sadd a (sadd b c) = sadd (sadd a b) c := (sadd_assoc ha hb hc).symm
  have e3 : smul b a = smul a b := smul_comm b a
  have e4 := smul_one ha
  have e5 := smul_zero a
  have e7 : ssum [c, a, b] = ssum [a, b, c] := (ssum_turn ha hb hc).symm
  have e8 := sadd_ssub ha hb
  unfold smin at e8
  have a0 := ha.1
  have b0 := hb.1
  have c0 := hc.1
  have S1 : ∀ (W : World) (m : Nat), W.heap.size = m → Calls Try.prog 14 #[.slice (some ⟨m, 0, none⟩) 3 3] (W.alloc (.cells #[.int .u64 a, .int .u64 b, .int .u64 c] 22)) fun e w' => e = .returned (.int .u64 (ssum [a, b, c])) ∧ W.alloc (.cells #[.int .u64 a, .int .u64 b, .int .u64 c] 22) = w' :=
    fun W m hm => hm ▸ sum_c _ _ _ _ _ (Ints.new W .u64 22 [a, b, c] (by simp) hf1)
  have S2 : ∀ (W : World) (m : Nat), W.heap.size = m → Calls Try.prog 14 #[.slice (some ⟨m, 0, none⟩) 3 3] (W.alloc (.cells #[.int .u64 c, .int .u64 a, .int .u64 b] 22)) fun e w' => e = .returned (.int .u64 (ssum [a, b, c])) ∧ W.alloc (.cells #[.int .u64 c, .int .u64 a, .int .u64 b] 22) = w' :=
    fun W m hm => by subst hm; rw [← e7]; exact sum_c _ _ _ _ _ (Ints.new W .u64 22 [c, a, b] (by simp) hf2)
  clear hf1 hf2 e7
  rw [if_pos hm] at e8
  have g4 := smul_le ha hb hz
  subst hz1
  go_enter Try.func5, Try.ntmps5
  go_wp2_with first | (go_at_call 7; (with_reducible refine (awake_c _).mono ?_); rintro e w1 ⟨rfl, hB⟩) | (go_at_call 8; (with_reducible refine (add_c _ _ _ (by assumption) (by assumption)).mono ?_); rintro e w' ⟨rfl, rfl⟩) | (go_at_call 10; (with_reducible refine (sub_c _ _ _ (by assumption) (by assumption)).mono ?_); rintro e w' ⟨rfl, rfl⟩) | (go_at_call 12; (with_reducible refine (mul_c _ _ _ (by assumption) (by assumption)).mono ?_); rintro e w' ⟨rfl, rfl⟩) | (go_at_call 16; (with_reducible refine (fill_c _ _ _ _ _ (by assumption) (by assumption) (by assumption) (by assumption)).mono ?_); rintro e w' ⟨rfl, rfl⟩) | (go_at_call 17; (with_reducible refine (rfill_c _ _ _ _ _ (by assumption) (by assumption) (by assumption) (by assumption)).mono ?_); rintro e w' ⟨rfl, rfl⟩) | (go_at_call 14; (first | (with_reducible refine (S1 _ _ (by simp)).mono ?_) | (with_reducible refine (S2 _ _ (by simp)).mono ?_)); rintro e w' ⟨rfl, rfl⟩)
  all_goals
    go_ret
    exact ⟨rfl, (hB.alloc hB.size _).alloc (by simp; have := hB.size; omega) _⟩

set_option maxHeartbeats 1000000 in
theorem turns_c2 (a b c : Int) (w : World) (wa : (Lit.int .u64 a).wf = true) (wb : (Lit.int .u64 b).wf = true) (wc : (Lit.int .u64 c).wf = true) (hm : a ≤ b) (hz : 0 < b) (hz1 : 0 < a) (hz2 : c = 0) :
    Calls Try.prog 5 #[.int .u64 a, .int .u64 b, .int .u64 c] w fun e w' => e = .returned (.bool true) ∧ Below w.heap.size w w' := by
  have ha := u64_U wa
  have hb := u64_U wb
  have hc := u64_U wc
  have hf1 : ∀ x ∈ [a, b, c], (Lit.int .u64 x).wf = true := by simp [wa, wb, wc]
  have hf2 : ∀ x ∈ [c, a, b], (Lit.int .u64 x).wf = true := by simp [wa, wb, wc]
  clear wa wb wc
  have u0 : U (0 : Int) := U_of (by decide) (by decide)
  have u1 : U (1 : Int) := U_of (by decide) (by decide)
  have u2 := sadd_U ha hb
  have u3 := sadd_U hb hc
  have u4 := smul_U ha hb
  have u5 := smul_U hb hc
  have u6 := ssub_U ha hb
  have e1 : sadd b a = sadd a b := sadd_comm b a
  obtain ⟨g1, g2⟩ := sadd_le ha hb
  have g3 := ssub_sadd ha hb
  have e2 : sadd a (sadd b c) = sadd (sadd a b) c := (sadd_assoc ha hb hc).symm
  have e3 : smul b a = smul a b := smul_comm b a
  have e4 := smul_one ha
  have e5 := smul_zero a
  have e7 : ssum [c, a, b] = ssum [a, b, c] := (ssum_turn ha hb hc).symm
  have e8 := sadd_ssub ha hb
  unfold smin at e8
  have a0 := ha.1
  have b0 := hb.1
  have c0 := hc.1
  have S1 : ∀ (W : World) (m : Nat), W.heap.size = m → Calls Try.prog 14 #[.slice (some ⟨m, 0, none⟩) 3 3] (W.alloc (.cells #[.int .u64 a, .int .u64 b, .int .u64 c] 22)) fun e w' => e = .returned (.int .u64 (ssum [a, b, c])) ∧ W.alloc (.cells #[.int .u64 a, .int .u64 b, .int .u64 c] 22) = w' :=
    fun W m hm => hm ▸ sum_c _ _ _ _ _ (Ints.new W .u64 22 [a, b, c] (by simp) hf1)
  have S2 : ∀ (W : World) (m : Nat), W.heap.size = m → Calls Try.prog 14 #[.slice (some ⟨m, 0, none⟩) 3 3] (W.alloc (.cells #[.int .u64 c, .int .u64 a, .int .u64 b] 22)) fun e w' => e = .returned (.int .u64 (ssum [a, b, c])) ∧ W.alloc (.cells #[.int .u64 c, .int .u64 a, .int .u64 b] 22) = w' :=
    fun W m hm => by subst hm; rw [← e7]; exact sum_c _ _ _ _ _ (Ints.new W .u64 22 [c, a, b] (by simp) hf2)
  clear hf1 hf2 e7
  rw [if_pos hm] at e8
  have g4 := smul_le ha hb hz
  subst hz2
  go_enter Try.func5, Try.ntmps5
  go_wp2_with first | (go_at_call 7; (with_reducible refine (awake_c _).mono ?_); rintro e w1 ⟨rfl, hB⟩) | (go_at_call 8; (with_reducible refine (add_c _ _ _ (by assumption) (by assumption)).mono ?_); rintro e w' ⟨rfl, rfl⟩) | (go_at_call 10; (with_reducible refine (sub_c _ _ _ (by assumption) (by assumption)).mono ?_); rintro e w' ⟨rfl, rfl⟩) | (go_at_call 12; (with_reducible refine (mul_c _ _ _ (by assumption) (by assumption)).mono ?_); rintro e w' ⟨rfl, rfl⟩) | (go_at_call 16; (with_reducible refine (fill_c _ _ _ _ _ (by assumption) (by assumption) (by assumption) (by assumption)).mono ?_); rintro e w' ⟨rfl, rfl⟩) | (go_at_call 17; (with_reducible refine (rfill_c _ _ _ _ _ (by assumption) (by assumption) (by assumption) (by assumption)).mono ?_); rintro e w' ⟨rfl, rfl⟩) | (go_at_call 14; (first | (with_reducible refine (S1 _ _ (by simp)).mono ?_) | (with_reducible refine (S2 _ _ (by simp)).mono ?_)); rintro e w' ⟨rfl, rfl⟩)
  all_goals
    go_ret
    exact ⟨rfl, (hB.alloc hB.size _).alloc (by simp; have := hB.size; omega) _⟩

set_option maxHeartbeats 1000000 in
theorem turns_c3 (a b c : Int) (w : World) (wa : (Lit.int .u64 a).wf = true) (wb : (Lit.int .u64 b).wf = true) (wc : (Lit.int .u64 c).wf = true) (hm : a ≤ b) (hz : 0 < b) (hz1 : 0 < a) (hz2 : 0 < c) :
    Calls Try.prog 5 #[.int .u64 a, .int .u64 b, .int .u64 c] w fun e w' => e = .returned (.bool true) ∧ Below w.heap.size w w' := by
  have ha := u64_U wa
  have hb := u64_U wb
  have hc := u64_U wc
  have hf1 : ∀ x ∈ [a, b, c], (Lit.int .u64 x).wf = true := by simp [wa, wb, wc]
  have hf2 : ∀ x ∈ [c, a, b], (Lit.int .u64 x).wf = true := by simp [wa, wb, wc]
  clear wa wb wc
  have u0 : U (0 : Int) := U_of (by decide) (by decide)
  have u1 : U (1 : Int) := U_of (by decide) (by decide)
  have u2 := sadd_U ha hb
  have u3 := sadd_U hb hc
  have u4 := smul_U ha hb
  have u5 := smul_U hb hc
  have u6 := ssub_U ha hb
  have e1 : sadd b a = sadd a b := sadd_comm b a
  obtain ⟨g1, g2⟩ := sadd_le ha hb
  have g3 := ssub_sadd ha hb
  have e2 : sadd a (sadd b c) = sadd (sadd a b) c := (sadd_assoc ha hb hc).symm
  have e3 : smul b a = smul a b := smul_comm b a
  have e4 := smul_one ha
  have e5 := smul_zero a
  have e7 : ssum [c, a, b] = ssum [a, b, c] := (ssum_turn ha hb hc).symm
  have e8 := sadd_ssub ha hb
  unfold smin at e8
  have a0 := ha.1
  have b0 := hb.1
  have c0 := hc.1
  have S1 : ∀ (W : World) (m : Nat), W.heap.size = m → Calls Try.prog 14 #[.slice (some ⟨m, 0, none⟩) 3 3] (W.alloc (.cells #[.int .u64 a, .int .u64 b, .int .u64 c] 22)) fun e w' => e = .returned (.int .u64 (ssum [a, b, c])) ∧ W.alloc (.cells #[.int .u64 a, .int .u64 b, .int .u64 c] 22) = w' :=
    fun W m hm => hm ▸ sum_c _ _ _ _ _ (Ints.new W .u64 22 [a, b, c] (by simp) hf1)
  have S2 : ∀ (W : World) (m : Nat), W.heap.size = m → Calls Try.prog 14 #[.slice (some ⟨m, 0, none⟩) 3 3] (W.alloc (.cells #[.int .u64 c, .int .u64 a, .int .u64 b] 22)) fun e w' => e = .returned (.int .u64 (ssum [a, b, c])) ∧ W.alloc (.cells #[.int .u64 c, .int .u64 a, .int .u64 b] 22) = w' :=
    fun W m hm => by subst hm; rw [← e7]; exact sum_c _ _ _ _ _ (Ints.new W .u64 22 [c, a, b] (by simp) hf2)
  clear hf1 hf2 e7
  rw [if_pos hm] at e8
  have g4 := smul_le ha hb hz
  have e6 : smul a (smul b c) = smul (smul a b) c := (smul_assoc hz1 hz hz2).symm
  go_enter Try.func5, Try.ntmps5
  go_wp2_with first | (go_at_call 7; (with_reducible refine (awake_c _).mono ?_); rintro e w1 ⟨rfl, hB⟩) | (go_at_call 8; (with_reducible refine (add_c _ _ _ (by assumption) (by assumption)).mono ?_); rintro e w' ⟨rfl, rfl⟩) | (go_at_call 10; (with_reducible refine (sub_c _ _ _ (by assumption) (by assumption)).mono ?_); rintro e w' ⟨rfl, rfl⟩) | (go_at_call 12; (with_reducible refine (mul_c _ _ _ (by assumption) (by assumption)).mono ?_); rintro e w' ⟨rfl, rfl⟩) | (go_at_call 16; (with_reducible refine (fill_c _ _ _ _ _ (by assumption) (by assumption) (by assumption) (by assumption)).mono ?_); rintro e w' ⟨rfl, rfl⟩) | (go_at_call 17; (with_reducible refine (rfill_c _ _ _ _ _ (by assumption) (by assumption) (by assumption) (by assumption)).mono ?_); rintro e w' ⟨rfl, rfl⟩) | (go_at_call 14; (first | (with_reducible refine (S1 _ _ (by simp)).mono ?_) | (with_reducible refine (S2 _ _ (by simp)).mono ?_)); rintro e w' ⟨rfl, rfl⟩)
  all_goals
    go_ret
    exact ⟨rfl, (hB.alloc hB.size _).alloc (by simp; have := hB.size; omega) _⟩

set_option maxHeartbeats 1000000 in
theorem turns_c4 (a b c : Int) (w : World) (wa : (Lit.int .u64 a).wf = true) (wb : (Lit.int .u64 b).wf = true) (wc : (Lit.int .u64 c).wf = true) (hm : ¬ a ≤ b) (hz : b = 0) :
    Calls Try.prog 5 #[.int .u64 a, .int .u64 b, .int .u64 c] w fun e w' => e = .returned (.bool true) ∧ Below w.heap.size w w' := by
  have ha := u64_U wa
  have hb := u64_U wb
  have hc := u64_U wc
  have hf1 : ∀ x ∈ [a, b, c], (Lit.int .u64 x).wf = true := by simp [wa, wb, wc]
  have hf2 : ∀ x ∈ [c, a, b], (Lit.int .u64 x).wf = true := by simp [wa, wb, wc]
  clear wa wb wc
  have u0 : U (0 : Int) := U_of (by decide) (by decide)
  have u1 : U (1 : Int) := U_of (by decide) (by decide)
  have u2 := sadd_U ha hb
  have u3 := sadd_U hb hc
  have u4 := smul_U ha hb
  have u5 := smul_U hb hc
  have u6 := ssub_U ha hb
  have e1 : sadd b a = sadd a b := sadd_comm b a
  obtain ⟨g1, g2⟩ := sadd_le ha hb
  have g3 := ssub_sadd ha hb
  have e2 : sadd a (sadd b c) = sadd (sadd a b) c := (sadd_assoc ha hb hc).symm
  have e3 : smul b a = smul a b := smul_comm b a
  have e4 := smul_one ha
  have e5 := smul_zero a
  have e7 : ssum [c, a, b] = ssum [a, b, c] := (ssum_turn ha hb hc).symm
  have e8 := sadd_ssub ha hb
  unfold smin at e8
  have a0 := ha.1
  have b0 := hb.1
  have c0 := hc.1
  have S1 : ∀ (W : World) (m : Nat), W.heap.size = m → Calls Try.prog 14 #[.slice (some ⟨m, 0, none⟩) 3 3] (W.alloc (.cells #[.int .u64 a, .int .u64 b, .int .u64 c] 22)) fun e w' => e = .returned (.int .u64 (ssum [a, b, c])) ∧ W.alloc (.cells #[.int .u64 a, .int .u64 b, .int .u64 c] 22) = w' :=
    fun W m hm => hm ▸ sum_c _ _ _ _ _ (Ints.new W .u64 22 [a, b, c] (by simp) hf1)
  have S2 : ∀ (W : World) (m : Nat), W.heap.size = m → Calls Try.prog 14 #[.slice (some ⟨m, 0, none⟩) 3 3] (W.alloc (.cells #[.int .u64 c, .int .u64 a, .int .u64 b] 22)) fun e w' => e = .returned (.int .u64 (ssum [a, b, c])) ∧ W.alloc (.cells #[.int .u64 c, .int .u64 a, .int .u64 b] 22) = w' :=
    fun W m hm => by subst hm; rw [← e7]; exact sum_c _ _ _ _ _ (Ints.new W .u64 22 [c, a, b] (by simp) hf2)
  clear hf1 hf2 e7
  rw [if_neg hm] at e8
  subst hz
  have hzz : ¬ (0 : Int) < 0 := by omega
  go_enter Try.func5, Try.ntmps5
  go_wp2_with first | (go_at_call 7; (with_reducible refine (awake_c _).mono ?_); rintro e w1 ⟨rfl, hB⟩) | (go_at_call 8; (with_reducible refine (add_c _ _ _ (by assumption) (by assumption)).mono ?_); rintro e w' ⟨rfl, rfl⟩) | (go_at_call 10; (with_reducible refine (sub_c _ _ _ (by assumption) (by assumption)).mono ?_); rintro e w' ⟨rfl, rfl⟩) | (go_at_call 12; (with_reducible refine (mul_c _ _ _ (by assumption) (by assumption)).mono ?_); rintro e w' ⟨rfl, rfl⟩) | (go_at_call 16; (with_reducible refine (fill_c _ _ _ _ _ (by assumption) (by assumption) (by assumption) (by assumption)).mono ?_); rintro e w' ⟨rfl, rfl⟩) | (go_at_call 17; (with_reducible refine (rfill_c _ _ _ _ _ (by assumption) (by assumption) (by assumption) (by assumption)).mono ?_); rintro e w' ⟨rfl, rfl⟩) | (go_at_call 14; (first | (with_reducible refine (S1 _ _ (by simp)).mono ?_) | (with_reducible refine (S2 _ _ (by simp)).mono ?_)); rintro e w' ⟨rfl, rfl⟩)
  all_goals
    go_ret
    exact ⟨rfl, (hB.alloc hB.size _).alloc (by simp; have := hB.size; omega) _⟩

set_option maxHeartbeats 1000000 in
theorem turns_c5 (a b c : Int) (w : World) (wa : (Lit.int .u64 a).wf = true) (wb : (Lit.int .u64 b).wf = true) (wc : (Lit.int .u64 c).wf = true) (hm : ¬ a ≤ b) (hz : 0 < b) (hz1 : a = 0) :
    Calls Try.prog 5 #[.int .u64 a, .int .u64 b, .int .u64 c] w fun e w' => e = .returned (.bool true) ∧ Below w.heap.size w w' := by
  have ha := u64_U wa
  have hb := u64_U wb
  have hc := u64_U wc
  have hf1 : ∀ x ∈ [a, b, c], (Lit.int .u64 x).wf = true := by simp [wa, wb, wc]
  have hf2 : ∀ x ∈ [c, a, b], (Lit.int .u64 x).wf = true := by simp [wa, wb, wc]
  clear wa wb wc
  have u0 : U (0 : Int) := U_of (by decide) (by decide)
  have u1 : U (1 : Int) := U_of (by decide) (by decide)
  have u2 := sadd_U ha hb
  have u3 := sadd_U hb hc
  have u4 := smul_U ha hb
  have u5 := smul_U hb hc
  have u6 := ssub_U ha hb
  have e1 : sadd b a = sadd a b := sadd_comm b a
  obtain ⟨g1, g2⟩ := sadd_le ha hb
  have g3 := ssub_sadd ha hb
  have e2 : sadd a (sadd b c) = sadd (sadd a b) c := (sadd_assoc ha hb hc).symm
  have e3 : smul b a = smul a b := smul_comm b a
  have e4 := smul_one ha
  have e5 := smul_zero a
  have e7 : ssum [c, a, b] = ssum [a, b, c] := (ssum_turn ha hb hc).symm
  have e8 := sadd_ssub ha hb
  unfold smin at e8
  have a0 := ha.1
  have b0 := hb.1
  have c0 := hc.1
  have S1 : ∀ (W : World) (m : Nat), W.heap.size = m → Calls Try.prog 14 #[.slice (some ⟨m, 0, none⟩) 3 3] (W.alloc (.cells #[.int .u64 a, .int .u64 b, .int .u64 c] 22)) fun e w' => e = .returned (.int .u64 (ssum [a, b, c])) ∧ W.alloc (.cells #[.int .u64 a, .int .u64 b, .int .u64 c] 22) = w' :=
    fun W m hm => hm ▸ sum_c _ _ _ _ _ (Ints.new W .u64 22 [a, b, c] (by simp) hf1)
  have S2 : ∀ (W : World) (m : Nat), W.heap.size = m → Calls Try.prog 14 #[.slice (some ⟨m, 0, none⟩) 3 3] (W.alloc (.cells #[.int .u64 c, .int .u64 a, .int .u64 b] 22)) fun e w' => e = .returned (.int .u64 (ssum [a, b, c])) ∧ W.alloc (.cells #[.int .u64 c, .int .u64 a, .int .u64 b] 22) = w' :=
    fun W m hm => by subst hm; rw [← e7]; exact sum_c _ _ _ _ _ (Ints.new W .u64 22 [c, a, b] (by simp) hf2)
  clear hf1 hf2 e7
  rw [if_neg hm] at e8
  have g4 := smul_le ha hb hz
  subst hz1
  go_enter Try.func5, Try.ntmps5
  go_wp2_with first | (go_at_call 7; (with_reducible refine (awake_c _).mono ?_); rintro e w1 ⟨rfl, hB⟩) | (go_at_call 8; (with_reducible refine (add_c _ _ _ (by assumption) (by assumption)).mono ?_); rintro e w' ⟨rfl, rfl⟩) | (go_at_call 10; (with_reducible refine (sub_c _ _ _ (by assumption) (by assumption)).mono ?_); rintro e w' ⟨rfl, rfl⟩) | (go_at_call 12; (with_reducible refine (mul_c _ _ _ (by assumption) (by assumption)).mono ?_); rintro e w' ⟨rfl, rfl⟩) | (go_at_call 16; (with_reducible refine (fill_c _ _ _ _ _ (by assumption) (by assumption) (by assumption) (by assumption)).mono ?_); rintro e w' ⟨rfl, rfl⟩) | (go_at_call 17; (with_reducible refine (rfill_c _ _ _ _ _ (by assumption) (by assumption) (by assumption) (by assumption)).mono ?_); rintro e w' ⟨rfl, rfl⟩) | (go_at_call 14; (first | (with_reducible refine (S1 _ _ (by simp)).mono ?_) | (with_reducible refine (S2 _ _ (by simp)).mono ?_)); rintro e w' ⟨rfl, rfl⟩)
  all_goals
    go_ret
    exact ⟨rfl, (hB.alloc hB.size _).alloc (by simp; have := hB.size; omega) _⟩

set_option maxHeartbeats 1000000 in
theorem turns_c6 (a b c : Int) (w : World) (wa : (Lit.int .u64 a).wf = true) (wb : (Lit.int .u64 b).wf = true) (wc : (Lit.int .u64 c).wf = true) (hm : ¬ a ≤ b) (hz : 0 < b) (hz1 : 0 < a) (hz2 : c = 0) :
    Calls Try.prog 5 #[.int .u64 a, .int .u64 b, .int .u64 c] w fun e w' => e = .returned (.bool true) ∧ Below w.heap.size w w' := by
  have ha := u64_U wa
  have hb := u64_U wb
  have hc := u64_U wc
  have hf1 : ∀ x ∈ [a, b, c], (Lit.int .u64 x).wf = true := by simp [wa, wb, wc]
  have hf2 : ∀ x ∈ [c, a, b], (Lit.int .u64 x).wf = true := by simp [wa, wb, wc]
  clear wa wb wc
  have u0 : U (0 : Int) := U_of (by decide) (by decide)
  have u1 : U (1 : Int) := U_of (by decide) (by decide)
  have u2 := sadd_U ha hb
  have u3 := sadd_U hb hc
  have u4 := smul_U ha hb
  have u5 := smul_U hb hc
  have u6 := ssub_U ha hb
  have e1 : sadd b a = sadd a b := sadd_comm b a
  obtain ⟨g1, g2⟩ := sadd_le ha hb
  have g3 := ssub_sadd ha hb
  have e2 : sadd a (sadd b c) = sadd (sadd a b) c := (sadd_assoc ha hb hc).symm
  have e3 : smul b a = smul a b := smul_comm b a
  have e4 := smul_one ha
  have e5 := smul_zero a
  have e7 : ssum [c, a, b] = ssum [a, b, c] := (ssum_turn ha hb hc).symm
  have e8 := sadd_ssub ha hb
  unfold smin at e8
  have a0 := ha.1
  have b0 := hb.1
  have c0 := hc.1
  have S1 : ∀ (W : World) (m : Nat), W.heap.size = m → Calls Try.prog 14 #[.slice (some ⟨m, 0, none⟩) 3 3] (W.alloc (.cells #[.int .u64 a, .int .u64 b, .int .u64 c] 22)) fun e w' => e = .returned (.int .u64 (ssum [a, b, c])) ∧ W.alloc (.cells #[.int .u64 a, .int .u64 b, .int .u64 c] 22) = w' :=
    fun W m hm => hm ▸ sum_c _ _ _ _ _ (Ints.new W .u64 22 [a, b, c] (by simp) hf1)
  have S2 : ∀ (W : World) (m : Nat), W.heap.size = m → Calls Try.prog 14 #[.slice (some ⟨m, 0, none⟩) 3 3] (W.alloc (.cells #[.int .u64 c, .int .u64 a, .int .u64 b] 22)) fun e w' => e = .returned (.int .u64 (ssum [a, b, c])) ∧ W.alloc (.cells #[.int .u64 c, .int .u64 a, .int .u64 b] 22) = w' :=
    fun W m hm => by subst hm; rw [← e7]; exact sum_c _ _ _ _ _ (Ints.new W .u64 22 [c, a, b] (by simp) hf2)
  clear hf1 hf2 e7
  rw [if_neg hm] at e8
  have g4 := smul_le ha hb hz
  subst hz2
  go_enter Try.func5, Try.ntmps5
  go_wp2_with first | (go_at_call 7; (with_reducible refine (awake_c _).mono ?_); rintro e w1 ⟨rfl, hB⟩) | (go_at_call 8; (with_reducible refine (add_c _ _ _ (by assumption) (by assumption)).mono ?_); rintro e w' ⟨rfl, rfl⟩) | (go_at_call 10; (with_reducible refine (sub_c _ _ _ (by assumption) (by assumption)).mono ?_); rintro e w' ⟨rfl, rfl⟩) | (go_at_call 12; (with_reducible refine (mul_c _ _ _ (by assumption) (by assumption)).mono ?_); rintro e w' ⟨rfl, rfl⟩) | (go_at_call 16; (with_reducible refine (fill_c _ _ _ _ _ (by assumption) (by assumption) (by assumption) (by assumption)).mono ?_); rintro e w' ⟨rfl, rfl⟩) | (go_at_call 17; (with_reducible refine (rfill_c _ _ _ _ _ (by assumption) (by assumption) (by assumption) (by assumption)).mono ?_); rintro e w' ⟨rfl, rfl⟩) | (go_at_call 14; (first | (with_reducible refine (S1 _ _ (by simp)).mono ?_) | (with_reducible refine (S2 _ _ (by simp)).mono ?_)); rintro e w' ⟨rfl, rfl⟩)
  all_goals
    go_ret
    exact ⟨rfl, (hB.alloc hB.size _).alloc (by simp; have := hB.size; omega) _⟩

set_option maxHeartbeats 1000000 in
theorem turns_c7 (a b c : Int) (w : World) (wa : (Lit.int .u64 a).wf = true) (wb : (Lit.int .u64 b).wf = true) (wc : (Lit.int .u64 c).wf = true) (hm : ¬ a ≤ b) (hz : 0 < b) (hz1 : 0 < a) (hz2 : 0 < c) :
    Calls Try.prog 5 #[.int .u64 a, .int .u64 b, .int .u64 c] w fun e w' => e = .returned (.bool true) ∧ Below w.heap.size w w' := by
  have ha := u64_U wa
  have hb := u64_U wb
  have hc := u64_U wc
  have hf1 : ∀ x ∈ [a, b, c], (Lit.int .u64 x).wf = true := by simp [wa, wb, wc]
  have hf2 : ∀ x ∈ [c, a, b], (Lit.int .u64 x).wf = true := by simp [wa, wb, wc]
  clear wa wb wc
  have u0 : U (0 : Int) := U_of (by decide) (by decide)
  have u1 : U (1 : Int) := U_of (by decide) (by decide)
  have u2 := sadd_U ha hb
  have u3 := sadd_U hb hc
  have u4 := smul_U ha hb
  have u5 := smul_U hb hc
  have u6 := ssub_U ha hb
  have e1 : sadd b a = sadd a b := sadd_comm b a
  obtain ⟨g1, g2⟩ := sadd_le ha hb
  have g3 := ssub_sadd ha hb
  have e2 : sadd a (sadd b c) = sadd (sadd a b) c := (sadd_assoc ha hb hc).symm
  have e3 : smul b a = smul a b := smul_comm b a
  have e4 := smul_one ha
  have e5 := smul_zero a
  have e7 : ssum [c, a, b] = ssum [a, b, c] := (ssum_turn ha hb hc).symm
  have e8 := sadd_ssub ha hb
  unfold smin at e8
  have a0 := ha.1
  have b0 := hb.1
  have c0 := hc.1
  have S1 : ∀ (W : World) (m : Nat), W.heap.size = m → Calls Try.prog 14 #[.slice (some ⟨m, 0, none⟩) 3 3] (W.alloc (.cells #[.int .u64 a, .int .u64 b, .int .u64 c] 22)) fun e w' => e = .returned (.int .u64 (ssum [a, b, c])) ∧ W.alloc (.cells #[.int .u64 a, .int .u64 b, .int .u64 c] 22) = w' :=
    fun W m hm => hm ▸ sum_c _ _ _ _ _ (Ints.new W .u64 22 [a, b, c] (by simp) hf1)
  have S2 : ∀ (W : World) (m : Nat), W.heap.size = m → Calls Try.prog 14 #[.slice (some ⟨m, 0, none⟩) 3 3] (W.alloc (.cells #[.int .u64 c, .int .u64 a, .int .u64 b] 22)) fun e w' => e = .returned (.int .u64 (ssum [a, b, c])) ∧ W.alloc (.cells #[.int .u64 c, .int .u64 a, .int .u64 b] 22) = w' :=
    fun W m hm => by subst hm; rw [← e7]; exact sum_c _ _ _ _ _ (Ints.new W .u64 22 [c, a, b] (by simp) hf2)
  clear hf1 hf2 e7
  rw [if_neg hm] at e8
  have g4 := smul_le ha hb hz
  have e6 : smul a (smul b c) = smul (smul a b) c := (smul_assoc hz1 hz hz2).symm
  go_enter Try.func5, Try.ntmps5
  go_wp2_with first | (go_at_call 7; (with_reducible refine (awake_c _).mono ?_); rintro e w1 ⟨rfl, hB⟩) | (go_at_call 8; (with_reducible refine (add_c _ _ _ (by assumption) (by assumption)).mono ?_); rintro e w' ⟨rfl, rfl⟩) | (go_at_call 10; (with_reducible refine (sub_c _ _ _ (by assumption) (by assumption)).mono ?_); rintro e w' ⟨rfl, rfl⟩) | (go_at_call 12; (with_reducible refine (mul_c _ _ _ (by assumption) (by assumption)).mono ?_); rintro e w' ⟨rfl, rfl⟩) | (go_at_call 16; (with_reducible refine (fill_c _ _ _ _ _ (by assumption) (by assumption) (by assumption) (by assumption)).mono ?_); rintro e w' ⟨rfl, rfl⟩) | (go_at_call 17; (with_reducible refine (rfill_c _ _ _ _ _ (by assumption) (by assumption) (by assumption) (by assumption)).mono ?_); rintro e w' ⟨rfl, rfl⟩) | (go_at_call 14; (first | (with_reducible refine (S1 _ _ (by simp)).mono ?_) | (with_reducible refine (S2 _ _ (by simp)).mono ?_)); rintro e w' ⟨rfl, rfl⟩)
  all_goals
    go_ret
    exact ⟨rfl, (hB.alloc hB.size _).alloc (by simp; have := hB.size; omega) _⟩

theorem turns_c (a b c : Int) (w : World) (wa : (Lit.int .u64 a).wf = true) (wb : (Lit.int .u64 b).wf = true) (wc : (Lit.int .u64 c).wf = true) :
    Calls Try.prog 5 #[.int .u64 a, .int .u64 b, .int .u64 c] w fun e w' => e = .returned (.bool true) ∧ Below w.heap.size w w' := by
  have a0 := (u64_U wa).1
  have b0 := (u64_U wb).1
  have c0 := (u64_U wc).1
  by_cases hm : a ≤ b
  · rcases (by omega : b = 0 ∨ 0 < b) with hz | hz
    · exact turns_c0 a b c w wa wb wc hm hz
    rcases (by omega : a = 0 ∨ 0 < a) with hz1 | hz1
    · exact turns_c1 a b c w wa wb wc hm hz hz1
    rcases (by omega : c = 0 ∨ 0 < c) with hz2 | hz2
    · exact turns_c2 a b c w wa wb wc hm hz hz1 hz2
    · exact turns_c3 a b c w wa wb wc hm hz hz1 hz2
  · rcases (by omega : b = 0 ∨ 0 < b) with hz | hz
    · exact turns_c4 a b c w wa wb wc hm hz
    rcases (by omega : a = 0 ∨ 0 < a) with hz1 | hz1
    · exact turns_c5 a b c w wa wb wc hm hz hz1
    rcases (by omega : c = 0 ∨ 0 < c) with hz2 | hz2
    · exact turns_c6 a b c w wa wb wc hm hz hz1 hz2
    · exact turns_c7 a b c w wa wb wc hm hz hz1 hz2

end Go.Proofs.Ytilpgnjjmhgccaa
