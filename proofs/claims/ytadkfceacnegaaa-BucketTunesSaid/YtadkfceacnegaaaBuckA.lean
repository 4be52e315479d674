/-
  The walks of the statements on buckets.
-/
import Derived.Test.YtadkfceacnegaaaBuckV
set_option linter.unusedVariables false
set_option linter.unusedSimpArgs false
namespace Go.Proofs.Ytadkfceacnegaaa
open Go.RowKit
attribute [local go_sem high] eqBk eqRef fieldBk

theorem U_of {a : Int} (h0 : 0 ≤ a) (h1 : a ≤ 18446744073709551615) : U a := ⟨h0, h1⟩

theorem awake_c (w : World) :
    Calls Try.prog 7 #[] w fun e w' => e = .returned (.bool true) ∧ Below w.heap.size w w' := by
  have d : ∀ a : Int, decide (0 ≤ a ∧ a ≤ 18446744073709551615) = true → U a := fun a h => U_of (of_decide_eq_true h).1 (of_decide_eq_true h).2
  have t1 : ∀ W : World, Calls Try.prog 13 #[bk 10 100 100, .int .u64 100] W fun e w' => e = .returned (.tuple #[bk 10 100 0, .bool true]) ∧ Below W.heap.size W w' :=
    fun W => take_yes 10 100 100 100 W (d _ (by decide)) (d _ (by decide)) (by decide)
  have t2 : ∀ W : World, Calls Try.prog 13 #[bk 10 100 0, .int .u64 1] W fun e w' => e = .returned (.tuple #[bk 10 100 0, .bool false]) ∧ Below W.heap.size W w' :=
    fun W => take_no 10 100 0 1 W (by decide)
  have t3 : ∀ W : World, Calls Try.prog 9 #[bk 10 100 0, .int .u64 25] W fun e w' => e = .returned (.tuple #[.int .u64 3, .bool true]) ∧ Below W.heap.size W w' :=
    fun W => wait_gen 10 100 0 25 false 3 true W (d _ (by decide)) (d _ (by decide)) (d _ (by decide)) (d _ (by decide)) (by decide) (.inr (.inr (by decide)))
  have t4 : ∀ W : World, Calls Try.prog 11 #[bk 10 100 0, .int .u64 3] W fun e w' => e = .returned (bk 10 100 30) ∧ Below W.heap.size W w' :=
    fun W => tick_c 10 100 0 3 W (d _ (by decide)) (d _ (by decide)) (d _ (by decide)) (d _ (by decide))
  have t5 : ∀ W : World, Calls Try.prog 11 #[bk 10 100 0, .int .u64 99] W fun e w' => e = .returned (bk 10 100 100) ∧ Below W.heap.size W w' :=
    fun W => tick_c 10 100 0 99 W (d _ (by decide)) (d _ (by decide)) (d _ (by decide)) (d _ (by decide))
  have t6 : ∀ W : World, Calls Try.prog 15 #[bk 1 50 50, .int .u64 2, .int .u64 20] W fun e w' => e = .returned (bk 2 20 20) ∧ Below W.heap.size W w' :=
    fun W => tune_c 1 50 50 2 20 W
  clear d
  go_enter Try.func7, Try.ntmps7
  go_wp2_with first | (go_at_call 17; (with_reducible refine (new_c _ _ _).mono ?_); rintro e w1 ⟨rfl, hB1⟩) | (go_at_call 13; (with_reducible refine (t1 _).mono ?_); rintro e w2 ⟨rfl, hB2⟩)
  have b1 := Blk.new w2 #[.int .u64 10, .int .u64 100, .int .u64 0] 24
  refine (t3 _).mono ?_
  rintro e w3 ⟨rfl, hB3⟩
  have b2 := b1.below' hB3
  have l2 := b2.lt
  have q0 := b2.cell 0 rfl
  have q1 := b2.cell 1 rfl
  have q2 := b2.cell 2 rfl
  go_wp2_with fail
  refine (t2 _).mono ?_
  rintro e w4 ⟨rfl, hB4⟩
  have b3 := (b2.below' hB4).alloc (.cells #[.int .u64 10, .int .u64 100, .int .u64 0] 24)
  have q0 := b3.cell 0 rfl
  have q1 := b3.cell 1 rfl
  have q2 := b3.cell 2 rfl
  go_wp2_with fail
  refine (t4 _).mono ?_
  rintro e w5 ⟨rfl, hB5⟩
  have b4 := b3.below' hB5
  have q0 := b4.cell 0 rfl
  have q1 := b4.cell 1 rfl
  have q2 := b4.cell 2 rfl
  go_wp2_with first | (go_at_call 17; (with_reducible refine (new_c 10 100 _).mono ?_); rintro e w7 ⟨rfl, hB7⟩) | (go_at_call 17; (with_reducible refine (new_c 1 50 _).mono ?_); rintro e w8 ⟨rfl, hB8⟩) | (go_at_call 11; (with_reducible refine (t5 _).mono ?_); rintro e w6 ⟨rfl, hB6⟩) | (go_at_call 15; (with_reducible refine (t6 _).mono ?_); rintro e w9 ⟨rfl, hB9⟩)
  go_ret
  refine ⟨rfl, ?_⟩
  have h4 := ((hB1.trans (hB2.mono hB1.size)).alloc (Nat.le_trans hB1.size hB2.size) (.cells #[.int .u64 10, .int .u64 100, .int .u64 0] 24))
  exact (((((h4.then_ hB3).then_ hB4).alloc_ _ |>.then_ hB5).then_ hB6).then_ hB7).then_ hB8 |>.then_ hB9

theorem waits_c (r b t n m : Int) (w : World) (hr : U r) (hb : U b) (ht : U t) (hn : U n) (hm : U m) :
    Calls Try.prog 5 #[bk r b t, .int .u64 n, .int .u64 m] w fun e w' => e = .returned (.bool true) ∧ Below w.heap.size w w' := by
  have bx := Blk.new w #[.int .u64 r, .int .u64 b, .int .u64 t] 24
  have hW := (Below.refl w.heap.size w).alloc_ (.cells #[.int .u64 r, .int .u64 b, .int .u64 t] 24)
  have u0 : U (0 : Int) := U_of (by decide) (by decide)
  by_cases h1 : n ≤ t
  · have g1 := sfill_none ht hr hb
    have W1 : ∀ W : World, Calls Try.prog 9 #[bk r b t, .int .u64 n] W fun e w' => e = .returned (.tuple #[.int .u64 0, .bool true]) ∧ Below W.heap.size W w' :=
      fun W => wait_gen r b t n _ _ _ W hr hb ht hn rfl (.inl ⟨h1, rfl, rfl⟩)
    have W2 : ∀ W : World, Calls Try.prog 11 #[bk r b t, .int .u64 0] W fun e w' => e = .returned (bk r b t) ∧ Below W.heap.size W w' :=
      fun W => by have := tick_c r b t 0 W hr hb ht u0; rwa [g1] at this
    have W3 : ∀ W : World, Calls Try.prog 13 #[bk r b t, .int .u64 n] W fun e w' => e = .returned (.tuple #[bk r b (t - n), .bool true]) ∧ Below W.heap.size W w' :=
      fun W => take_yes r b t n W ht hn h1
    clear g1 u0 hr hb ht hn hm
    go_enter Try.func5, Try.ntmps5
    go_wp2_with first | (go_at_call 7; (with_reducible refine (awake_c _).mono ?_); rintro e w1 ⟨rfl, hB⟩; (first | have bx := (bx).below' hB | have bx := ((bx).alloc _).below' hB | have bx := (((bx).alloc _).alloc _).below' hB | have bx := ((bx).drew).below' hB); (have q0 := (bx).cell 0 rfl; have q1 := (bx).cell 1 rfl; have q2 := (bx).cell 2 rfl; have lx := (bx).lt); (first | have hW := (hW).then_ hB | have hW := ((hW).alloc_ _).then_ hB | have hW := (((hW).alloc_ _).alloc_ _).then_ hB | have hW := (hW.drew).then_ hB)) | (go_at_call 9; (with_reducible refine (W1 _).mono ?_); rintro e w1 ⟨rfl, hB⟩; (first | have bx := (bx).below' hB | have bx := ((bx).alloc _).below' hB | have bx := (((bx).alloc _).alloc _).below' hB | have bx := ((bx).drew).below' hB); (have q0 := (bx).cell 0 rfl; have q1 := (bx).cell 1 rfl; have q2 := (bx).cell 2 rfl; have lx := (bx).lt); (first | have hW := (hW).then_ hB | have hW := ((hW).alloc_ _).then_ hB | have hW := (((hW).alloc_ _).alloc_ _).then_ hB | have hW := (hW.drew).then_ hB)) | (go_at_call 11; (with_reducible refine (W2 _).mono ?_); rintro e w1 ⟨rfl, hB⟩; (first | have bx := (bx).below' hB | have bx := ((bx).alloc _).below' hB | have bx := (((bx).alloc _).alloc _).below' hB | have bx := ((bx).drew).below' hB); (have q0 := (bx).cell 0 rfl; have q1 := (bx).cell 1 rfl; have q2 := (bx).cell 2 rfl; have lx := (bx).lt); (first | have hW := (hW).then_ hB | have hW := ((hW).alloc_ _).then_ hB | have hW := (((hW).alloc_ _).alloc_ _).then_ hB | have hW := (hW.drew).then_ hB)) | (go_at_call 13; (with_reducible refine (W3 _).mono ?_); rintro e w1 ⟨rfl, hB⟩; (first | have bx := (bx).below' hB | have bx := ((bx).alloc _).below' hB | have bx := (((bx).alloc _).alloc _).below' hB | have bx := ((bx).drew).below' hB); (have q0 := (bx).cell 0 rfl; have q1 := (bx).cell 1 rfl; have q2 := (bx).cell 2 rfl; have lx := (bx).lt); (first | have hW := (hW).then_ hB | have hW := ((hW).alloc_ _).then_ hB | have hW := (((hW).alloc_ _).alloc_ _).then_ hB | have hW := (hW.drew).then_ hB))
    all_goals
      go_ret
      exact ⟨rfl, by first | exact hW | exact hW.alloc_ _ | exact (hW.alloc_ _).alloc_ _⟩
  · have h1 : t < n := by omega
    by_cases h2 : sfill t r 1 b = t ∨ b < n
    · have g1 := fill_never hr hb ht hm h1 h2
      have W1 : ∀ W : World, Calls Try.prog 9 #[bk r b t, .int .u64 n] W fun e w' => e = .returned (.tuple #[.int .u64 0, .bool false]) ∧ Below W.heap.size W w' :=
        fun W => wait_gen r b t n _ _ _ W hr hb ht hn rfl (.inr (.inl ⟨h1, h2.imp (fun h => by rw [h]; simp) id, rfl, rfl⟩))
      have W2 : ∀ W : World, Calls Try.prog 11 #[bk r b t, .int .u64 m] W fun e w' => e = .returned (bk r b (sfill t r m b)) ∧ Below W.heap.size W w' :=
        fun W => tick_c r b t m W hr hb ht hm
      have W3 : ∀ W : World, Calls Try.prog 13 #[bk r b (sfill t r m b), .int .u64 n] W fun e w' => e = .returned (.tuple #[bk r b (sfill t r m b), .bool false]) ∧ Below W.heap.size W w' :=
        fun W => take_no r b _ n W g1
      clear g1 u0 hr hb ht hn hm h2 h1
      go_enter Try.func5, Try.ntmps5
      go_wp2_with first | (go_at_call 7; (with_reducible refine (awake_c _).mono ?_); rintro e w1 ⟨rfl, hB⟩; (first | have bx := (bx).below' hB | have bx := ((bx).alloc _).below' hB | have bx := (((bx).alloc _).alloc _).below' hB | have bx := ((bx).drew).below' hB); (have q0 := (bx).cell 0 rfl; have q1 := (bx).cell 1 rfl; have q2 := (bx).cell 2 rfl; have lx := (bx).lt); (first | have hW := (hW).then_ hB | have hW := ((hW).alloc_ _).then_ hB | have hW := (((hW).alloc_ _).alloc_ _).then_ hB | have hW := (hW.drew).then_ hB)) | (go_at_call 9; (with_reducible refine (W1 _).mono ?_); rintro e w1 ⟨rfl, hB⟩; (first | have bx := (bx).below' hB | have bx := ((bx).alloc _).below' hB | have bx := (((bx).alloc _).alloc _).below' hB | have bx := ((bx).drew).below' hB); (have q0 := (bx).cell 0 rfl; have q1 := (bx).cell 1 rfl; have q2 := (bx).cell 2 rfl; have lx := (bx).lt); (first | have hW := (hW).then_ hB | have hW := ((hW).alloc_ _).then_ hB | have hW := (((hW).alloc_ _).alloc_ _).then_ hB | have hW := (hW.drew).then_ hB)) | (go_at_call 11; (with_reducible refine (W2 _).mono ?_); rintro e w1 ⟨rfl, hB⟩; (first | have bx := (bx).below' hB | have bx := ((bx).alloc _).below' hB | have bx := (((bx).alloc _).alloc _).below' hB | have bx := ((bx).drew).below' hB); (have q0 := (bx).cell 0 rfl; have q1 := (bx).cell 1 rfl; have q2 := (bx).cell 2 rfl; have lx := (bx).lt); (first | have hW := (hW).then_ hB | have hW := ((hW).alloc_ _).then_ hB | have hW := (((hW).alloc_ _).alloc_ _).then_ hB | have hW := (hW.drew).then_ hB)) | (go_at_call 13; (with_reducible refine (W3 _).mono ?_); rintro e w1 ⟨rfl, hB⟩; (first | have bx := (bx).below' hB | have bx := ((bx).alloc _).below' hB | have bx := (((bx).alloc _).alloc _).below' hB | have bx := ((bx).drew).below' hB); (have q0 := (bx).cell 0 rfl; have q1 := (bx).cell 1 rfl; have q2 := (bx).cell 2 rfl; have lx := (bx).lt); (first | have hW := (hW).then_ hB | have hW := ((hW).alloc_ _).then_ hB | have hW := (((hW).alloc_ _).alloc_ _).then_ hB | have hW := (hW.drew).then_ hB))
      all_goals
        go_ret
        exact ⟨rfl, by first | exact hW | exact hW.alloc_ _ | exact (hW.alloc_ _).alloc_ _⟩
    · have h3 : n ≤ b := by omega
      have h4 : ¬ sfill t r 1 b = t := fun h => h2 (.inl h)
      have h5 : 0 < r := by
        have r0 := hr.1
        rcases (by omega : r = 0 ∨ 0 < r) with h | h
        · rw [h] at h4; exact absurd (sfill_zero ht (U_of (by decide) (by decide)) hb) h4
        · exact h
      obtain ⟨g1, g2⟩ := wait_U ht hn h1 h5
      have g3 := fill_then hr hb ht h1 h3 h5 g2
      have g4 := fill_ahead hr hb ht h1 h5 g1
      obtain ⟨v, hv⟩ : ∃ v, (n - t - 1) / r = v := ⟨_, rfl⟩
      rw [hv] at g1 g2 g3 g4
      have W1 : ∀ W : World, Calls Try.prog 9 #[bk r b t, .int .u64 n] W fun e w' => e = .returned (.tuple #[.int .u64 (v + 1), .bool true]) ∧ Below W.heap.size W w' :=
        fun W => wait_gen r b t n _ _ _ W hr hb ht hn rfl (.inr (.inr ⟨h1, by simpa using fun h => h4 h.symm, h3, h5, by rw [hv], rfl⟩))
      have W2 : ∀ W : World, Calls Try.prog 11 #[bk r b t, .int .u64 (v + 1)] W fun e w' => e = .returned (bk r b (sfill t r (v + 1) b)) ∧ Below W.heap.size W w' :=
        fun W => tick_c r b t _ W hr hb ht g2
      have W3 : ∀ W : World, Calls Try.prog 13 #[bk r b (sfill t r (v + 1) b), .int .u64 n] W fun e w' => e = .returned (.tuple #[bk r b (sfill t r (v + 1) b - n), .bool true]) ∧ Below W.heap.size W w' :=
        fun W => take_yes r b _ n W (sfill_U ht hr g2 hb) hn g3
      have W4 : ∀ W : World, Calls Try.prog 11 #[bk r b t, .int .u64 v] W fun e w' => e = .returned (bk r b (sfill t r v b)) ∧ Below W.heap.size W w' :=
        fun W => tick_c r b t _ W hr hb ht g1
      have W5 : ∀ W : World, Calls Try.prog 13 #[bk r b (sfill t r v b), .int .u64 n] W fun e w' => e = .returned (.tuple #[bk r b (sfill t r v b), .bool false]) ∧ Below W.heap.size W w' :=
        fun W => take_no r b _ n W g4
      have v0 := g1.1
      have v1 : v + 1 ≤ 18446744073709551615 := g2.2
      clear g1 g2 g3 g4 hv u0 hr hb ht hn hm h2 h4 h3 h5 h1
      go_enter Try.func5, Try.ntmps5
      go_wp2_with first | (go_at_call 7; (with_reducible refine (awake_c _).mono ?_); rintro e w1 ⟨rfl, hB⟩; (first | have bx := (bx).below' hB | have bx := ((bx).alloc _).below' hB | have bx := (((bx).alloc _).alloc _).below' hB | have bx := ((bx).drew).below' hB); (have q0 := (bx).cell 0 rfl; have q1 := (bx).cell 1 rfl; have q2 := (bx).cell 2 rfl; have lx := (bx).lt); (first | have hW := (hW).then_ hB | have hW := ((hW).alloc_ _).then_ hB | have hW := (((hW).alloc_ _).alloc_ _).then_ hB | have hW := (hW.drew).then_ hB)) | (go_at_call 9; (with_reducible refine (W1 _).mono ?_); rintro e w1 ⟨rfl, hB⟩; (first | have bx := (bx).below' hB | have bx := ((bx).alloc _).below' hB | have bx := (((bx).alloc _).alloc _).below' hB | have bx := ((bx).drew).below' hB); (have q0 := (bx).cell 0 rfl; have q1 := (bx).cell 1 rfl; have q2 := (bx).cell 2 rfl; have lx := (bx).lt); (first | have hW := (hW).then_ hB | have hW := ((hW).alloc_ _).then_ hB | have hW := (((hW).alloc_ _).alloc_ _).then_ hB | have hW := (hW.drew).then_ hB)) | (first | (go_at_call 11; (with_reducible refine (W2 _).mono ?_); rintro e w1 ⟨rfl, hB⟩; (first | have bx := (bx).below' hB | have bx := ((bx).alloc _).below' hB | have bx := (((bx).alloc _).alloc _).below' hB | have bx := ((bx).drew).below' hB); (have q0 := (bx).cell 0 rfl; have q1 := (bx).cell 1 rfl; have q2 := (bx).cell 2 rfl; have lx := (bx).lt); (first | have hW := (hW).then_ hB | have hW := ((hW).alloc_ _).then_ hB | have hW := (((hW).alloc_ _).alloc_ _).then_ hB | have hW := (hW.drew).then_ hB)) | (go_at_call 11; (with_reducible refine (W4 _).mono ?_); rintro e w1 ⟨rfl, hB⟩; (first | have bx := (bx).below' hB | have bx := ((bx).alloc _).below' hB | have bx := (((bx).alloc _).alloc _).below' hB | have bx := ((bx).drew).below' hB); (have q0 := (bx).cell 0 rfl; have q1 := (bx).cell 1 rfl; have q2 := (bx).cell 2 rfl; have lx := (bx).lt); (first | have hW := (hW).then_ hB | have hW := ((hW).alloc_ _).then_ hB | have hW := (((hW).alloc_ _).alloc_ _).then_ hB | have hW := (hW.drew).then_ hB))) | (first | (go_at_call 13; (with_reducible refine (W3 _).mono ?_); rintro e w1 ⟨rfl, hB⟩; (first | have bx := (bx).below' hB | have bx := ((bx).alloc _).below' hB | have bx := (((bx).alloc _).alloc _).below' hB | have bx := ((bx).drew).below' hB); (have q0 := (bx).cell 0 rfl; have q1 := (bx).cell 1 rfl; have q2 := (bx).cell 2 rfl; have lx := (bx).lt); (first | have hW := (hW).then_ hB | have hW := ((hW).alloc_ _).then_ hB | have hW := (((hW).alloc_ _).alloc_ _).then_ hB | have hW := (hW.drew).then_ hB)) | (go_at_call 13; (with_reducible refine (W5 _).mono ?_); rintro e w1 ⟨rfl, hB⟩; (first | have bx := (bx).below' hB | have bx := ((bx).alloc _).below' hB | have bx := (((bx).alloc _).alloc _).below' hB | have bx := ((bx).drew).below' hB); (have q0 := (bx).cell 0 rfl; have q1 := (bx).cell 1 rfl; have q2 := (bx).cell 2 rfl; have lx := (bx).lt); (first | have hW := (hW).then_ hB | have hW := ((hW).alloc_ _).then_ hB | have hW := (((hW).alloc_ _).alloc_ _).then_ hB | have hW := (hW.drew).then_ hB)))
      all_goals
        go_ret
        exact ⟨rfl, by first | exact hW | exact hW.alloc_ _ | exact (hW.alloc_ _).alloc_ _⟩

end Go.Proofs.Ytadkfceacnegaaa
