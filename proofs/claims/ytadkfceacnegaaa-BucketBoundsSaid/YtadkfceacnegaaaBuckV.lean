/-
  The walks of how long is to be waited for tokens.
-/
import Derived.Test.YtadkfceacnegaaaBuckW
import Derived.Deep.RegionHeld3
set_option linter.unusedVariables false
set_option linter.unusedSimpArgs false
namespace Go.Proofs.Ytadkfceacnegaaa
open Go.RowKit
attribute [local go_sem high] eqBk eqRef

theorem fill_never {r b t n m : Int} (hr : U r) (hb : U b) (ht : U t) (hm : U m) (h : t < n) (hs : sfill t r 1 b = t ∨ b < n) : sfill t r m b < n := by
  rw [sfill_plain ht hr hm hb]
  rcases hs with hs | hs
  · rw [sfill_plain ht hr (by unfold U M; omega) hb, Int.mul_one] at hs
    have r0 := hr.1
    rcases (by omega : b ≤ t ∨ r = 0) with h1 | h1
    · omega
    · rw [h1, Int.zero_mul]; omega
  · omega
theorem fill_then {r b t n : Int} (hr : U r) (hb : U b) (ht : U t) (h1 : t < n) (h2 : n ≤ b) (h3 : 0 < r) (hv : U ((n - t - 1) / r + 1)) : n ≤ sfill t r ((n - t - 1) / r + 1) b := by
  rw [sfill_plain ht hr hv hb, Int.mul_add, Int.mul_one]
  have e := Int.mul_ediv_add_emod (n - t - 1) r
  have e2 := Int.emod_lt_of_pos (n - t - 1) h3
  omega
theorem fill_ahead {r b t n : Int} (hr : U r) (hb : U b) (ht : U t) (h1 : t < n) (h3 : 0 < r) (hv : U ((n - t - 1) / r)) : sfill t r ((n - t - 1) / r) b < n := by
  rw [sfill_plain ht hr hv hb]
  have e := Int.mul_ediv_add_emod (n - t - 1) r
  have e2 := Int.emod_nonneg (n - t - 1) (b := r) (by omega)
  omega
theorem wait_U {r t n : Int} (ht : U t) (hn : U n) (h1 : t < n) (h3 : 0 < r) : U ((n - t - 1) / r) ∧ U ((n - t - 1) / r + 1) := by
  have q0 : 0 ≤ (n - t - 1) / r := Int.ediv_nonneg (by omega) (by omega)
  have q1 : (n - t - 1) / r ≤ n - t - 1 := Int.ediv_le_self _ (by omega)
  unfold U M at *
  omega

theorem wait_gen (r b t n : Int) (st : Bool) (v : Int) (ev : Bool) (w : World) (hr : U r) (hb : U b) (ht : U t) (hn : U n)
    (hst : (t == sfill t r 1 b) = st)
    (hcase : (n ≤ t ∧ v = 0 ∧ ev = true) ∨ (t < n ∧ (st = true ∨ b < n) ∧ v = 0 ∧ ev = false) ∨ (t < n ∧ st = false ∧ n ≤ b ∧ 0 < r ∧ v = (n - t - 1) / r + 1 ∧ ev = true)) :
    Calls Try.prog 9 #[bk r b t, .int .u64 n] w fun e w' => e = .returned (.tuple #[.int .u64 v, .bool ev]) ∧ Below w.heap.size w w' := by
  have u1 : U (1 : Int) := by unfold U M; omega
  obtain ⟨s, hs⟩ : ∃ s, ssub n t = s := ⟨_, rfl⟩
  have us := hs ▸ ssub_U hn ht
  have c1 : n ≤ t → (s == 0) = true := by intro h; rw [← hs]; unfold ssub; simp; omega
  have c2 : t < n → (s == 0) = false ∧ s = n - t := by intro h; rw [← hs]; unfold ssub; rw [if_pos (by omega)]; simp; omega
  have r0 := hr.1
  have s0 := us.1
  have s1 : s ≤ 18446744073709551615 := us.2
  obtain ⟨x, hx⟩ : ∃ x, sfill t r 1 b = x := ⟨_, rfl⟩
  have T : ∀ W : World, Calls Try.prog 11 #[bk r b t, .int .u64 1] W fun e w' => e = .returned (bk r b x) ∧ Below W.heap.size W w' := fun W => hx ▸ tick_c r b t 1 W hr hb ht u1
  have S : ∀ W : World, Calls Try.prog 19 #[.int .u64 n, .int .u64 t] W fun e w' => e = .returned (.int .u64 s) ∧ W = w' := fun W => hs ▸ sub_c n t W hn ht
  rw [hx] at hst
  have HX := Lib.hid hx
  have HS := Lib.hid hs
  clear hx hs us u1 hr hb ht hn
  rcases hcase with ⟨h1, rfl, rfl⟩ | ⟨h1, h2, rfl, rfl⟩ | ⟨h1, rfl, h2, h3, h4, rfl⟩
  · have c1 := c1 h1
    clear c2
    go_enter Try.func9, Try.ntmps9
    go_wp2_with (go_at_call 19; (with_reducible refine (S _).mono ?_); rintro e w' ⟨rfl, rfl⟩)
    go_region_held3 (fun w' => w'.cell? ⟨w.heap.size, 0, none⟩ = some (.int .u64 r) ∧ w'.cell? ⟨w.heap.size, 1, none⟩ = some (.int .u64 b) ∧ w'.cell? ⟨w.heap.size, 2, none⟩ = some (.int .u64 t) ∧ w.heap.size < w'.heap.size ∧ Below w.heap.size w w')
      (((try go_split_ands); (try dsimp only); (repeat' apply And.intro); all_goals (first | assumption | (rw [World.size_alloc]; exact Nat.lt_succ_of_lt (by assumption)) | (rw [World.size_setCell]; assumption) | (rw [World.size_drew]; assumption) | (refine Below.alloc ?_ ?_ _; assumption; exact Nat.le_of_lt (by assumption)) | (refine Below.setCell ?_ ?_ _; assumption; first | exact Nat.le_of_lt (by assumption) | exact Nat.le_refl _ | (simp; omega) | omega) | (refine Below.drew ?_; assumption) | (rw [World.cell?_alloc_lt _ _ _ (by first | assumption | omega)]; assumption) | (rw [World.cell?_drew]; assumption) | (rw [World.cell?_setCell_other _ _ _ _ (by intro hh; have hh2 := congrArg Addr.block hh; dsimp only at hh2; omega)]; first | assumption | (rw [World.cell?_alloc_lt _ _ _ (by first | assumption | omega)]; assumption)) | exact cell_alloc_swap _ (by assumption) (by dsimp only; omega) | exact cell_alloc_swap _ (by assumption) (by omega) | exact below_alloc_swap _ (by assumption) (by omega) | (simp only [World.size_alloc]; omega) | (rw [hB.cell (p := _) (by (first | assumption | omega | (simp; done) | (simp; omega)))]; first | assumption | go_keep) | (have := hB.size; first | omega | (simp at this; omega)) | exact Below.alloc (Below.refl _ _) (Nat.le_refl _) _ | exact (Below.alloc (Below.refl _ _) (Nat.le_refl _) _).drew | (refine Below.trans (by first | assumption | exact Below.alloc (Below.refl _ _) (Nat.le_refl _) _ | exact (Below.alloc (Below.refl _ _) (Nat.le_refl _) _).drew) (hB.mono (by (first | assumption | omega | (simp; done) | (simp; omega))))) | go_keep)))
      ((first | (go_at_call 11; (with_reducible refine (T _).mono ?_); rintro e w1 ⟨rfl, hB⟩)))
    all_goals
      go_wp2
      go_ret2
      go_split_ands
      exact ⟨rfl, by assumption⟩
  · obtain ⟨c2, c3⟩ := c2 h1
    clear c1
    have C3 := Lib.hid c3
    clear c3
    rcases h2 with rfl | h2
    · go_enter Try.func9, Try.ntmps9
      go_wp2_with (go_at_call 19; (with_reducible refine (S _).mono ?_); rintro e w' ⟨rfl, rfl⟩)
      go_region_held3 (fun w' => w'.cell? ⟨w.heap.size, 0, none⟩ = some (.int .u64 r) ∧ w'.cell? ⟨w.heap.size, 1, none⟩ = some (.int .u64 b) ∧ w'.cell? ⟨w.heap.size, 2, none⟩ = some (.int .u64 t) ∧ w.heap.size < w'.heap.size ∧ Below w.heap.size w w')
        (((try go_split_ands); (try dsimp only); (repeat' apply And.intro); all_goals (first | assumption | (rw [World.size_alloc]; exact Nat.lt_succ_of_lt (by assumption)) | (rw [World.size_setCell]; assumption) | (rw [World.size_drew]; assumption) | (refine Below.alloc ?_ ?_ _; assumption; exact Nat.le_of_lt (by assumption)) | (refine Below.setCell ?_ ?_ _; assumption; first | exact Nat.le_of_lt (by assumption) | exact Nat.le_refl _ | (simp; omega) | omega) | (refine Below.drew ?_; assumption) | (rw [World.cell?_alloc_lt _ _ _ (by first | assumption | omega)]; assumption) | (rw [World.cell?_drew]; assumption) | (rw [World.cell?_setCell_other _ _ _ _ (by intro hh; have hh2 := congrArg Addr.block hh; dsimp only at hh2; omega)]; first | assumption | (rw [World.cell?_alloc_lt _ _ _ (by first | assumption | omega)]; assumption)) | exact cell_alloc_swap _ (by assumption) (by dsimp only; omega) | exact cell_alloc_swap _ (by assumption) (by omega) | exact below_alloc_swap _ (by assumption) (by omega) | (simp only [World.size_alloc]; omega) | (rw [hB.cell (p := _) (by (first | assumption | omega | (simp; done) | (simp; omega)))]; first | assumption | go_keep) | (have := hB.size; first | omega | (simp at this; omega)) | exact Below.alloc (Below.refl _ _) (Nat.le_refl _) _ | exact (Below.alloc (Below.refl _ _) (Nat.le_refl _) _).drew | (refine Below.trans (by first | assumption | exact Below.alloc (Below.refl _ _) (Nat.le_refl _) _ | exact (Below.alloc (Below.refl _ _) (Nat.le_refl _) _).drew) (hB.mono (by (first | assumption | omega | (simp; done) | (simp; omega))))) | go_keep)))
        ((first | (go_at_call 11; (with_reducible refine (T _).mono ?_); rintro e w1 ⟨rfl, hB⟩)))
      all_goals
        go_wp2
        go_ret2
        go_split_ands
        exact ⟨rfl, by assumption⟩
    · cases st
      all_goals
        go_enter Try.func9, Try.ntmps9
        go_wp2_with (go_at_call 19; (with_reducible refine (S _).mono ?_); rintro e w' ⟨rfl, rfl⟩)
        go_region_held3 (fun w' => w'.cell? ⟨w.heap.size, 0, none⟩ = some (.int .u64 r) ∧ w'.cell? ⟨w.heap.size, 1, none⟩ = some (.int .u64 b) ∧ w'.cell? ⟨w.heap.size, 2, none⟩ = some (.int .u64 t) ∧ w.heap.size < w'.heap.size ∧ Below w.heap.size w w')
          (((try go_split_ands); (try dsimp only); (repeat' apply And.intro); all_goals (first | assumption | (rw [World.size_alloc]; exact Nat.lt_succ_of_lt (by assumption)) | (rw [World.size_setCell]; assumption) | (rw [World.size_drew]; assumption) | (refine Below.alloc ?_ ?_ _; assumption; exact Nat.le_of_lt (by assumption)) | (refine Below.setCell ?_ ?_ _; assumption; first | exact Nat.le_of_lt (by assumption) | exact Nat.le_refl _ | (simp; omega) | omega) | (refine Below.drew ?_; assumption) | (rw [World.cell?_alloc_lt _ _ _ (by first | assumption | omega)]; assumption) | (rw [World.cell?_drew]; assumption) | (rw [World.cell?_setCell_other _ _ _ _ (by intro hh; have hh2 := congrArg Addr.block hh; dsimp only at hh2; omega)]; first | assumption | (rw [World.cell?_alloc_lt _ _ _ (by first | assumption | omega)]; assumption)) | exact cell_alloc_swap _ (by assumption) (by dsimp only; omega) | exact cell_alloc_swap _ (by assumption) (by omega) | exact below_alloc_swap _ (by assumption) (by omega) | (simp only [World.size_alloc]; omega) | (rw [hB.cell (p := _) (by (first | assumption | omega | (simp; done) | (simp; omega)))]; first | assumption | go_keep) | (have := hB.size; first | omega | (simp at this; omega)) | exact Below.alloc (Below.refl _ _) (Nat.le_refl _) _ | exact (Below.alloc (Below.refl _ _) (Nat.le_refl _) _).drew | (refine Below.trans (by first | assumption | exact Below.alloc (Below.refl _ _) (Nat.le_refl _) _ | exact (Below.alloc (Below.refl _ _) (Nat.le_refl _) _).drew) (hB.mono (by (first | assumption | omega | (simp; done) | (simp; omega))))) | go_keep)))
          ((first | (go_at_call 11; (with_reducible refine (T _).mono ?_); rintro e w1 ⟨rfl, hB⟩)))
        all_goals
          go_wp2
          go_ret2
          go_split_ands
          exact ⟨rfl, by assumption⟩
  · obtain ⟨c2, c3⟩ := c2 h1
    clear c1
    have H4 := Lib.hid h4
    have hs0 : 1 ≤ s := by omega
    have q0 : 0 ≤ (s - 1) / r := Int.ediv_nonneg (by omega) (by omega)
    have q1 : (s - 1) / r ≤ s - 1 := Int.ediv_le_self _ (by omega)
    have C3 := Lib.hid c3
    clear c3 h4
    go_enter Try.func9, Try.ntmps9
    go_wp2_with (go_at_call 19; (with_reducible refine (S _).mono ?_); rintro e w' ⟨rfl, rfl⟩)
    go_region_held3 (fun w' => w'.cell? ⟨w.heap.size, 0, none⟩ = some (.int .u64 r) ∧ w'.cell? ⟨w.heap.size, 1, none⟩ = some (.int .u64 b) ∧ w'.cell? ⟨w.heap.size, 2, none⟩ = some (.int .u64 t) ∧ w.heap.size < w'.heap.size ∧ Below w.heap.size w w')
      (((try go_split_ands); (try dsimp only); (repeat' apply And.intro); all_goals (first | assumption | (rw [World.size_alloc]; exact Nat.lt_succ_of_lt (by assumption)) | (rw [World.size_setCell]; assumption) | (rw [World.size_drew]; assumption) | (refine Below.alloc ?_ ?_ _; assumption; exact Nat.le_of_lt (by assumption)) | (refine Below.setCell ?_ ?_ _; assumption; first | exact Nat.le_of_lt (by assumption) | exact Nat.le_refl _ | (simp; omega) | omega) | (refine Below.drew ?_; assumption) | (rw [World.cell?_alloc_lt _ _ _ (by first | assumption | omega)]; assumption) | (rw [World.cell?_drew]; assumption) | (rw [World.cell?_setCell_other _ _ _ _ (by intro hh; have hh2 := congrArg Addr.block hh; dsimp only at hh2; omega)]; first | assumption | (rw [World.cell?_alloc_lt _ _ _ (by first | assumption | omega)]; assumption)) | exact cell_alloc_swap _ (by assumption) (by dsimp only; omega) | exact cell_alloc_swap _ (by assumption) (by omega) | exact below_alloc_swap _ (by assumption) (by omega) | (simp only [World.size_alloc]; omega) | (rw [hB.cell (p := _) (by (first | assumption | omega | (simp; done) | (simp; omega)))]; first | assumption | go_keep) | (have := hB.size; first | omega | (simp at this; omega)) | exact Below.alloc (Below.refl _ _) (Nat.le_refl _) _ | exact (Below.alloc (Below.refl _ _) (Nat.le_refl _) _).drew | (refine Below.trans (by first | assumption | exact Below.alloc (Below.refl _ _) (Nat.le_refl _) _ | exact (Below.alloc (Below.refl _ _) (Nat.le_refl _) _).drew) (hB.mono (by (first | assumption | omega | (simp; done) | (simp; omega))))) | go_keep)))
      ((first | (go_at_call 11; (with_reducible refine (T _).mono ?_); rintro e w1 ⟨rfl, hB⟩)))
    all_goals
      go_wp2
      go_ret2
      go_split_ands
      refine ⟨ret_ib ?_, by assumption⟩
      have h4 := H4.out
      have q2 : 0 ≤ (n - t - 1) / r := Int.ediv_nonneg (by have := C3.out; omega) (by omega)
      have q3 : (n - t - 1) / r ≤ n - t - 1 := Int.ediv_le_self _ (by have := C3.out; omega)
      try rw [C3.out]
      rw [wrapu64]
      omega

theorem rwait_gen (r b t n : Int) (v : Int) (ev : Bool) (w : World) (hr : U r) (hb : U b) (ht : U t) (hn : U n)
    (hcase : (n ≤ t ∧ v = 0 ∧ ev = true) ∨ (t < n ∧ (r = 0 ∨ b < n) ∧ v = 0 ∧ ev = false) ∨ (t < n ∧ n ≤ b ∧ 0 < r ∧ v = (n - t - 1) / r + 1 ∧ ev = true)) :
    Calls Try.prog 10 #[bk r b t, .int .u64 n] w fun e w' => e = .returned (.tuple #[.int .u64 v, .bool ev]) ∧ Below w.heap.size w w' := by
  obtain ⟨r0, r1⟩ := hr
  obtain ⟨b0, b1⟩ := hb
  obtain ⟨t0, t1⟩ := ht
  obtain ⟨n0, n1⟩ := hn
  unfold M at r1 b1 t1 n1
  rcases hcase with ⟨h1, rfl, rfl⟩ | ⟨h1, h2, rfl, rfl⟩ | ⟨h1, h2, h3, h4, rfl⟩
  · go_enter Try.func10, Try.ntmps10
    go_wp2
    go_ret2
    exact ⟨rfl, (by repeat (first | exact Below.refl _ _ | assumption | refine Below.alloc ?_ (by simp) _ | refine Below.setCell ?_ (by simp) _ | refine Below.drew ?_))⟩
  · rcases h2 with rfl | h2
    · by_cases h3 : b < n
      all_goals
        go_enter Try.func10, Try.ntmps10
        go_wp2
        go_ret2
        exact ⟨rfl, (by repeat (first | exact Below.refl _ _ | assumption | refine Below.alloc ?_ (by simp) _ | refine Below.setCell ?_ (by simp) _ | refine Below.drew ?_))⟩
    · go_enter Try.func10, Try.ntmps10
      go_wp2
      go_ret2
      exact ⟨rfl, (by repeat (first | exact Below.refl _ _ | assumption | refine Below.alloc ?_ (by simp) _ | refine Below.setCell ?_ (by simp) _ | refine Below.drew ?_))⟩
  · obtain ⟨l, hl⟩ : ∃ l, l = n - t := ⟨_, rfl⟩
    have hl0 : 1 ≤ l := by omega
    have hm0 : 0 ≤ l % r := Int.emod_nonneg _ (by omega)
    have hm1 : l % r < r := Int.emod_lt_of_pos _ h3
    have hd0 : 0 ≤ l / r := Int.ediv_nonneg (by omega) (by omega)
    have hd1 : l / r ≤ l := Int.ediv_le_self _ (by omega)
    have he := Int.mul_ediv_add_emod l r
    have H4 := Lib.hid h4
    clear h4
    have hrz : (r == 0) = false := by simp; omega
    by_cases hz : 0 < l % r
    · have HV : Hid (l / r + 1 = v) := by
        unfold Hid
        rw [H4.out, ← hl]
        have : (l - 1) / r = l / r := by
          have e : l - 1 = l % r - 1 + r * (l / r) := by omega
          rw [e, Int.add_mul_ediv_left _ _ (by omega), Int.ediv_eq_zero_of_lt (by omega) (by omega)]
          omega
        rw [this]
      have hd2 : l / r ≤ l - 1 := by
        have h1 : 1 * (l / r) ≤ r * (l / r) := Int.mul_le_mul_of_nonneg_right (by omega) hd0
        omega
      have HL := Lib.hid hl
      clear he
      rw [hl] at hd2
      rw [hl] at hz hd0 hd1 hm0 hm1
      clear hl
      go_enter Try.func10, Try.ntmps10
      go_wp2
      go_ret2
      refine ⟨ret_ib ?_, (by repeat (first | exact Below.refl _ _ | assumption | refine Below.alloc ?_ (by simp) _ | refine Below.setCell ?_ (by simp) _ | refine Below.drew ?_))⟩
      have := HV.out
      rw [HL.out] at this
      try rw [wrapu64]
      omega
    · have HV : Hid (l / r = v) := by
        unfold Hid
        rw [H4.out, ← hl]
        have hq : 0 < l / r := by
          rcases (by omega : 0 < l / r ∨ l / r = 0) with h | h
          · exact h
          · rw [h] at he; omega
        have : (l - 1) / r = l / r - 1 := by
          have e : l - 1 = (r - 1) + r * (l / r - 1) := by rw [Int.mul_sub]; omega
          rw [e, Int.add_mul_ediv_left _ _ (by omega), Int.ediv_eq_zero_of_lt (by omega) (by omega)]
          omega
        rw [this]; omega
      have HL := Lib.hid hl
      clear he
      rw [hl] at hz hd0 hd1 hm0 hm1
      clear hl
      go_enter Try.func10, Try.ntmps10
      go_wp2
      go_ret2
      refine ⟨ret_ib ?_, (by repeat (first | exact Below.refl _ _ | assumption | refine Below.alloc ?_ (by simp) _ | refine Below.setCell ?_ (by simp) _ | refine Below.drew ?_))⟩
      have := HV.out
      rw [HL.out] at this
      try rw [wrapu64]
      omega

end Go.Proofs.Ytadkfceacnegaaa
