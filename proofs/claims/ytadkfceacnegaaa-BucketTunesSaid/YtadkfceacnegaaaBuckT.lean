/-
  The walk of BucketTunes.
-/
import Derived.Test.YtadkfceacnegaaaBuckA
import Derived.Test.YtadkfceacnegaaaExt
set_option linter.unusedVariables false
set_option linter.unusedSimpArgs false
namespace Go.Proofs.Ytadkfceacnegaaa
open Go.RowKit
attribute [local go_sem high] eqBk eqRef fieldBk

theorem Ints.U_at {w : World} {A : Option Addr} {n : Nat} {xs : List Int} (h : Ints w .u64 A n xs) {j : Nat} (hj : j < n) : U (xs[j]?.getD 0) := by
  have hl : j < xs.length := by have := h.len; omega
  rw [List.getElem?_eq_getElem hl]
  exact u64_U (h.fits _ (List.getElem_mem hl))

set_option maxHeartbeats 8000000 in
theorem tunes_c (r b t : Int) (A : Option Addr) (n c : Nat) (xs : List Int) (w : World) (hr : U r) (hb : U b) (ht : U t) (h : Ints w .u64 A n xs) :
    Calls Try.prog 6 #[bk r b t, .slice A n c] w fun e w' => e = .returned (.bool true) ∧ Below w.heap.size w w' := by
  have hm := h.most
  have bx := Blk.new w #[.int .u64 r, .int .u64 b, .int .u64 t] 24
  have hW := (Below.refl w.heap.size w).alloc_ (.cells #[.int .u64 r, .int .u64 b, .int .u64 t] 24)
  have hI := h.below hW
  by_cases h3 : n < 4
  · go_enter Try.func6, Try.ntmps6
    go_wp2_with (go_at_call 7; (with_reducible refine (awake_c _).mono ?_); rintro e w1 ⟨rfl, hB⟩; (first | have hW := (hW).then_ hB | have hW := ((hW).alloc_ _).then_ hB | have hW := (((hW).alloc_ _).alloc_ _).then_ hB | have hW := (hW.drew).then_ hB))
    go_ret
    exact ⟨rfl, hW⟩
  · obtain ⟨ad, hA, hcell⟩ := hI.cells (by omega)
    subst hA
    have c0 := hcell 0 (by omega)
    have c1 := hcell 1 (by omega)
    have c2 := hcell 2 (by omega)
    have c3 := hcell 3 (by omega)
    have g0 := h.U_at (j := 0) (by omega)
    have g1 := h.U_at (j := 1) (by omega)
    have g2 := h.U_at (j := 2) (by omega)
    have g3 := h.U_at (j := 3) (by omega)
    clear hcell hI h
    generalize xs[0]?.getD 0 = x0 at c0 g0
    generalize xs[1]?.getD 0 = x1 at c1 g1
    generalize xs[2]?.getD 0 = x2 at c2 g2
    generalize xs[3]?.getD 0 = x3 at c3 g3
    rw [Addr.add_zero'] at c0
    simp only [Addr.add, Nat.reduceEqDiff, if_false, Nat.succ_ne_self, reduceIte] at c1 c2 c3
    have b0n : 0 < n := by omega
    have b1 : (1 : Int) < (n : Int) := by omega
    have b2 : (2 : Int) < (n : Int) := by omega
    have b3 : (3 : Int) < (n : Int) := by omega
    go_enter Try.func6, Try.ntmps6
    go_wp2_with (go_at_call 7; (with_reducible refine (awake_c _).mono ?_); rintro e w1 ⟨rfl, hB⟩; (first | have bx := (bx).below' hB | have bx := ((bx).alloc _).below' hB | have bx := (((bx).alloc _).alloc _).below' hB | have bx := ((bx).drew).below' hB); (have q0 := (bx).cell 0 rfl; have q1 := (bx).cell 1 rfl; have q2 := (bx).cell 2 rfl; have lx := (bx).lt); (first | have hW := (hW).then_ hB | have hW := ((hW).alloc_ _).then_ hB | have hW := (((hW).alloc_ _).alloc_ _).then_ hB | have hW := (hW.drew).then_ hB); replace c0 := (hB.cell (World.block_lt_of_cell? _ _ c0)).trans c0; replace c1 := (hB.cell (World.block_lt_of_cell? _ _ c1)).trans c1; replace c2 := (hB.cell (World.block_lt_of_cell? _ _ c2)).trans c2; replace c3 := (hB.cell (World.block_lt_of_cell? _ _ c3)).trans c3)
    clear hB
    have a0 := World.block_lt_of_cell? _ _ c0
    have a1 := World.block_lt_of_cell? _ _ c1
    have a2 := World.block_lt_of_cell? _ _ c2
    have a3 := World.block_lt_of_cell? _ _ c3
    have F0 : ∀ w', Below w1.heap.size w1 w' → w'.cell? ⟨w.heap.size, 0, none⟩ = some (.int .u64 r) := fun w' h => (h.cell lx).trans q0
    have F1 : ∀ w', Below w1.heap.size w1 w' → w'.cell? ⟨w.heap.size, 1, none⟩ = some (.int .u64 b) := fun w' h => (h.cell lx).trans q1
    have F2 : ∀ w', Below w1.heap.size w1 w' → w'.cell? ⟨w.heap.size, 2, none⟩ = some (.int .u64 t) := fun w' h => (h.cell lx).trans q2
    have G0 : ∀ w', Below w1.heap.size w1 w' → w'.cell? ad = some (.int .u64 x0) := fun w' h => (h.cell a0).trans c0
    have G1 : ∀ w', Below w1.heap.size w1 w' → w'.cell? ⟨ad.block, ad.off + 1, none⟩ = some (.int .u64 x1) := fun w' h => (h.cell a1).trans c1
    have G2 : ∀ w', Below w1.heap.size w1 w' → w'.cell? ⟨ad.block, ad.off + 2, none⟩ = some (.int .u64 x2) := fun w' h => (h.cell a2).trans c2
    have G3 : ∀ w', Below w1.heap.size w1 w' → w'.cell? ⟨ad.block, ad.off + 3, none⟩ = some (.int .u64 x3) := fun w' h => (h.cell a3).trans c3
    refine wp_region_ext' 16 (some 15) none #[.int .u64 0, .int .u64 0, .int .u64 0] 24 (by kernel_rfl) (by kernel_rfl) (fun k hk => by injection hk with hk; subst hk; exact ⟨by decide, _, rfl, rfl, fun ρ w => by rfl⟩) (fun s hs => by cases hs) (fun KE hKE W0 hF => ?_); (repeat (first | (apply WpExt.pass; (focus decide)) | (apply WpExt.step; (focus decide); (focus (show (none : Option Nat) ≠ some _; decide)); (focus (exact rfl)); (focus (intro w' hB'; have hB' := hF _ hB'; go_simp; first | exact extUpon_value rfl rfl | (apply extUpon_enter; first | exact tune_c _ _ _ _ _ _))); simp only [Act.put, List.setIfInBounds_toArray, List.set_cons_zero, List.set_cons_succ]) | (apply WpExt.skip; (focus decide); (focus (show (none : Option Nat) ≠ some _; decide)); (focus (exact rfl)); simp only [Act.put, List.setIfInBounds_toArray, List.set_cons_zero, List.set_cons_succ]))); refine WpExt.nil _ _ (hKE _ (fun w2 hB2 => ?_)); clear hKE KE hF W0
    intro B hB0 hBz
    change Blk w2 B #[.int .u64 0, .int .u64 0, .int .u64 0] 24 at hBz
    simp only [dstOf, List.getElem?_toArray, List.getElem?_cons_succ, List.getElem?_cons_zero, Option.bind_some, Act.put, List.setIfInBounds_toArray, List.set_cons_zero, List.set_cons_succ]
    have z0 := hBz.cell 0 rfl
    have z1 := hBz.cell 1 rfl
    have z2 := hBz.cell 2 rfl
    have y0 := hBz.free 0
    have y1 := hBz.free 1
    have y2 := hBz.free 2
    go_wp2_with fail
    have bb : Blk (((w2.setCell ⟨B, 0, none⟩ (.int .u64 x2)).setCell ⟨B, 1, none⟩ (.int .u64 x3)).setCell ⟨B, 2, none⟩ (.int .u64 (smin (smin t x1) x3))) B #[.int .u64 x2, .int .u64 x3, .int .u64 (smin (smin t x1) x3)] 24 := ((hBz.set 0 _).set 1 _).set 2 _
    have hS : Below w1.heap.size w2 (((w2.setCell ⟨B, 0, none⟩ (.int .u64 x2)).setCell ⟨B, 1, none⟩ (.int .u64 x3)).setCell ⟨B, 2, none⟩ (.int .u64 (smin (smin t x1) x3))) := (((Below.refl _ _).setCell (p := ⟨B, 0, none⟩) hB0 _).setCell (p := ⟨B, 1, none⟩) hB0 _).setCell (p := ⟨B, 2, none⟩) hB0 _
    generalize (((w2.setCell ⟨B, 0, none⟩ (.int .u64 x2)).setCell ⟨B, 1, none⟩ (.int .u64 x3)).setCell ⟨B, 2, none⟩ (.int .u64 (smin (smin t x1) x3))) = w3 at bb hS ⊢
    have hW3 := (hW.then_ hB2).trans (hS.mono hW.size)
    have bx3 := (bx.below' hB2).below hS lx
    have p2 := ((hS.cell (p := ⟨ad.block, ad.off + 2, none⟩) a2).trans (hB2.cell (p := ⟨ad.block, ad.off + 2, none⟩) a2)).trans c2
    have p3 := ((hS.cell (p := ⟨ad.block, ad.off + 3, none⟩) a3).trans (hB2.cell (p := ⟨ad.block, ad.off + 3, none⟩) a3)).trans c3
    have p1 := ((hS.cell (p := ⟨ad.block, ad.off + 1, none⟩) a1).trans (hB2.cell (p := ⟨ad.block, ad.off + 1, none⟩) a1)).trans c1
    clear F0 F1 F2 G0 G1 G2 G3 hBz z0 z1 z2 y0 y1 y2 hS hB2 a0 a1 a2 a3 c0 c1 c2 c3 bx hW q0 q1 q2 lx hB0
    have q0 := bx3.cell 0 rfl
    have q1 := bx3.cell 1 rfl
    have q2 := bx3.cell 2 rfl
    have lB := bb.lt
    obtain ⟨m, hm2, hcase⟩ : ∃ m, smin (smin t x1) x3 = m ∧ ((x1 ≤ x3 ∧ t ≤ x1 ∧ m = t) ∨ (x1 ≤ x3 ∧ x1 < t ∧ m = x1) ∨ (x3 < x1 ∧ t ≤ x3 ∧ m = t) ∨ (x3 < x1 ∧ x3 < t ∧ m = x3)) := by
      refine ⟨_, rfl, ?_⟩
      unfold smin
      repeat' split
      all_goals omega
    have um : U m := hm2 ▸ smin_U (smin_U ht g1) g3
    rw [hm2] at bb ⊢
    clear hm2
    have r0 := bb.cell 0 rfl
    have r1 := bb.cell 1 rfl
    have r2 := bb.cell 2 rfl
    obtain ⟨dt, hdt⟩ : ∃ dt, sfill 0 x2 18446744073709551615 x3 = dt := ⟨_, rfl⟩
    have uM : U (18446744073709551615 : Int) := U_of (by decide) (by decide)
    have u0 : U (0 : Int) := U_of (by decide) (by decide)
    have hd2 : dt = x3 ∨ (x2 = 0 ∧ dt = 0) := by
      rw [← hdt]
      rw [sfill_plain u0 g2 uM g3]
      have h0 := g2.1
      rcases (by omega : x2 = 0 ∨ 1 ≤ x2) with h | h
      · right; rw [h]; have := g3.1; exact ⟨rfl, by omega⟩
      · left
        have h1 : 1 * 18446744073709551615 ≤ x2 * 18446744073709551615 := Int.mul_le_mul_of_nonneg_right h (by decide)
        have h2 := g3.1
        have h3 : x3 ≤ 18446744073709551615 := g3.2
        omega
    have T1 : ∀ W : World, Calls Try.prog 13 #[bk x2 x3 m, .int .u64 m] W fun e w' => e = .returned (.tuple #[bk x2 x3 0, .bool true]) ∧ Below W.heap.size W w' := fun W => by
      have := take_yes x2 x3 m m W um um (Int.le_refl _); rwa [Int.sub_self] at this
    have T2 : ∀ W : World, Calls Try.prog 11 #[bk x2 x3 0, .int .u64 18446744073709551615] W fun e w' => e = .returned (bk x2 x3 dt) ∧ Below W.heap.size W w' := fun W => by
      have := tick_c x2 x3 0 _ W g2 g3 u0 uM; rwa [hdt] at this
    have T3 : ∀ W : World, Calls Try.prog 11 #[bk x2 x3 m, .int .u64 0] W fun e w' => e = .returned (bk x2 x3 m) ∧ Below W.heap.size W w' := fun W => by
      have := tick_c x2 x3 m 0 W g2 g3 um u0; rwa [sfill_none um g2 g3] at this
    have T4 : ∀ W : World, Calls Try.prog 15 #[bk x2 x3 m, .int .u64 x2, .int .u64 x3] W fun e w' => e = .returned (bk x2 x3 m) ∧ Below W.heap.size W w' := fun W => by
      have hmin : smin m x3 = m := by unfold smin; split <;> omega
      have := tune_c x2 x3 m x2 x3 W; rwa [hmin] at this
    have HD := Lib.hid hd2
    have HDT := Lib.hid hdt
    clear hdt hd2 uM u0 um ht g0 g1 g2 g3 hr hb
    rcases hcase with ⟨h1, h2, rfl⟩ | ⟨h1, h2, rfl⟩ | ⟨h1, h2, rfl⟩ | ⟨h1, h2, rfl⟩
    · go_quiet (fail)
      go_wp2_with fail
      refine (T1 _).mono ?_
      rintro e w4 ⟨rfl, hB4⟩
      have hW4 := (below_drewN hW3 _).then_ hB4
      have bb4 := (bb.drewN _).below' hB4
      go_wp2_with fail
      refine (T2 _).mono ?_
      rintro e w5 ⟨rfl, hB5⟩
      have bc5 := (Blk.new w4 #[.int .u64 x2, .int .u64 x3, .int .u64 0] 24).below' hB5
      have bb5 := (bb4.alloc _).below' hB5
      have hW5 := (hW4.alloc_ _).then_ hB5
      clear hB4 hB5 bb4 hW4 hW3 bx3 bb q0 q1 q2 r0 r1 r2 p1 p2 p3 lB T1 T2
      go_wp2_with fail
      have bd := Blk.new w5 #[.int .u64 x2, .int .u64 x3, .int .u64 dt] 24
      have bb6 := bb5.alloc (.cells #[.int .u64 x2, .int .u64 x3, .int .u64 dt] 24)
      have bc6 := bc5.alloc (.cells #[.int .u64 x2, .int .u64 x3, .int .u64 dt] 24)
      have hW6 := hW5.alloc_ (.cells #[.int .u64 x2, .int .u64 x3, .int .u64 dt] 24)
      have ew : w5.alloc (.cells #[.int .u64 x2, .int .u64 x3, .int .u64 dt] 24) = w5.alloc (.cells #[.int .u64 x2, .int .u64 x3, .int .u64 dt] 24) := rfl
      generalize w5.alloc (.cells #[.int .u64 x2, .int .u64 x3, .int .u64 dt] 24) = w6 at bd bb6 bc6 hW6 ⊢
      clear ew bb5 bc5 hW5
      have F0 : ∀ w', Below w6.heap.size w6 w' → w'.cell? ⟨B, 0, none⟩ = some (.int .u64 x2) := fun w' h => (bb6.below' h).cell 0 rfl
      have F1 : ∀ w', Below w6.heap.size w6 w' → w'.cell? ⟨B, 1, none⟩ = some (.int .u64 x3) := fun w' h => (bb6.below' h).cell 1 rfl
      have F2 : ∀ w', Below w6.heap.size w6 w' → w'.cell? ⟨B, 2, none⟩ = some (.int .u64 m) := fun w' h => (bb6.below' h).cell 2 rfl
      have F3 : ∀ w', Below w6.heap.size w6 w' → w'.cell? ⟨w4.heap.size, 2, none⟩ = some (.int .u64 0) := fun w' h => (bc6.below' h).cell 2 rfl
      have F4 : ∀ w', Below w6.heap.size w6 w' → w'.cell? ⟨w5.heap.size, 2, none⟩ = some (.int .u64 dt) := fun w' h => (bd.below' h).cell 2 rfl
      by_cases hd : dt = x3
      · subst hd
        refine wp_region_ext' 39 none none #[] 0 (by kernel_rfl) (by kernel_rfl) (fun k hk => by cases hk) (fun s hs => by cases hs) (fun KE hKE W0 hF => ?_); (repeat (first | (apply WpExt.pass; (focus decide)) | (apply WpExt.step; (focus decide); (focus (show (none : Option Nat) ≠ some _; decide)); (focus (exact rfl)); (focus (intro w' hB'; have hB' := hF _ hB'; go_simp; first | exact extUpon_value rfl rfl | (apply extUpon_enter; first | exact T3 _ | exact T4 _))); simp only [Act.put, List.setIfInBounds_toArray, List.set_cons_zero, List.set_cons_succ]) | (apply WpExt.skip; (focus decide); (focus (show (none : Option Nat) ≠ some _; decide)); (focus (exact rfl)); simp only [Act.put, List.setIfInBounds_toArray, List.set_cons_zero, List.set_cons_succ]))); refine WpExt.nil _ _ (hKE _ (fun w2 hB2 => ?_)); clear hKE KE hF W0
        change wpList _ _ _ _ _ _
        go_wp2
        go_ret
        exact ⟨rfl, hW6.then_ hB2⟩
      · obtain ⟨rfl, rfl⟩ := HD.out.resolve_left hd
        have hne : ((0 : Int) == x3) = false := by simpa using hd
        clear hd HD HDT
        refine wp_region_ext' 39 none none #[] 0 (by kernel_rfl) (by kernel_rfl) (fun k hk => by cases hk) (fun s hs => by cases hs) (fun KE hKE W0 hF => ?_); (repeat (first | (apply WpExt.pass; (focus decide)) | (apply WpExt.step; (focus decide); (focus (show (none : Option Nat) ≠ some _; decide)); (focus (exact rfl)); (focus (intro w' hB'; have hB' := hF _ hB'; go_simp; first | exact extUpon_value rfl rfl | (apply extUpon_enter; first | exact T3 _ | exact T4 _))); simp only [Act.put, List.setIfInBounds_toArray, List.set_cons_zero, List.set_cons_succ]) | (apply WpExt.skip; (focus decide); (focus (show (none : Option Nat) ≠ some _; decide)); (focus (exact rfl)); simp only [Act.put, List.setIfInBounds_toArray, List.set_cons_zero, List.set_cons_succ]))); refine WpExt.nil _ _ (hKE _ (fun w2 hB2 => ?_)); clear hKE KE hF W0
        change wpList _ _ _ _ _ _
        go_wp2
        go_ret
        exact ⟨rfl, hW6.then_ hB2⟩
    · go_quiet (fail)
      go_wp2_with fail
      refine (T1 _).mono ?_
      rintro e w4 ⟨rfl, hB4⟩
      have hW4 := (below_drewN hW3 _).then_ hB4
      have bb4 := (bb.drewN _).below' hB4
      go_wp2_with fail
      refine (T2 _).mono ?_
      rintro e w5 ⟨rfl, hB5⟩
      have bc5 := (Blk.new w4 #[.int .u64 x2, .int .u64 x3, .int .u64 0] 24).below' hB5
      have bb5 := (bb4.alloc _).below' hB5
      have hW5 := (hW4.alloc_ _).then_ hB5
      clear hB4 hB5 bb4 hW4 hW3 bx3 bb q0 q1 q2 r0 r1 r2 p1 p2 p3 lB T1 T2
      go_wp2_with fail
      have bd := Blk.new w5 #[.int .u64 x2, .int .u64 x3, .int .u64 dt] 24
      have bb6 := bb5.alloc (.cells #[.int .u64 x2, .int .u64 x3, .int .u64 dt] 24)
      have bc6 := bc5.alloc (.cells #[.int .u64 x2, .int .u64 x3, .int .u64 dt] 24)
      have hW6 := hW5.alloc_ (.cells #[.int .u64 x2, .int .u64 x3, .int .u64 dt] 24)
      have ew : w5.alloc (.cells #[.int .u64 x2, .int .u64 x3, .int .u64 dt] 24) = w5.alloc (.cells #[.int .u64 x2, .int .u64 x3, .int .u64 dt] 24) := rfl
      generalize w5.alloc (.cells #[.int .u64 x2, .int .u64 x3, .int .u64 dt] 24) = w6 at bd bb6 bc6 hW6 ⊢
      clear ew bb5 bc5 hW5
      have F0 : ∀ w', Below w6.heap.size w6 w' → w'.cell? ⟨B, 0, none⟩ = some (.int .u64 x2) := fun w' h => (bb6.below' h).cell 0 rfl
      have F1 : ∀ w', Below w6.heap.size w6 w' → w'.cell? ⟨B, 1, none⟩ = some (.int .u64 x3) := fun w' h => (bb6.below' h).cell 1 rfl
      have F2 : ∀ w', Below w6.heap.size w6 w' → w'.cell? ⟨B, 2, none⟩ = some (.int .u64 m) := fun w' h => (bb6.below' h).cell 2 rfl
      have F3 : ∀ w', Below w6.heap.size w6 w' → w'.cell? ⟨w4.heap.size, 2, none⟩ = some (.int .u64 0) := fun w' h => (bc6.below' h).cell 2 rfl
      have F4 : ∀ w', Below w6.heap.size w6 w' → w'.cell? ⟨w5.heap.size, 2, none⟩ = some (.int .u64 dt) := fun w' h => (bd.below' h).cell 2 rfl
      by_cases hd : dt = x3
      · subst hd
        refine wp_region_ext' 39 none none #[] 0 (by kernel_rfl) (by kernel_rfl) (fun k hk => by cases hk) (fun s hs => by cases hs) (fun KE hKE W0 hF => ?_); (repeat (first | (apply WpExt.pass; (focus decide)) | (apply WpExt.step; (focus decide); (focus (show (none : Option Nat) ≠ some _; decide)); (focus (exact rfl)); (focus (intro w' hB'; have hB' := hF _ hB'; go_simp; first | exact extUpon_value rfl rfl | (apply extUpon_enter; first | exact T3 _ | exact T4 _))); simp only [Act.put, List.setIfInBounds_toArray, List.set_cons_zero, List.set_cons_succ]) | (apply WpExt.skip; (focus decide); (focus (show (none : Option Nat) ≠ some _; decide)); (focus (exact rfl)); simp only [Act.put, List.setIfInBounds_toArray, List.set_cons_zero, List.set_cons_succ]))); refine WpExt.nil _ _ (hKE _ (fun w2 hB2 => ?_)); clear hKE KE hF W0
        change wpList _ _ _ _ _ _
        go_wp2
        go_ret
        exact ⟨rfl, hW6.then_ hB2⟩
      · obtain ⟨rfl, rfl⟩ := HD.out.resolve_left hd
        have hne : ((0 : Int) == x3) = false := by simpa using hd
        clear hd HD HDT
        refine wp_region_ext' 39 none none #[] 0 (by kernel_rfl) (by kernel_rfl) (fun k hk => by cases hk) (fun s hs => by cases hs) (fun KE hKE W0 hF => ?_); (repeat (first | (apply WpExt.pass; (focus decide)) | (apply WpExt.step; (focus decide); (focus (show (none : Option Nat) ≠ some _; decide)); (focus (exact rfl)); (focus (intro w' hB'; have hB' := hF _ hB'; go_simp; first | exact extUpon_value rfl rfl | (apply extUpon_enter; first | exact T3 _ | exact T4 _))); simp only [Act.put, List.setIfInBounds_toArray, List.set_cons_zero, List.set_cons_succ]) | (apply WpExt.skip; (focus decide); (focus (show (none : Option Nat) ≠ some _; decide)); (focus (exact rfl)); simp only [Act.put, List.setIfInBounds_toArray, List.set_cons_zero, List.set_cons_succ]))); refine WpExt.nil _ _ (hKE _ (fun w2 hB2 => ?_)); clear hKE KE hF W0
        change wpList _ _ _ _ _ _
        go_wp2
        go_ret
        exact ⟨rfl, hW6.then_ hB2⟩
    · go_quiet (fail)
      go_wp2_with fail
      refine (T1 _).mono ?_
      rintro e w4 ⟨rfl, hB4⟩
      have hW4 := (below_drewN hW3 _).then_ hB4
      have bb4 := (bb.drewN _).below' hB4
      go_wp2_with fail
      refine (T2 _).mono ?_
      rintro e w5 ⟨rfl, hB5⟩
      have bc5 := (Blk.new w4 #[.int .u64 x2, .int .u64 x3, .int .u64 0] 24).below' hB5
      have bb5 := (bb4.alloc _).below' hB5
      have hW5 := (hW4.alloc_ _).then_ hB5
      clear hB4 hB5 bb4 hW4 hW3 bx3 bb q0 q1 q2 r0 r1 r2 p1 p2 p3 lB T1 T2
      go_wp2_with fail
      have bd := Blk.new w5 #[.int .u64 x2, .int .u64 x3, .int .u64 dt] 24
      have bb6 := bb5.alloc (.cells #[.int .u64 x2, .int .u64 x3, .int .u64 dt] 24)
      have bc6 := bc5.alloc (.cells #[.int .u64 x2, .int .u64 x3, .int .u64 dt] 24)
      have hW6 := hW5.alloc_ (.cells #[.int .u64 x2, .int .u64 x3, .int .u64 dt] 24)
      have ew : w5.alloc (.cells #[.int .u64 x2, .int .u64 x3, .int .u64 dt] 24) = w5.alloc (.cells #[.int .u64 x2, .int .u64 x3, .int .u64 dt] 24) := rfl
      generalize w5.alloc (.cells #[.int .u64 x2, .int .u64 x3, .int .u64 dt] 24) = w6 at bd bb6 bc6 hW6 ⊢
      clear ew bb5 bc5 hW5
      have F0 : ∀ w', Below w6.heap.size w6 w' → w'.cell? ⟨B, 0, none⟩ = some (.int .u64 x2) := fun w' h => (bb6.below' h).cell 0 rfl
      have F1 : ∀ w', Below w6.heap.size w6 w' → w'.cell? ⟨B, 1, none⟩ = some (.int .u64 x3) := fun w' h => (bb6.below' h).cell 1 rfl
      have F2 : ∀ w', Below w6.heap.size w6 w' → w'.cell? ⟨B, 2, none⟩ = some (.int .u64 m) := fun w' h => (bb6.below' h).cell 2 rfl
      have F3 : ∀ w', Below w6.heap.size w6 w' → w'.cell? ⟨w4.heap.size, 2, none⟩ = some (.int .u64 0) := fun w' h => (bc6.below' h).cell 2 rfl
      have F4 : ∀ w', Below w6.heap.size w6 w' → w'.cell? ⟨w5.heap.size, 2, none⟩ = some (.int .u64 dt) := fun w' h => (bd.below' h).cell 2 rfl
      by_cases hd : dt = x3
      · subst hd
        refine wp_region_ext' 39 none none #[] 0 (by kernel_rfl) (by kernel_rfl) (fun k hk => by cases hk) (fun s hs => by cases hs) (fun KE hKE W0 hF => ?_); (repeat (first | (apply WpExt.pass; (focus decide)) | (apply WpExt.step; (focus decide); (focus (show (none : Option Nat) ≠ some _; decide)); (focus (exact rfl)); (focus (intro w' hB'; have hB' := hF _ hB'; go_simp; first | exact extUpon_value rfl rfl | (apply extUpon_enter; first | exact T3 _ | exact T4 _))); simp only [Act.put, List.setIfInBounds_toArray, List.set_cons_zero, List.set_cons_succ]) | (apply WpExt.skip; (focus decide); (focus (show (none : Option Nat) ≠ some _; decide)); (focus (exact rfl)); simp only [Act.put, List.setIfInBounds_toArray, List.set_cons_zero, List.set_cons_succ]))); refine WpExt.nil _ _ (hKE _ (fun w2 hB2 => ?_)); clear hKE KE hF W0
        change wpList _ _ _ _ _ _
        go_wp2
        go_ret
        exact ⟨rfl, hW6.then_ hB2⟩
      · obtain ⟨rfl, rfl⟩ := HD.out.resolve_left hd
        have hne : ((0 : Int) == x3) = false := by simpa using hd
        clear hd HD HDT
        refine wp_region_ext' 39 none none #[] 0 (by kernel_rfl) (by kernel_rfl) (fun k hk => by cases hk) (fun s hs => by cases hs) (fun KE hKE W0 hF => ?_); (repeat (first | (apply WpExt.pass; (focus decide)) | (apply WpExt.step; (focus decide); (focus (show (none : Option Nat) ≠ some _; decide)); (focus (exact rfl)); (focus (intro w' hB'; have hB' := hF _ hB'; go_simp; first | exact extUpon_value rfl rfl | (apply extUpon_enter; first | exact T3 _ | exact T4 _))); simp only [Act.put, List.setIfInBounds_toArray, List.set_cons_zero, List.set_cons_succ]) | (apply WpExt.skip; (focus decide); (focus (show (none : Option Nat) ≠ some _; decide)); (focus (exact rfl)); simp only [Act.put, List.setIfInBounds_toArray, List.set_cons_zero, List.set_cons_succ]))); refine WpExt.nil _ _ (hKE _ (fun w2 hB2 => ?_)); clear hKE KE hF W0
        change wpList _ _ _ _ _ _
        go_wp2
        go_ret
        exact ⟨rfl, hW6.then_ hB2⟩
    · go_quiet (fail)
      go_wp2_with fail
      refine (T1 _).mono ?_
      rintro e w4 ⟨rfl, hB4⟩
      have hW4 := (below_drewN hW3 _).then_ hB4
      have bb4 := (bb.drewN _).below' hB4
      go_wp2_with fail
      refine (T2 _).mono ?_
      rintro e w5 ⟨rfl, hB5⟩
      have bc5 := (Blk.new w4 #[.int .u64 x2, .int .u64 m, .int .u64 0] 24).below' hB5
      have bb5 := (bb4.alloc _).below' hB5
      have hW5 := (hW4.alloc_ _).then_ hB5
      clear hB4 hB5 bb4 hW4 hW3 bx3 bb q0 q1 q2 r0 r1 r2 p1 p2 p3 lB T1 T2
      go_wp2_with fail
      have bd := Blk.new w5 #[.int .u64 x2, .int .u64 m, .int .u64 dt] 24
      have bb6 := bb5.alloc (.cells #[.int .u64 x2, .int .u64 m, .int .u64 dt] 24)
      have bc6 := bc5.alloc (.cells #[.int .u64 x2, .int .u64 m, .int .u64 dt] 24)
      have hW6 := hW5.alloc_ (.cells #[.int .u64 x2, .int .u64 m, .int .u64 dt] 24)
      have ew : w5.alloc (.cells #[.int .u64 x2, .int .u64 m, .int .u64 dt] 24) = w5.alloc (.cells #[.int .u64 x2, .int .u64 m, .int .u64 dt] 24) := rfl
      generalize w5.alloc (.cells #[.int .u64 x2, .int .u64 m, .int .u64 dt] 24) = w6 at bd bb6 bc6 hW6 ⊢
      clear ew bb5 bc5 hW5
      have F0 : ∀ w', Below w6.heap.size w6 w' → w'.cell? ⟨B, 0, none⟩ = some (.int .u64 x2) := fun w' h => (bb6.below' h).cell 0 rfl
      have F1 : ∀ w', Below w6.heap.size w6 w' → w'.cell? ⟨B, 1, none⟩ = some (.int .u64 m) := fun w' h => (bb6.below' h).cell 1 rfl
      have F2 : ∀ w', Below w6.heap.size w6 w' → w'.cell? ⟨B, 2, none⟩ = some (.int .u64 m) := fun w' h => (bb6.below' h).cell 2 rfl
      have F3 : ∀ w', Below w6.heap.size w6 w' → w'.cell? ⟨w4.heap.size, 2, none⟩ = some (.int .u64 0) := fun w' h => (bc6.below' h).cell 2 rfl
      have F4 : ∀ w', Below w6.heap.size w6 w' → w'.cell? ⟨w5.heap.size, 2, none⟩ = some (.int .u64 dt) := fun w' h => (bd.below' h).cell 2 rfl
      by_cases hd : dt = m
      · subst hd
        refine wp_region_ext' 39 none none #[] 0 (by kernel_rfl) (by kernel_rfl) (fun k hk => by cases hk) (fun s hs => by cases hs) (fun KE hKE W0 hF => ?_); (repeat (first | (apply WpExt.pass; (focus decide)) | (apply WpExt.step; (focus decide); (focus (show (none : Option Nat) ≠ some _; decide)); (focus (exact rfl)); (focus (intro w' hB'; have hB' := hF _ hB'; go_simp; first | exact extUpon_value rfl rfl | (apply extUpon_enter; first | exact T3 _ | exact T4 _))); simp only [Act.put, List.setIfInBounds_toArray, List.set_cons_zero, List.set_cons_succ]) | (apply WpExt.skip; (focus decide); (focus (show (none : Option Nat) ≠ some _; decide)); (focus (exact rfl)); simp only [Act.put, List.setIfInBounds_toArray, List.set_cons_zero, List.set_cons_succ]))); refine WpExt.nil _ _ (hKE _ (fun w2 hB2 => ?_)); clear hKE KE hF W0
        change wpList _ _ _ _ _ _
        go_wp2
        go_ret
        exact ⟨rfl, hW6.then_ hB2⟩
      · obtain ⟨rfl, rfl⟩ := HD.out.resolve_left hd
        have hne : ((0 : Int) == m) = false := by simpa using hd
        clear hd HD HDT
        refine wp_region_ext' 39 none none #[] 0 (by kernel_rfl) (by kernel_rfl) (fun k hk => by cases hk) (fun s hs => by cases hs) (fun KE hKE W0 hF => ?_); (repeat (first | (apply WpExt.pass; (focus decide)) | (apply WpExt.step; (focus decide); (focus (show (none : Option Nat) ≠ some _; decide)); (focus (exact rfl)); (focus (intro w' hB'; have hB' := hF _ hB'; go_simp; first | exact extUpon_value rfl rfl | (apply extUpon_enter; first | exact T3 _ | exact T4 _))); simp only [Act.put, List.setIfInBounds_toArray, List.set_cons_zero, List.set_cons_succ]) | (apply WpExt.skip; (focus decide); (focus (show (none : Option Nat) ≠ some _; decide)); (focus (exact rfl)); simp only [Act.put, List.setIfInBounds_toArray, List.set_cons_zero, List.set_cons_succ]))); refine WpExt.nil _ _ (hKE _ (fun w2 hB2 => ?_)); clear hKE KE hF W0
        change wpList _ _ _ _ _ _
        go_wp2
        go_ret
        exact ⟨rfl, hW6.then_ hB2⟩

end Go.Proofs.Ytadkfceacnegaaa
