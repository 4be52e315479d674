/-
  The walk of BucketBounds.
-/
import Derived.Test.YtadkfceacnegaaaBuckA
import Derived.Test.YtadkfceacnegaaaExt
import Derived.Test.YtadkfceacnegaaaOpen
set_option linter.unusedVariables false
set_option linter.unusedSimpArgs false
namespace Go.Proofs.Ytadkfceacnegaaa
open Go.RowKit
attribute [local go_sem high] eqBk eqRef fieldBk

/-- What holds between two moments. -/
structure BInv (r b : Int) (k : Nat) (T K t : Int) : Prop where
  t0 : 0 ≤ t
  t1 : t ≤ b
  T0 : 0 ≤ T
  K0 : 0 ≤ K
  K1 : K ≤ 999 * k
  inv : T + t ≤ b + r * K

theorem BInv.reset {r b : Int} {k : Nat} {T K t : Int} (h : BInv r b k T K t) : BInv r b k 0 0 t :=
  ⟨h.t0, h.t1, by omega, by omega, by omega, by rw [Int.mul_zero]; have := h.t1; omega⟩
theorem BInv.stay {r b : Int} {k : Nat} {T K t : Int} (h : BInv r b k T K t) : BInv r b (k + 1) T K t :=
  ⟨h.t0, h.t1, h.T0, h.K0, by have := h.K1; omega, h.inv⟩
theorem BInv.take {r b : Int} {k : Nat} {T K t n : Int} (h : BInv r b k T K t) (h0 : 0 ≤ n) (h1 : n ≤ t) : BInv r b (k + 1) (T + n) K (t - n) := by
  have := h.t0; have := h.t1; have := h.T0; have := h.K1; have := h.inv
  exact ⟨by omega, by omega, by omega, h.K0, by omega, by omega⟩
theorem BInv.tick {r b : Int} {k : Nat} {T K t n : Int} (h : BInv r b k T K t) (hr : U r) (hb : U b) (h0 : 0 ≤ n) (h1 : n ≤ 999) : BInv r b (k + 1) T (K + n) (sfill t r n b) := by
  have g1 := h.t0; have g2 := h.t1; have g3 := h.T0; have g4 := h.K1; have g5 := h.inv; have g6 := h.K0
  have hn := Int.mul_nonneg hr.1 h0
  have ub := hb.2
  rw [sfill_plain (by unfold U M at *; omega) hr (by unfold U M; omega) hb]
  refine ⟨by omega, by omega, g3, by omega, by omega, ?_⟩
  rw [Int.mul_add]
  omega
theorem BInv.bound {r b : Int} {k : Nat} {T K t : Int} (h : BInv r b k T K t) (hr0 : 0 ≤ r) (hr : r ≤ 1000000000000) (hk : k ≤ 60) : 0 ≤ r * K ∧ r * K ≤ 59940000000000000 := by
  have h0 := Int.mul_nonneg hr0 h.K0
  have h1 : r * K ≤ 1000000000000 * K := Int.mul_le_mul_of_nonneg_right hr h.K0
  have h2 := h.K1
  omega

set_option maxHeartbeats 8000000 in
set_option maxRecDepth 100000 in
theorem bounds_c (r b t : Int) (A : Option Addr) (n c : Nat) (xs : List (Int × Int × Int)) (w : World) (hr : U r) (hb : U b) (ht : U t) (h : Int3s w .i64 .u64 .u64 A n xs) :
    Calls Try.prog 4 #[bk r b t, .slice A n c] w fun e w' => e = .returned (.bool true) ∧ Below w.heap.size w w' := by
  have hm := h.most
  have bx := Blk.new w #[.int .u64 r, .int .u64 b, .int .u64 t] 24
  have hW := (Below.refl w.heap.size w).alloc_ (.cells #[.int .u64 r, .int .u64 b, .int .u64 t] 24)
  have hI := h.below hW
  have hA : ∀ j ad, A = some ad → j < n → (ad.add (j * 3)).block < w.heap.size := fun j ad e hj => by
    obtain ⟨ad', x, e', _, c0, _⟩ := h.at_ j hj
    rw [e] at e'
    injection e' with e'
    subst e'
    exact World.block_lt_of_cell? w _ c0
  clear h
  by_cases hc : n ≤ 60 ∧ t ≤ b ∧ b ≤ 1000000000000 ∧ r ≤ 1000000000000
  · obtain ⟨h1, h2, h3, h4⟩ := hc
    have r0 := hr.1
    have b0 := hb.1
    have t0 := ht.1
    go_enter Try.func4, Try.ntmps4
    go_wp2_with (go_at_call 7; (with_reducible refine (awake_c _).mono ?_); rintro e w1 ⟨rfl, hB⟩; (first | have bx := (bx).below' hB | have bx := ((bx).alloc _).below' hB | have bx := (((bx).alloc _).alloc _).below' hB | have bx := ((bx).drew).below' hB); (have q0 := (bx).cell 0 rfl; have q1 := (bx).cell 1 rfl; have q2 := (bx).cell 2 rfl; have lx := (bx).lt); (first | have hW := (hW).then_ hB | have hW := ((hW).alloc_ _).then_ hB | have hW := (((hW).alloc_ _).alloc_ _).then_ hB | have hW := (hW.drew).then_ hB); have hI := hI.below hB)
    clear hB q0 q1 q2 lx
    go_loopw [6] (fun vf wr => ∃ f : Nat, f ≤ n ∧ vf = .int .i64 f ∧ Blk wr w.heap.size #[.int .u64 r, .int .u64 b, .int .u64 t] 24 ∧ Int3s wr .i64 .u64 .u64 A n xs ∧ Below w.heap.size w wr) (fun vf _ => n - (intOf vf).toNat)
    case atStart => exact ⟨0, Nat.zero_le _, rfl, bx, hI, hW⟩
    case round =>
      clear bx hI hW
      obtain ⟨f, hf, rfl, bx, hI, hW⟩ := hrel
      obtain ⟨wo, rfl⟩ : ∃ wo : World, wo = wr := ⟨_, rfl⟩
      have q0 := bx.cell 0 rfl
      have q1 := bx.cell 1 rfl
      have q2 := bx.cell 2 rfl
      have lx := bx.lt
      by_cases hlt : f < n
      · go_wp2
        clear q0 q1 q2 lx
        go_loopw [8, 9, 10] (fun vT vK vi wr => ∃ (k : Nat) (T K t' : Int), k ≤ n ∧ vi = .int .i64 k ∧ vT = .int .u64 T ∧ vK = .int .u64 K ∧ BInv r b k T K t' ∧
            Blk wr w.heap.size #[.int .u64 r, .int .u64 b, .int .u64 t] 24 ∧ Blk wr wo.heap.size #[.int .u64 r, .int .u64 b, .int .u64 t'] 24 ∧ Int3s wr .i64 .u64 .u64 A n xs ∧ Below w.heap.size w wr) (fun _ _ vi _ => n - (intOf vi).toNat)
        case atStart => exact ⟨0, 0, 0, t, Nat.zero_le _, rfl, rfl, rfl, ⟨t0, h2, by omega, by omega, by omega, by rw [Int.mul_zero]; omega⟩, bx.alloc _, Blk.new _ _ _, hI.below ((Below.refl _ _).alloc_ _), hW.alloc_ _⟩
        case round =>
          have hne : w.heap.size ≠ wo.heap.size := by have := bx.lt; omega
          have hle := hW.size
          clear bx hI hW
          obtain ⟨k, T, K, t', hk, rfl, rfl, rfl, inv, bx, bb, hI, hW⟩ := hrel
          have q0 := bx.cell 0 rfl
          have q1 := bx.cell 1 rfl
          have q2 := bx.cell 2 rfl
          have s0 := bb.cell 0 rfl
          have s1 := bb.cell 1 rfl
          have s2 := bb.cell 2 rfl
          have lx := bx.lt
          have lb := bb.lt
          by_cases hlk : k < n
          · -- the numbers behind 'if i == from'
            obtain ⟨T', K', inv', hT⟩ : ∃ T' K', BInv r b k T' K' t' ∧ ((k = f ∧ T' = 0 ∧ K' = 0) ∨ (k ≠ f ∧ T' = T ∧ K' = K)) := by
              by_cases hkf : k = f
              · exact ⟨0, 0, inv.reset, .inl ⟨hkf, rfl, rfl⟩⟩
              · exact ⟨T, K, inv, .inr ⟨hkf, rfl, rfl⟩⟩
            obtain ⟨ad, x, rfl, hx, c0, c1, c2, f0, f1, f2⟩ := hI.at_ k hlk
            obtain ⟨kd, N, bu⟩ := x
            have uN := u64_U f1
            have N0 := uN.1
            have N1 : N ≤ 18446744073709551615 := uN.2
            have ut : U t' := by have := inv.t0; have := inv.t1; unfold U M; omega
            have m0 : 0 ≤ N.tmod 1000 := Int.tmod_nonneg _ N0
            have m1 : N.tmod 1000 ≤ 999 := by have := Int.tmod_lt_of_pos N (b := 1000) (by decide); omega
            have un : U (N.tmod 1000) := by unfold U M; omega
            have ia := inv'.T0
            have ib := inv'.K0
            have ic := inv'.K1
            have id_ := inv'.inv
            have ie := inv'.t0
            have ig := inv'.t1
            simp only at c0 c1 c2 f0 f1 f2
            have la := hA k ad rfl hlk
            have hn0 : ∀ o, (⟨wo.heap.size, o, none⟩ : Addr) ≠ ad.add (k * 3) := fun o e => by
              have e2 := congrArg Addr.block e
              simp only at e2
              omega
            have em : N % 1000 = N.tmod 1000 := (Int.tmod_eq_emod_of_nonneg N0).symm
            have EM := Lib.hid em
            clear em
            clear hx f0 f1 f2 c2
            by_cases hk0 : kd = 0
            · have inv2 := inv'.tick (n := N % 1000) hr hb (by omega) (by omega)
              obtain ⟨j0, j1⟩ := inv2.bound r0 h4 (by omega)
              have jt := inv2.t1
              have ji := inv2.inv
              have HI2 := Lib.hid inv2
              have ut2 : 0 ≤ sfill t' r (N % 1000) b := inv2.t0
              clear inv2
              subst hk0
              rcases hT with ⟨rfl, rfl, rfl⟩ | ⟨hkf, rfl, rfl⟩
              · have HI3 := HI2.out
                rw [Int.zero_add] at HI3 j0 j1 ji
                have HI2 := Lib.hid HI3
                clear HI3
                go_wp2_with (go_at_call 11; (with_reducible refine (tick_c _ _ _ _ _ hr hb ut un).mono ?_); rintro e w3 ⟨rfl, hB⟩; have bx3 := bx.below' hB; have bb3 := bb.below' hB; have hI3 := hI.below hB; have hW3 := hW.then_ hB; have q0 := bx3.cell 0 rfl; have q1 := bx3.cell 1 rfl; have q2 := bx3.cell 2 rfl; have s0 := bb3.cell 0 rfl; have s1 := bb3.cell 1 rfl; have s2 := bb3.cell 2 rfl; have y0 := bb3.free 0; have y1 := bb3.free 1; have y2 := bb3.free 2; have l3 := bb3.lt; have d0 := (hB.cell (World.block_lt_of_cell? _ _ c0)).trans c0)
                go_roundw
                case rel => exact ⟨k + 1, 0, N % 1000, sfill t' r (N % 1000) b, by omega, by go_num, rfl, rfl, HI2.out, ((bx3.other _ _ (by simpa using hne)).other _ _ (by simpa using hne)).other _ _ (by simpa using hne), ((bb3.set 0 _).set 1 _).set 2 _, hI3.of_old hA ((((Below.refl _ _).setCell (p := ⟨wo.heap.size, 0, none⟩) hle _).setCell (p := ⟨wo.heap.size, 1, none⟩) hle _).setCell (p := ⟨wo.heap.size, 2, none⟩) hle _), ((hW3.setCell (p := ⟨wo.heap.size, 0, none⟩) hle _).setCell (p := ⟨wo.heap.size, 1, none⟩) hle _).setCell (p := ⟨wo.heap.size, 2, none⟩) hle _⟩
                case measure => simp [intOf]; omega
              · have hkf' : ((k : Int) == (f : Int)) = false := by simp; omega
                go_wp2_with (go_at_call 11; (with_reducible refine (tick_c _ _ _ _ _ hr hb ut un).mono ?_); rintro e w3 ⟨rfl, hB⟩; have bx3 := bx.below' hB; have bb3 := bb.below' hB; have hI3 := hI.below hB; have hW3 := hW.then_ hB; have q0 := bx3.cell 0 rfl; have q1 := bx3.cell 1 rfl; have q2 := bx3.cell 2 rfl; have s0 := bb3.cell 0 rfl; have s1 := bb3.cell 1 rfl; have s2 := bb3.cell 2 rfl; have y0 := bb3.free 0; have y1 := bb3.free 1; have y2 := bb3.free 2; have l3 := bb3.lt; have d0 := (hB.cell (World.block_lt_of_cell? _ _ c0)).trans c0)
                go_roundw
                case rel => exact ⟨k + 1, T', K' + N % 1000, sfill t' r (N % 1000) b, by omega, by go_num, rfl, rfl, HI2.out, ((bx3.other _ _ (by simpa using hne)).other _ _ (by simpa using hne)).other _ _ (by simpa using hne), ((bb3.set 0 _).set 1 _).set 2 _, hI3.of_old hA ((((Below.refl _ _).setCell (p := ⟨wo.heap.size, 0, none⟩) hle _).setCell (p := ⟨wo.heap.size, 1, none⟩) hle _).setCell (p := ⟨wo.heap.size, 2, none⟩) hle _), ((hW3.setCell (p := ⟨wo.heap.size, 0, none⟩) hle _).setCell (p := ⟨wo.heap.size, 1, none⟩) hle _).setCell (p := ⟨wo.heap.size, 2, none⟩) hle _⟩
                case measure => simp [intOf]; omega
            · have hk0' : (kd == 0) = false := by simpa using hk0
              by_cases hk1 : kd = 1
              · subst hk1
                by_cases hN : N ≤ t'
                · have inv2 := inv'.take N0 hN
                  obtain ⟨j0, j1⟩ := inv2.bound r0 h4 (by omega)
                  have jt := inv2.t1
                  have ji := inv2.inv
                  have HI2 := Lib.hid inv2
                  clear inv2
                  rcases hT with ⟨rfl, rfl, rfl⟩ | ⟨hkf, rfl, rfl⟩
                  · have HI3 := HI2.out
                    rw [Int.zero_add] at HI3
                    have HI2 := Lib.hid HI3
                    clear HI3
                    rw [Int.zero_add] at ji
                    rw [Int.mul_zero] at j0 j1 id_
                    rw [Int.mul_zero] at ji
                    go_wp2_with fail
                    have F0 : ∀ w', Below wr.heap.size wr w' → w'.cell? ⟨wo.heap.size, 0, none⟩ = some (.int .u64 r) := fun w' h => (bb.below' h).cell 0 rfl
                    have F1 : ∀ w', Below wr.heap.size wr w' → w'.cell? ⟨wo.heap.size, 1, none⟩ = some (.int .u64 b) := fun w' h => (bb.below' h).cell 1 rfl
                    have F2 : ∀ w', Below wr.heap.size wr w' → w'.cell? ⟨wo.heap.size, 2, none⟩ = some (.int .u64 t') := fun w' h => (bb.below' h).cell 2 rfl
                    have F3 : ∀ w', Below wr.heap.size wr w' → w'.cell? ⟨(ad.add (k * 3)).block, (ad.add (k * 3)).off + 1, none⟩ = some (.int .u64 N) := fun w' h => (h.cell (World.block_lt_of_cell? _ _ c1)).trans c1
                    refine wp_region_ext' 12 (some 10) (some ⟨11, 85, #[.int .u64 r, .int .u64 b, .int .u64 (t' - N)]⟩) #[.int .u64 0, .int .u64 0, .int .u64 0] 24 (by kernel_rfl) (by kernel_rfl) (fun k hk => by injection hk with hk; subst hk; exact ⟨by decide, _, rfl, rfl, fun ρ w => by rfl⟩) (fun s hs => by injection hs with hs; subst hs; exact ⟨of_decide_eq_true rfl, _, _, _, rfl, rfl, rfl, rfl, of_decide_eq_true rfl, rfl, of_decide_eq_true rfl, of_decide_eq_true rfl, of_decide_eq_true rfl, of_decide_eq_true rfl, of_decide_eq_true rfl, fun ρ w B h1 h2 h3 => by have z0 := h3.cell 0 rfl; have z1 := h3.cell 1 rfl; have z2 := h3.cell 2 rfl; have y0 := h3.free 0; have y1 := h3.free 1; have y2 := h3.free 2; refine ⟨((w.setCell ⟨B, 0, none⟩ _).setCell ⟨B, 1, none⟩ _).setCell ⟨B, 2, none⟩ _, ?_, ((h3.set 0 _).set 1 _).set 2 _, (((Below.refl _ _).setCell (p := ⟨B, 0, none⟩) (Nat.le_refl _) _).setCell (p := ⟨B, 1, none⟩) (Nat.le_refl _) _).setCell (p := ⟨B, 2, none⟩) (Nat.le_refl _) _⟩; simp only [execOp, h1, h2]; go_simp⟩) (fun KE hKE W0 hF => ?_); (repeat (first | (apply WpExt.pass; (focus decide)) | (apply WpExt.store; (focus decide); (focus (exact rfl)); (focus (intro s hs; injection hs with hs; subst hs; rfl)); simp only [Act.put, List.setIfInBounds_toArray, List.set_cons_zero, List.set_cons_succ]) | (apply WpExt.step; (focus decide); (focus (show (some 11 : Option Nat) ≠ some _; decide)); (focus (exact rfl)); (focus (intro w' hB'; have hB' := hF _ hB'; go_simp; first | exact extUpon_value rfl rfl | (apply extUpon_enter; first | exact take_yes _ _ _ _ _ ut uN hN))); simp only [Act.put, List.setIfInBounds_toArray, List.set_cons_zero, List.set_cons_succ]) | (apply WpExt.skip; (focus decide); (focus (show (some 11 : Option Nat) ≠ some _; decide)); (focus (exact rfl)); simp only [Act.put, List.setIfInBounds_toArray, List.set_cons_zero, List.set_cons_succ]))); refine WpExt.nil _ _ (hKE _ (fun w2 hB2 => ?_)); clear hKE KE hF W0
                    clear F0 F1 F2
                    intro B hB0 hBz
                    change Blk w2 B #[.int .u64 r, .int .u64 b, .int .u64 (t' - N)] 24 at hBz
                    simp only [dstOf, List.getElem?_toArray, List.getElem?_cons_succ, List.getElem?_cons_zero, Option.bind_some, Act.put, List.setIfInBounds_toArray, List.set_cons_zero, List.set_cons_succ]
                    have d1 := F3 w2 hB2
                    have d0 := (hB2.cell (World.block_lt_of_cell? _ _ c0)).trans c0
                    clear F3
                    have z0 := hBz.cell 0 rfl
                    have z1 := hBz.cell 1 rfl
                    have z2 := hBz.cell 2 rfl
                    have y0 := hBz.free 0
                    have y1 := hBz.free 1
                    have y2 := hBz.free 2
                    have bx2 := bx.below' hB2
                    have bb2 := bb.below' hB2
                    have hI2 := hI.below hB2
                    have hW2 := hW.then_ hB2
                    have q0 := bx2.cell 0 rfl
                    have q1 := bx2.cell 1 rfl
                    have q2 := bx2.cell 2 rfl
                    have s0 := bb2.cell 0 rfl
                    have s1 := bb2.cell 1 rfl
                    have s2 := bb2.cell 2 rfl
                    have v0 := bb2.free 0
                    have v1 := bb2.free 1
                    have v2 := bb2.free 2
                    have hBw : w.heap.size < B := by omega
                    have hBo : wo.heap.size < B := by omega
                    have hBl : (ad.add (k * 3)).block < B := by omega
                    have hnB : ∀ o, (⟨B, o, none⟩ : Addr) ≠ ad.add (k * 3) := fun o e => by
                      have e2 := congrArg Addr.block e
                      simp only at e2
                      omega
                    go_wp2
                    go_roundw
                    case rel => exact ⟨k + 1, N, 0, t' - N, by omega, by go_num, rfl, rfl, HI2.out, ((bx2.other _ _ (by simpa using hne)).other _ _ (by simpa using hne)).other _ _ (by simpa using hne), ((bb2.set 0 _).set 1 _).set 2 _, hI2.of_old hA (((((Below.refl w.heap.size w2)).setCell (p := ⟨wo.heap.size, 0, none⟩) hle _).setCell (p := ⟨wo.heap.size, 1, none⟩) hle _).setCell (p := ⟨wo.heap.size, 2, none⟩) hle _), ((((hW2).setCell (p := ⟨wo.heap.size, 0, none⟩) hle _).setCell (p := ⟨wo.heap.size, 1, none⟩) hle _).setCell (p := ⟨wo.heap.size, 2, none⟩) hle _)⟩
                    case measure => simp [intOf]; omega
                  · have hkf' : ((k : Int) == (f : Int)) = false := by simp; omega
                    go_wp2_with fail
                    have F0 : ∀ w', Below wr.heap.size wr w' → w'.cell? ⟨wo.heap.size, 0, none⟩ = some (.int .u64 r) := fun w' h => (bb.below' h).cell 0 rfl
                    have F1 : ∀ w', Below wr.heap.size wr w' → w'.cell? ⟨wo.heap.size, 1, none⟩ = some (.int .u64 b) := fun w' h => (bb.below' h).cell 1 rfl
                    have F2 : ∀ w', Below wr.heap.size wr w' → w'.cell? ⟨wo.heap.size, 2, none⟩ = some (.int .u64 t') := fun w' h => (bb.below' h).cell 2 rfl
                    have F3 : ∀ w', Below wr.heap.size wr w' → w'.cell? ⟨(ad.add (k * 3)).block, (ad.add (k * 3)).off + 1, none⟩ = some (.int .u64 N) := fun w' h => (h.cell (World.block_lt_of_cell? _ _ c1)).trans c1
                    refine wp_region_ext' 12 (some 10) (some ⟨11, 85, #[.int .u64 r, .int .u64 b, .int .u64 (t' - N)]⟩) #[.int .u64 0, .int .u64 0, .int .u64 0] 24 (by kernel_rfl) (by kernel_rfl) (fun k hk => by injection hk with hk; subst hk; exact ⟨by decide, _, rfl, rfl, fun ρ w => by rfl⟩) (fun s hs => by injection hs with hs; subst hs; exact ⟨of_decide_eq_true rfl, _, _, _, rfl, rfl, rfl, rfl, of_decide_eq_true rfl, rfl, of_decide_eq_true rfl, of_decide_eq_true rfl, of_decide_eq_true rfl, of_decide_eq_true rfl, of_decide_eq_true rfl, fun ρ w B h1 h2 h3 => by have z0 := h3.cell 0 rfl; have z1 := h3.cell 1 rfl; have z2 := h3.cell 2 rfl; have y0 := h3.free 0; have y1 := h3.free 1; have y2 := h3.free 2; refine ⟨((w.setCell ⟨B, 0, none⟩ _).setCell ⟨B, 1, none⟩ _).setCell ⟨B, 2, none⟩ _, ?_, ((h3.set 0 _).set 1 _).set 2 _, (((Below.refl _ _).setCell (p := ⟨B, 0, none⟩) (Nat.le_refl _) _).setCell (p := ⟨B, 1, none⟩) (Nat.le_refl _) _).setCell (p := ⟨B, 2, none⟩) (Nat.le_refl _) _⟩; simp only [execOp, h1, h2]; go_simp⟩) (fun KE hKE W0 hF => ?_); (repeat (first | (apply WpExt.pass; (focus decide)) | (apply WpExt.store; (focus decide); (focus (exact rfl)); (focus (intro s hs; injection hs with hs; subst hs; rfl)); simp only [Act.put, List.setIfInBounds_toArray, List.set_cons_zero, List.set_cons_succ]) | (apply WpExt.step; (focus decide); (focus (show (some 11 : Option Nat) ≠ some _; decide)); (focus (exact rfl)); (focus (intro w' hB'; have hB' := hF _ hB'; go_simp; first | exact extUpon_value rfl rfl | (apply extUpon_enter; first | exact take_yes _ _ _ _ _ ut uN hN))); simp only [Act.put, List.setIfInBounds_toArray, List.set_cons_zero, List.set_cons_succ]) | (apply WpExt.skip; (focus decide); (focus (show (some 11 : Option Nat) ≠ some _; decide)); (focus (exact rfl)); simp only [Act.put, List.setIfInBounds_toArray, List.set_cons_zero, List.set_cons_succ]))); refine WpExt.nil _ _ (hKE _ (fun w2 hB2 => ?_)); clear hKE KE hF W0
                    clear F0 F1 F2
                    intro B hB0 hBz
                    change Blk w2 B #[.int .u64 r, .int .u64 b, .int .u64 (t' - N)] 24 at hBz
                    simp only [dstOf, List.getElem?_toArray, List.getElem?_cons_succ, List.getElem?_cons_zero, Option.bind_some, Act.put, List.setIfInBounds_toArray, List.set_cons_zero, List.set_cons_succ]
                    have d1 := F3 w2 hB2
                    have d0 := (hB2.cell (World.block_lt_of_cell? _ _ c0)).trans c0
                    clear F3
                    have z0 := hBz.cell 0 rfl
                    have z1 := hBz.cell 1 rfl
                    have z2 := hBz.cell 2 rfl
                    have y0 := hBz.free 0
                    have y1 := hBz.free 1
                    have y2 := hBz.free 2
                    have bx2 := bx.below' hB2
                    have bb2 := bb.below' hB2
                    have hI2 := hI.below hB2
                    have hW2 := hW.then_ hB2
                    have q0 := bx2.cell 0 rfl
                    have q1 := bx2.cell 1 rfl
                    have q2 := bx2.cell 2 rfl
                    have s0 := bb2.cell 0 rfl
                    have s1 := bb2.cell 1 rfl
                    have s2 := bb2.cell 2 rfl
                    have v0 := bb2.free 0
                    have v1 := bb2.free 1
                    have v2 := bb2.free 2
                    have hBw : w.heap.size < B := by omega
                    have hBo : wo.heap.size < B := by omega
                    have hBl : (ad.add (k * 3)).block < B := by omega
                    have hnB : ∀ o, (⟨B, o, none⟩ : Addr) ≠ ad.add (k * 3) := fun o e => by
                      have e2 := congrArg Addr.block e
                      simp only at e2
                      omega
                    go_wp2
                    go_roundw
                    case rel => exact ⟨k + 1, T' + N, K', t' - N, by omega, by go_num, rfl, rfl, HI2.out, ((bx2.other _ _ (by simpa using hne)).other _ _ (by simpa using hne)).other _ _ (by simpa using hne), ((bb2.set 0 _).set 1 _).set 2 _, hI2.of_old hA (((((Below.refl w.heap.size w2)).setCell (p := ⟨wo.heap.size, 0, none⟩) hle _).setCell (p := ⟨wo.heap.size, 1, none⟩) hle _).setCell (p := ⟨wo.heap.size, 2, none⟩) hle _), ((((hW2).setCell (p := ⟨wo.heap.size, 0, none⟩) hle _).setCell (p := ⟨wo.heap.size, 1, none⟩) hle _).setCell (p := ⟨wo.heap.size, 2, none⟩) hle _)⟩
                    case measure => simp [intOf]; omega
                · have hN' : t' < N := by omega
                  have inv2 := inv'.stay
                  obtain ⟨j0, j1⟩ := inv2.bound r0 h4 (by omega)
                  have HI2 := Lib.hid inv2
                  clear inv2
                  rcases hT with ⟨rfl, rfl, rfl⟩ | ⟨hkf, rfl, rfl⟩
                  · rw [Int.mul_zero] at j0 j1 id_
                    go_wp2_with fail
                    have F0 : ∀ w', Below wr.heap.size wr w' → w'.cell? ⟨wo.heap.size, 0, none⟩ = some (.int .u64 r) := fun w' h => (bb.below' h).cell 0 rfl
                    have F1 : ∀ w', Below wr.heap.size wr w' → w'.cell? ⟨wo.heap.size, 1, none⟩ = some (.int .u64 b) := fun w' h => (bb.below' h).cell 1 rfl
                    have F2 : ∀ w', Below wr.heap.size wr w' → w'.cell? ⟨wo.heap.size, 2, none⟩ = some (.int .u64 t') := fun w' h => (bb.below' h).cell 2 rfl
                    have F3 : ∀ w', Below wr.heap.size wr w' → w'.cell? ⟨(ad.add (k * 3)).block, (ad.add (k * 3)).off + 1, none⟩ = some (.int .u64 N) := fun w' h => (h.cell (World.block_lt_of_cell? _ _ c1)).trans c1
                    refine wp_region_ext' 12 (some 10) (some ⟨11, 85, #[.int .u64 r, .int .u64 b, .int .u64 t']⟩) #[.int .u64 0, .int .u64 0, .int .u64 0] 24 (by kernel_rfl) (by kernel_rfl) (fun k hk => by injection hk with hk; subst hk; exact ⟨by decide, _, rfl, rfl, fun ρ w => by rfl⟩) (fun s hs => by injection hs with hs; subst hs; exact ⟨of_decide_eq_true rfl, _, _, _, rfl, rfl, rfl, rfl, of_decide_eq_true rfl, rfl, of_decide_eq_true rfl, of_decide_eq_true rfl, of_decide_eq_true rfl, of_decide_eq_true rfl, of_decide_eq_true rfl, fun ρ w B h1 h2 h3 => by have z0 := h3.cell 0 rfl; have z1 := h3.cell 1 rfl; have z2 := h3.cell 2 rfl; have y0 := h3.free 0; have y1 := h3.free 1; have y2 := h3.free 2; refine ⟨((w.setCell ⟨B, 0, none⟩ _).setCell ⟨B, 1, none⟩ _).setCell ⟨B, 2, none⟩ _, ?_, ((h3.set 0 _).set 1 _).set 2 _, (((Below.refl _ _).setCell (p := ⟨B, 0, none⟩) (Nat.le_refl _) _).setCell (p := ⟨B, 1, none⟩) (Nat.le_refl _) _).setCell (p := ⟨B, 2, none⟩) (Nat.le_refl _) _⟩; simp only [execOp, h1, h2]; go_simp⟩) (fun KE hKE W0 hF => ?_); (repeat (first | (apply WpExt.pass; (focus decide)) | (apply WpExt.store; (focus decide); (focus (exact rfl)); (focus (intro s hs; injection hs with hs; subst hs; rfl)); simp only [Act.put, List.setIfInBounds_toArray, List.set_cons_zero, List.set_cons_succ]) | (apply WpExt.step; (focus decide); (focus (show (some 11 : Option Nat) ≠ some _; decide)); (focus (exact rfl)); (focus (intro w' hB'; have hB' := hF _ hB'; go_simp; first | exact extUpon_value rfl rfl | (apply extUpon_enter; first | exact take_no _ _ _ _ _ hN'))); simp only [Act.put, List.setIfInBounds_toArray, List.set_cons_zero, List.set_cons_succ]) | (apply WpExt.skip; (focus decide); (focus (show (some 11 : Option Nat) ≠ some _; decide)); (focus (exact rfl)); simp only [Act.put, List.setIfInBounds_toArray, List.set_cons_zero, List.set_cons_succ]))); refine WpExt.nil _ _ (hKE _ (fun w2 hB2 => ?_)); clear hKE KE hF W0
                    clear F0 F1 F2
                    intro B hB0 hBz
                    change Blk w2 B #[.int .u64 r, .int .u64 b, .int .u64 t'] 24 at hBz
                    simp only [dstOf, List.getElem?_toArray, List.getElem?_cons_succ, List.getElem?_cons_zero, Option.bind_some, Act.put, List.setIfInBounds_toArray, List.set_cons_zero, List.set_cons_succ]
                    have d1 := F3 w2 hB2
                    have d0 := (hB2.cell (World.block_lt_of_cell? _ _ c0)).trans c0
                    clear F3
                    have z0 := hBz.cell 0 rfl
                    have z1 := hBz.cell 1 rfl
                    have z2 := hBz.cell 2 rfl
                    have y0 := hBz.free 0
                    have y1 := hBz.free 1
                    have y2 := hBz.free 2
                    have bx2 := bx.below' hB2
                    have bb2 := bb.below' hB2
                    have hI2 := hI.below hB2
                    have hW2 := hW.then_ hB2
                    have q0 := bx2.cell 0 rfl
                    have q1 := bx2.cell 1 rfl
                    have q2 := bx2.cell 2 rfl
                    have s0 := bb2.cell 0 rfl
                    have s1 := bb2.cell 1 rfl
                    have s2 := bb2.cell 2 rfl
                    have v0 := bb2.free 0
                    have v1 := bb2.free 1
                    have v2 := bb2.free 2
                    have hBw : w.heap.size < B := by omega
                    have hBo : wo.heap.size < B := by omega
                    have hBl : (ad.add (k * 3)).block < B := by omega
                    have hnB : ∀ o, (⟨B, o, none⟩ : Addr) ≠ ad.add (k * 3) := fun o e => by
                      have e2 := congrArg Addr.block e
                      simp only at e2
                      omega
                    go_wp2
                    go_roundw
                    case rel => exact ⟨k + 1, 0, 0, t', by omega, by go_num, rfl, rfl, HI2.out, ((bx2.other _ _ (by simpa using hne)).other _ _ (by simpa using hne)).other _ _ (by simpa using hne), ((bb2.set 0 _).set 1 _).set 2 _, hI2.of_old hA (((((Below.refl w.heap.size w2)).setCell (p := ⟨wo.heap.size, 0, none⟩) hle _).setCell (p := ⟨wo.heap.size, 1, none⟩) hle _).setCell (p := ⟨wo.heap.size, 2, none⟩) hle _), ((((hW2).setCell (p := ⟨wo.heap.size, 0, none⟩) hle _).setCell (p := ⟨wo.heap.size, 1, none⟩) hle _).setCell (p := ⟨wo.heap.size, 2, none⟩) hle _)⟩
                    case measure => simp [intOf]; omega
                  · have hkf' : ((k : Int) == (f : Int)) = false := by simp; omega
                    go_wp2_with fail
                    have F0 : ∀ w', Below wr.heap.size wr w' → w'.cell? ⟨wo.heap.size, 0, none⟩ = some (.int .u64 r) := fun w' h => (bb.below' h).cell 0 rfl
                    have F1 : ∀ w', Below wr.heap.size wr w' → w'.cell? ⟨wo.heap.size, 1, none⟩ = some (.int .u64 b) := fun w' h => (bb.below' h).cell 1 rfl
                    have F2 : ∀ w', Below wr.heap.size wr w' → w'.cell? ⟨wo.heap.size, 2, none⟩ = some (.int .u64 t') := fun w' h => (bb.below' h).cell 2 rfl
                    have F3 : ∀ w', Below wr.heap.size wr w' → w'.cell? ⟨(ad.add (k * 3)).block, (ad.add (k * 3)).off + 1, none⟩ = some (.int .u64 N) := fun w' h => (h.cell (World.block_lt_of_cell? _ _ c1)).trans c1
                    refine wp_region_ext' 12 (some 10) (some ⟨11, 85, #[.int .u64 r, .int .u64 b, .int .u64 t']⟩) #[.int .u64 0, .int .u64 0, .int .u64 0] 24 (by kernel_rfl) (by kernel_rfl) (fun k hk => by injection hk with hk; subst hk; exact ⟨by decide, _, rfl, rfl, fun ρ w => by rfl⟩) (fun s hs => by injection hs with hs; subst hs; exact ⟨of_decide_eq_true rfl, _, _, _, rfl, rfl, rfl, rfl, of_decide_eq_true rfl, rfl, of_decide_eq_true rfl, of_decide_eq_true rfl, of_decide_eq_true rfl, of_decide_eq_true rfl, of_decide_eq_true rfl, fun ρ w B h1 h2 h3 => by have z0 := h3.cell 0 rfl; have z1 := h3.cell 1 rfl; have z2 := h3.cell 2 rfl; have y0 := h3.free 0; have y1 := h3.free 1; have y2 := h3.free 2; refine ⟨((w.setCell ⟨B, 0, none⟩ _).setCell ⟨B, 1, none⟩ _).setCell ⟨B, 2, none⟩ _, ?_, ((h3.set 0 _).set 1 _).set 2 _, (((Below.refl _ _).setCell (p := ⟨B, 0, none⟩) (Nat.le_refl _) _).setCell (p := ⟨B, 1, none⟩) (Nat.le_refl _) _).setCell (p := ⟨B, 2, none⟩) (Nat.le_refl _) _⟩; simp only [execOp, h1, h2]; go_simp⟩) (fun KE hKE W0 hF => ?_); (repeat (first | (apply WpExt.pass; (focus decide)) | (apply WpExt.store; (focus decide); (focus (exact rfl)); (focus (intro s hs; injection hs with hs; subst hs; rfl)); simp only [Act.put, List.setIfInBounds_toArray, List.set_cons_zero, List.set_cons_succ]) | (apply WpExt.step; (focus decide); (focus (show (some 11 : Option Nat) ≠ some _; decide)); (focus (exact rfl)); (focus (intro w' hB'; have hB' := hF _ hB'; go_simp; first | exact extUpon_value rfl rfl | (apply extUpon_enter; first | exact take_no _ _ _ _ _ hN'))); simp only [Act.put, List.setIfInBounds_toArray, List.set_cons_zero, List.set_cons_succ]) | (apply WpExt.skip; (focus decide); (focus (show (some 11 : Option Nat) ≠ some _; decide)); (focus (exact rfl)); simp only [Act.put, List.setIfInBounds_toArray, List.set_cons_zero, List.set_cons_succ]))); refine WpExt.nil _ _ (hKE _ (fun w2 hB2 => ?_)); clear hKE KE hF W0
                    clear F0 F1 F2
                    intro B hB0 hBz
                    change Blk w2 B #[.int .u64 r, .int .u64 b, .int .u64 t'] 24 at hBz
                    simp only [dstOf, List.getElem?_toArray, List.getElem?_cons_succ, List.getElem?_cons_zero, Option.bind_some, Act.put, List.setIfInBounds_toArray, List.set_cons_zero, List.set_cons_succ]
                    have d1 := F3 w2 hB2
                    have d0 := (hB2.cell (World.block_lt_of_cell? _ _ c0)).trans c0
                    clear F3
                    have z0 := hBz.cell 0 rfl
                    have z1 := hBz.cell 1 rfl
                    have z2 := hBz.cell 2 rfl
                    have y0 := hBz.free 0
                    have y1 := hBz.free 1
                    have y2 := hBz.free 2
                    have bx2 := bx.below' hB2
                    have bb2 := bb.below' hB2
                    have hI2 := hI.below hB2
                    have hW2 := hW.then_ hB2
                    have q0 := bx2.cell 0 rfl
                    have q1 := bx2.cell 1 rfl
                    have q2 := bx2.cell 2 rfl
                    have s0 := bb2.cell 0 rfl
                    have s1 := bb2.cell 1 rfl
                    have s2 := bb2.cell 2 rfl
                    have v0 := bb2.free 0
                    have v1 := bb2.free 1
                    have v2 := bb2.free 2
                    have hBw : w.heap.size < B := by omega
                    have hBo : wo.heap.size < B := by omega
                    have hBl : (ad.add (k * 3)).block < B := by omega
                    have hnB : ∀ o, (⟨B, o, none⟩ : Addr) ≠ ad.add (k * 3) := fun o e => by
                      have e2 := congrArg Addr.block e
                      simp only at e2
                      omega
                    go_wp2
                    go_roundw
                    case rel => exact ⟨k + 1, T', K', t', by omega, by go_num, rfl, rfl, HI2.out, ((bx2.other _ _ (by simpa using hne)).other _ _ (by simpa using hne)).other _ _ (by simpa using hne), ((bb2.set 0 _).set 1 _).set 2 _, hI2.of_old hA (((((Below.refl w.heap.size w2)).setCell (p := ⟨wo.heap.size, 0, none⟩) hle _).setCell (p := ⟨wo.heap.size, 1, none⟩) hle _).setCell (p := ⟨wo.heap.size, 2, none⟩) hle _), ((((hW2).setCell (p := ⟨wo.heap.size, 0, none⟩) hle _).setCell (p := ⟨wo.heap.size, 1, none⟩) hle _).setCell (p := ⟨wo.heap.size, 2, none⟩) hle _)⟩
                    case measure => simp [intOf]; omega
              · have hk1' : (kd == 1) = false := by simpa using hk1
                have inv2 := inv'.stay
                obtain ⟨j0, j1⟩ := inv2.bound r0 h4 (by omega)
                have HI2 := Lib.hid inv2
                clear inv2
                rcases hT with ⟨rfl, rfl, rfl⟩ | ⟨hkf, rfl, rfl⟩
                · rw [Int.mul_zero] at j0 j1 id_
                  go_wp2
                  go_roundw
                  case rel => exact ⟨k + 1, 0, 0, t', by omega, by go_num, rfl, rfl, HI2.out, bx, bb, hI, hW⟩
                  case measure => simp [intOf]; omega
                · have hkf' : ((k : Int) == (f : Int)) = false := by simp; omega
                  go_wp2
                  go_roundw
                  case rel => exact ⟨k + 1, T', K', t', by omega, by go_num, rfl, rfl, HI2.out, bx, bb, hI, hW⟩
                  case measure => simp [intOf]; omega
          · have hkn : k = n := by omega
            clear hne hle q0 q1 q2 s0 s1 s2 lx lb inv hlk hk
            subst hkn
            go_wp2
            go_roundw
            case rel => exact ⟨f + 1, by omega, by go_num, bx, hI, hW⟩
            case measure => simp [intOf]; omega
      · go_wp2
        go_ret
        exact ⟨rfl, hW⟩
  · have hc' : n ≤ 60 → t ≤ b → b ≤ 1000000000000 → ¬ r ≤ 1000000000000 := fun a1 a2 a3 a4 => hc ⟨a1, a2, a3, a4⟩
    clear hc
    by_cases g1 : n ≤ 60
    · by_cases g2 : t ≤ b
      · by_cases g3 : b ≤ 1000000000000
        · have g4 := hc' g1 g2 g3
          clear hc'
          go_enter Try.func4, Try.ntmps4
          go_wp2_with (go_at_call 7; (with_reducible refine (awake_c _).mono ?_); rintro e w1 ⟨rfl, hB⟩; (first | have bx := (bx).below' hB | have bx := ((bx).alloc _).below' hB | have bx := (((bx).alloc _).alloc _).below' hB | have bx := ((bx).drew).below' hB); (have q0 := (bx).cell 0 rfl; have q1 := (bx).cell 1 rfl; have q2 := (bx).cell 2 rfl; have lx := (bx).lt); (first | have hW := (hW).then_ hB | have hW := ((hW).alloc_ _).then_ hB | have hW := (((hW).alloc_ _).alloc_ _).then_ hB | have hW := (hW.drew).then_ hB))
          go_ret
          exact ⟨rfl, hW⟩
        · clear hc'
          go_enter Try.func4, Try.ntmps4
          go_wp2_with (go_at_call 7; (with_reducible refine (awake_c _).mono ?_); rintro e w1 ⟨rfl, hB⟩; (first | have bx := (bx).below' hB | have bx := ((bx).alloc _).below' hB | have bx := (((bx).alloc _).alloc _).below' hB | have bx := ((bx).drew).below' hB); (have q0 := (bx).cell 0 rfl; have q1 := (bx).cell 1 rfl; have q2 := (bx).cell 2 rfl; have lx := (bx).lt); (first | have hW := (hW).then_ hB | have hW := ((hW).alloc_ _).then_ hB | have hW := (((hW).alloc_ _).alloc_ _).then_ hB | have hW := (hW.drew).then_ hB))
          go_ret
          exact ⟨rfl, hW⟩
      · clear hc'
        go_enter Try.func4, Try.ntmps4
        go_wp2_with (go_at_call 7; (with_reducible refine (awake_c _).mono ?_); rintro e w1 ⟨rfl, hB⟩; (first | have bx := (bx).below' hB | have bx := ((bx).alloc _).below' hB | have bx := (((bx).alloc _).alloc _).below' hB | have bx := ((bx).drew).below' hB); (have q0 := (bx).cell 0 rfl; have q1 := (bx).cell 1 rfl; have q2 := (bx).cell 2 rfl; have lx := (bx).lt); (first | have hW := (hW).then_ hB | have hW := ((hW).alloc_ _).then_ hB | have hW := (((hW).alloc_ _).alloc_ _).then_ hB | have hW := (hW.drew).then_ hB))
        go_ret
        exact ⟨rfl, hW⟩
    · clear hc'
      go_enter Try.func4, Try.ntmps4
      go_wp2_with (go_at_call 7; (with_reducible refine (awake_c _).mono ?_); rintro e w1 ⟨rfl, hB⟩; (first | have bx := (bx).below' hB | have bx := ((bx).alloc _).below' hB | have bx := (((bx).alloc _).alloc _).below' hB | have bx := ((bx).drew).below' hB); (have q0 := (bx).cell 0 rfl; have q1 := (bx).cell 1 rfl; have q2 := (bx).cell 2 rfl; have lx := (bx).lt); (first | have hW := (hW).then_ hB | have hW := ((hW).alloc_ _).then_ hB | have hW := (((hW).alloc_ _).alloc_ _).then_ hB | have hW := (hW.drew).then_ hB))
      go_ret
      exact ⟨rfl, hW⟩

end Go.Proofs.Ytadkfceacnegaaa
