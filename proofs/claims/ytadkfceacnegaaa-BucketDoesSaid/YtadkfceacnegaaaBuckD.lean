/-
  The walk of BucketDoes.
-/
import Derived.Test.YtadkfceacnegaaaBuckA
import Derived.Test.YtadkfceacnegaaaExt
import Derived.Test.YtadkfceacnegaaaOpen
set_option linter.unusedVariables false
set_option linter.unusedSimpArgs false
namespace Go.Proofs.Ytadkfceacnegaaa
open Go.RowKit
attribute [local go_sem high] eqBk eqRef fieldBk

theorem Blk.set3 {w : World} {B : Nat} {a b c : Value} {T : TypeId} (h : Blk w B #[a, b, c] T) (x y z : Value) : Blk (((w.setCell ⟨B, 0, none⟩ x).setCell ⟨B, 1, none⟩ y).setCell ⟨B, 2, none⟩ z) B #[x, y, z] T := ((h.set 0 x).set 1 y).set 2 z
theorem Blk.oth3 {w : World} {b : Nat} {c : Array Value} {T : TypeId} (h : Blk w b c T) {B : Nat} (hne : b ≠ B) (x y z : Value) : Blk (((w.setCell ⟨B, 0, none⟩ x).setCell ⟨B, 1, none⟩ y).setCell ⟨B, 2, none⟩ z) b c T := ((h.other _ _ hne).other _ _ hne).other _ _ hne
theorem below3 {n : Nat} {w0 w : World} (h : Below n w0 w) {B : Nat} (hB : n ≤ B) (x y z : Value) : Below n w0 (((w.setCell ⟨B, 0, none⟩ x).setCell ⟨B, 1, none⟩ y).setCell ⟨B, 2, none⟩ z) := ((h.setCell (p := ⟨B, 0, none⟩) hB _).setCell (p := ⟨B, 1, none⟩) hB _).setCell (p := ⟨B, 2, none⟩) hB _

theorem Blk.fut {w : World} {b : Nat} {c : Array Value} {T : TypeId} (h : Blk w b c T) (i : Nat) {v : Value} (hv : c[i]? = some v) : ∀ w', Below w.heap.size w w' → w'.cell? ⟨b, i, none⟩ = some v := fun w' hb => (h.below' hb).cell i hv

theorem waits_same (r b t n : Int) (hr : U r) (hb : U b) (ht : U t) (hn : U n) : ∃ (v : Int) (ev : Bool),
    (∀ W : World, Calls Try.prog 9 #[bk r b t, .int .u64 n] W fun e w' => e = .returned (.tuple #[.int .u64 v, .bool ev]) ∧ Below W.heap.size W w') ∧
    (∀ W : World, Calls Try.prog 10 #[bk r b t, .int .u64 n] W fun e w' => e = .returned (.tuple #[.int .u64 v, .bool ev]) ∧ Below W.heap.size W w') := by
  by_cases h1 : n ≤ t
  · exact ⟨0, true, fun W => wait_gen r b t n _ _ _ W hr hb ht hn rfl (.inl ⟨h1, rfl, rfl⟩), fun W => rwait_gen r b t n _ _ W hr hb ht hn (.inl ⟨h1, rfl, rfl⟩)⟩
  · have h1 : t < n := by omega
    have r0 := hr.1
    by_cases h2 : r = 0 ∨ b < n
    · refine ⟨0, false, fun W => wait_gen r b t n _ _ _ W hr hb ht hn rfl (.inr (.inl ⟨h1, ?_, rfl, rfl⟩)), fun W => rwait_gen r b t n _ _ W hr hb ht hn (.inr (.inl ⟨h1, h2, rfl, rfl⟩))⟩
      rcases h2 with rfl | h2
      · exact .inl (by rw [sfill_zero ht (U_of (by decide) (by decide)) hb]; simp)
      · exact .inr h2
    · have h3 : n ≤ b := by omega
      have h4 : 0 < r := by omega
      have h5 : (t == sfill t r 1 b) = false := by
        rw [sfill_plain ht hr (U_of (by decide) (by decide)) hb, Int.mul_one]
        simp; omega
      exact ⟨(n - t - 1) / r + 1, true, fun W => wait_gen r b t n _ _ _ W hr hb ht hn h5 (.inr (.inr ⟨h1, rfl, h3, h4, rfl, rfl⟩)), fun W => rwait_gen r b t n _ _ W hr hb ht hn (.inr (.inr ⟨h1, h3, h4, rfl, rfl⟩))⟩

set_option maxHeartbeats 8000000 in
set_option maxRecDepth 100000 in
theorem does_c (r b t : Int) (A : Option Addr) (n c : Nat) (xs : List (Int × Int × Int)) (w : World) (hr : U r) (hb : U b) (ht : U t) (h : Int3s w .i64 .u64 .u64 A n xs) :
    Calls Try.prog 3 #[bk r b t, .slice A n c] w fun e w' => e = .returned (.bool true) ∧ Below w.heap.size w w' := by
  have hm := h.most
  have bx := Blk.new w #[.int .u64 r, .int .u64 b, .int .u64 t] 24
  have hW := (Below.refl w.heap.size w).alloc_ (.cells #[.int .u64 r, .int .u64 b, .int .u64 t] 24)
  have hI := h.below hW
  have hA : ∀ j ad, A = some ad → j < n → (ad.add (j * 3)).block < w.heap.size := fun j ad e hj => by
    obtain ⟨ad', x, e', _, c0, _⟩ := h.at_ j hj
    rw [e] at e'
    injection e' with e'
    subst e'
    exact World.block_lt_of_cell? w _ c0
  clear h
  by_cases hc : 60 < n
  · go_enter Try.func3, Try.ntmps3
    go_wp2_with (go_at_call 7; (with_reducible refine (awake_c _).mono ?_); rintro e w1 ⟨rfl, hB⟩; (first | have bx := (bx).below' hB | have bx := ((bx).alloc _).below' hB | have bx := (((bx).alloc _).alloc _).below' hB | have bx := ((bx).drew).below' hB); (have q0 := (bx).cell 0 rfl; have q1 := (bx).cell 1 rfl; have q2 := (bx).cell 2 rfl; have lx := (bx).lt); (first | have hW := (hW).then_ hB | have hW := ((hW).alloc_ _).then_ hB | have hW := (((hW).alloc_ _).alloc_ _).then_ hB | have hW := (hW.drew).then_ hB))
    go_ret
    exact ⟨rfl, hW⟩
  · go_enter Try.func3, Try.ntmps3
    go_wp2_with (go_at_call 7; (with_reducible refine (awake_c _).mono ?_); rintro e w1 ⟨rfl, hB⟩; (first | have bx := (bx).below' hB | have bx := ((bx).alloc _).below' hB | have bx := (((bx).alloc _).alloc _).below' hB | have bx := ((bx).drew).below' hB); (have q0 := (bx).cell 0 rfl; have q1 := (bx).cell 1 rfl; have q2 := (bx).cell 2 rfl; have lx := (bx).lt); (first | have hW := (hW).then_ hB | have hW := ((hW).alloc_ _).then_ hB | have hW := (((hW).alloc_ _).alloc_ _).then_ hB | have hW := (hW.drew).then_ hB); replace hI := hI.below hB)
    clear hB
    have b6 := Blk.new w1 #[.int .u64 r, .int .u64 b, .int .u64 t] 24
    replace bx := bx.alloc (.cells #[.int .u64 r, .int .u64 b, .int .u64 t] 24)
    replace hI := hI.below ((Below.refl _ w1).alloc_ (.cells #[.int .u64 r, .int .u64 b, .int .u64 t] 24))
    replace hW := hW.alloc_ (.cells #[.int .u64 r, .int .u64 b, .int .u64 t] 24)
    refine (plain_c r b t _).mono ?_
    rintro e wq ⟨rfl, hB⟩
    replace bx := bx.below' hB
    replace b6 := b6.below' hB
    replace hI := hI.below hB
    replace hW := hW.then_ hB
    have hx6 : w.heap.size < w1.heap.size := lx
    have h67 := b6.lt
    clear hB q0 q1 q2 lx
    go_wp2_with fail
    go_loopw [8] (fun vi wr => ∃ (k : Nat) (r' b' t' : Int), k ≤ n ∧ vi = .int .i64 k ∧ U r' ∧ U b' ∧ U t' ∧ Blk wr w.heap.size #[.int .u64 r, .int .u64 b, .int .u64 t] 24 ∧ Blk wr w1.heap.size #[.int .u64 r', .int .u64 b', .int .u64 t'] 24 ∧
        Blk wr wq.heap.size #[.int .u64 r', .int .u64 b', .int .u64 t'] 27 ∧ Int3s wr .i64 .u64 .u64 A n xs ∧ Below w.heap.size w wr) (fun vi _ => n - (intOf vi).toNat)
    case atStart => exact ⟨0, r, b, t, Nat.zero_le _, rfl, hr, hb, ht, bx.alloc _, b6.alloc _, Blk.new _ _ _, hI.below ((Below.refl _ _).alloc_ _), hW.alloc_ _⟩
    case round =>
      have hle := hW.size
      clear bx b6 hI hW
      obtain ⟨k, r', b', t', hk, rfl, ur, ub, ut, bx, b6, b7, hI, hW⟩ := hrel
      by_cases hlk : k < n
      · obtain ⟨ad, x, rfl, hx, c0, c1, c2, f0, f1, f2⟩ := hI.at_ k hlk
        obtain ⟨kd, N, bu⟩ := x
        have uN := u64_U f1
        have uB := u64_U f2
        obtain ⟨v, ev, T1, T2⟩ := waits_same r' b' t' N ur ub ut uN
        simp only at c0 c1 c2 f0 f1 f2
        clear hx f0 f1 f2
        have h6r := b6.lt
        have h7r := b7.lt
        have b9 := Blk.new wr #[.int .i64 kd, .int .u64 N, .int .u64 bu] 30
        replace bx := bx.alloc (.cells #[.int .i64 kd, .int .u64 N, .int .u64 bu] 30)
        replace b6 := b6.alloc (.cells #[.int .i64 kd, .int .u64 N, .int .u64 bu] 30)
        replace b7 := b7.alloc (.cells #[.int .i64 kd, .int .u64 N, .int .u64 bu] 30)
        replace hI := hI.below ((Below.refl _ wr).alloc_ (.cells #[.int .i64 kd, .int .u64 N, .int .u64 bu] 30))
        replace hW := hW.alloc_ (.cells #[.int .i64 kd, .int .u64 N, .int .u64 bu] 30)
        have p0 := b6.cell 0 rfl
        have pf0 := b6.free 0
        have p1 := b6.cell 1 rfl
        have pf1 := b6.free 1
        have p2 := b6.cell 2 rfl
        have pf2 := b6.free 2
        have s0 := b7.cell 0 rfl
        have sf0 := b7.free 0
        have s1 := b7.cell 1 rfl
        have sf1 := b7.free 1
        have s2 := b7.cell 2 rfl
        have sf2 := b7.free 2
        have z0 := b9.cell 0 rfl
        have z1 := b9.cell 1 rfl
        have z2 := b9.cell 2 rfl
        have l6 := b6.lt
        have l7 := b7.lt
        have l9 := b9.lt
        go_wp2_with fail
        refine (T1 _).mono ?_
        rintro e w3 ⟨rfl, hB⟩
        replace bx := bx.below' hB
        replace b6 := b6.below' hB
        replace b7 := b7.below' hB
        replace b9 := b9.below' hB
        replace hI := hI.below hB
        replace hW := hW.then_ hB
        clear hB
        have p0 := b6.cell 0 rfl
        have pf0 := b6.free 0
        have p1 := b6.cell 1 rfl
        have pf1 := b6.free 1
        have p2 := b6.cell 2 rfl
        have pf2 := b6.free 2
        have s0 := b7.cell 0 rfl
        have sf0 := b7.free 0
        have s1 := b7.cell 1 rfl
        have sf1 := b7.free 1
        have s2 := b7.cell 2 rfl
        have sf2 := b7.free 2
        have z0 := b9.cell 0 rfl
        have z1 := b9.cell 1 rfl
        have z2 := b9.cell 2 rfl
        have l6 := b6.lt
        have l7 := b7.lt
        have l9 := b9.lt
        go_wp2_with fail
        refine (T2 _).mono ?_
        rintro e w4 ⟨rfl, hB⟩
        replace bx := bx.below' hB
        replace b6 := b6.below' hB
        replace b7 := b7.below' hB
        replace b9 := b9.below' hB
        replace hI := hI.below hB
        replace hW := hW.then_ hB
        clear hB
        have p0 := b6.cell 0 rfl
        have pf0 := b6.free 0
        have p1 := b6.cell 1 rfl
        have pf1 := b6.free 1
        have p2 := b6.cell 2 rfl
        have pf2 := b6.free 2
        have s0 := b7.cell 0 rfl
        have sf0 := b7.free 0
        have s1 := b7.cell 1 rfl
        have sf1 := b7.free 1
        have s2 := b7.cell 2 rfl
        have sf2 := b7.free 2
        have z0 := b9.cell 0 rfl
        have z1 := b9.cell 1 rfl
        have z2 := b9.cell 2 rfl
        have l6 := b6.lt
        have l7 := b7.lt
        have l9 := b9.lt
        by_cases hk0 : kd = 0
        · subst hk0
          go_wp2_with fail
          refine (tick_c _ _ _ _ _ ur ub ut uN).mono ?_
          rintro e w5 ⟨rfl, hB⟩
          replace bx := bx.below' hB
          replace b6 := b6.below' hB
          replace b7 := b7.below' hB
          replace b9 := b9.below' hB
          replace hI := hI.below hB
          replace hW := hW.then_ hB
          clear hB
          have p0 := b6.cell 0 rfl
          have pf0 := b6.free 0
          have p1 := b6.cell 1 rfl
          have pf1 := b6.free 1
          have p2 := b6.cell 2 rfl
          have pf2 := b6.free 2
          have s0 := b7.cell 0 rfl
          have sf0 := b7.free 0
          have s1 := b7.cell 1 rfl
          have sf1 := b7.free 1
          have s2 := b7.cell 2 rfl
          have sf2 := b7.free 2
          have z0 := b9.cell 0 rfl
          have z1 := b9.cell 1 rfl
          have z2 := b9.cell 2 rfl
          have l6 := b6.lt
          have l7 := b7.lt
          have l9 := b9.lt
          go_wp2_with fail
          replace b6 := b6.set3 (.int .u64 r') (.int .u64 b') (.int .u64 (sfill t' r' N b'))
          replace b7 := b7.oth3 (B := w1.heap.size) (by omega) (.int .u64 r') (.int .u64 b') (.int .u64 (sfill t' r' N b'))
          replace b9 := b9.oth3 (B := w1.heap.size) (by omega) (.int .u64 r') (.int .u64 b') (.int .u64 (sfill t' r' N b'))
          replace bx := bx.oth3 (B := w1.heap.size) (by omega) (.int .u64 r') (.int .u64 b') (.int .u64 (sfill t' r' N b'))
          replace hI := hI.of_old hA (below3 (Below.refl w.heap.size _) (B := w1.heap.size) (by omega) (.int .u64 r') (.int .u64 b') (.int .u64 (sfill t' r' N b')))
          replace hW := below3 hW (B := w1.heap.size) (by omega) (.int .u64 r') (.int .u64 b') (.int .u64 (sfill t' r' N b'))
          refine (rtick_c _ _ _ _ _ ur ub ut uN).mono ?_
          rintro e w6 ⟨rfl, hB⟩
          replace bx := bx.below' hB
          replace b6 := b6.below' hB
          replace b7 := b7.below' hB
          replace b9 := b9.below' hB
          replace hI := hI.below hB
          replace hW := hW.then_ hB
          clear hB
          have p0 := b6.cell 0 rfl
          have pf0 := b6.free 0
          have p1 := b6.cell 1 rfl
          have pf1 := b6.free 1
          have p2 := b6.cell 2 rfl
          have pf2 := b6.free 2
          have s0 := b7.cell 0 rfl
          have sf0 := b7.free 0
          have s1 := b7.cell 1 rfl
          have sf1 := b7.free 1
          have s2 := b7.cell 2 rfl
          have sf2 := b7.free 2
          have z0 := b9.cell 0 rfl
          have z1 := b9.cell 1 rfl
          have z2 := b9.cell 2 rfl
          have l6 := b6.lt
          have l7 := b7.lt
          have l9 := b9.lt
          go_wp2_with fail
          replace b7 := b7.set3 (.int .u64 r') (.int .u64 b') (.int .u64 (sfill t' r' N b'))
          replace b6 := b6.oth3 (B := wq.heap.size) (by omega) (.int .u64 r') (.int .u64 b') (.int .u64 (sfill t' r' N b'))
          replace b9 := b9.oth3 (B := wq.heap.size) (by omega) (.int .u64 r') (.int .u64 b') (.int .u64 (sfill t' r' N b'))
          replace bx := bx.oth3 (B := wq.heap.size) (by omega) (.int .u64 r') (.int .u64 b') (.int .u64 (sfill t' r' N b'))
          replace hI := hI.of_old hA (below3 (Below.refl w.heap.size _) (B := wq.heap.size) (by omega) (.int .u64 r') (.int .u64 b') (.int .u64 (sfill t' r' N b')))
          replace hW := below3 hW (B := wq.heap.size) (by omega) (.int .u64 r') (.int .u64 b') (.int .u64 (sfill t' r' N b'))
          generalize (((w6.setCell ⟨wq.heap.size, 0, none⟩ (.int .u64 r')).setCell ⟨wq.heap.size, 1, none⟩ (.int .u64 b')).setCell ⟨wq.heap.size, 2, none⟩ (.int .u64 (sfill t' r' N b'))) = wE at bx b6 b7 b9 hI hW ⊢
          have F0 := b6.fut 0 rfl
          have F1 := b6.fut 1 rfl
          have F2 := b6.fut 2 rfl
          have G0 := b7.fut 0 rfl
          have G1 := b7.fut 1 rfl
          have G2 := b7.fut 2 rfl
          refine wp_region_ext' 3 none none #[] 0 (by kernel_rfl) (by kernel_rfl) (fun k hk => by cases hk) (fun s hs => by cases hs) (fun KE hKE W0 hF => ?_); (repeat (first | (apply WpExt.pass; (focus decide)) | (apply WpExt.step; (focus decide); (focus (show (none : Option Nat) ≠ some _; decide)); (focus (exact rfl)); (focus (intro w' hB'; have hB' := hF _ hB'; go_simp; first | exact extUpon_value rfl rfl | (apply extUpon_enter; first | exact plain_c _ _ _ _))); simp only [Act.put, List.setIfInBounds_toArray, List.set_cons_zero, List.set_cons_succ]) | (apply WpExt.skip; (focus decide); (focus (show (none : Option Nat) ≠ some _; decide)); (focus (exact rfl)); simp only [Act.put, List.setIfInBounds_toArray, List.set_cons_zero, List.set_cons_succ]))); refine WpExt.nil _ _ (hKE _ (fun w2 hB2 => ?_)); clear hKE KE hF W0
          clear F0 F1 F2 G0 G1 G2
          change wpList _ _ _ _ _ _
          go_wp2
          go_roundw
          case rel => exact ⟨k + 1, r', b', sfill t' r' N b', by omega, by go_num, ur, ub, sfill_U ut ur uN ub, bx.below' hB2, b6.below' hB2, b7.below' hB2, hI.below hB2, hW.then_ hB2⟩
          case measure => simp [intOf]; omega
        · have hk0' : (kd == 0) = false := by simpa using hk0
          by_cases hk1 : kd = 1
          · by_cases hN : N ≤ t'
            · subst hk1
              go_wp2_with fail
              refine (take_yes _ _ _ _ _ ut uN hN).mono ?_
              rintro e w5 ⟨rfl, hB⟩
              replace bx := bx.below' hB
              replace b6 := b6.below' hB
              replace b7 := b7.below' hB
              replace b9 := b9.below' hB
              replace hI := hI.below hB
              replace hW := hW.then_ hB
              clear hB
              have p0 := b6.cell 0 rfl
              have pf0 := b6.free 0
              have p1 := b6.cell 1 rfl
              have pf1 := b6.free 1
              have p2 := b6.cell 2 rfl
              have pf2 := b6.free 2
              have s0 := b7.cell 0 rfl
              have sf0 := b7.free 0
              have s1 := b7.cell 1 rfl
              have sf1 := b7.free 1
              have s2 := b7.cell 2 rfl
              have sf2 := b7.free 2
              have z0 := b9.cell 0 rfl
              have z1 := b9.cell 1 rfl
              have z2 := b9.cell 2 rfl
              have l6 := b6.lt
              have l7 := b7.lt
              have l9 := b9.lt
              go_wp2_with fail
              have l75 := l7
              have bc := Blk.new w5 #[.int .u64 r', .int .u64 b', .int .u64 (t' - N)] 24
              replace bx := bx.alloc (.cells #[.int .u64 r', .int .u64 b', .int .u64 (t' - N)] 24)
              replace b6 := b6.alloc (.cells #[.int .u64 r', .int .u64 b', .int .u64 (t' - N)] 24)
              replace b7 := b7.alloc (.cells #[.int .u64 r', .int .u64 b', .int .u64 (t' - N)] 24)
              replace b9 := b9.alloc (.cells #[.int .u64 r', .int .u64 b', .int .u64 (t' - N)] 24)
              replace hI := hI.below ((Below.refl _ _).alloc_ (.cells #[.int .u64 r', .int .u64 b', .int .u64 (t' - N)] 24))
              replace hW := hW.alloc_ (.cells #[.int .u64 r', .int .u64 b', .int .u64 (t' - N)] 24)
              refine (rtake_yes _ _ _ _ _ ut uN hN).mono ?_
              rintro e w6 ⟨rfl, hB⟩
              replace bc := bc.below' hB
              replace bx := bx.below' hB
              replace b6 := b6.below' hB
              replace b7 := b7.below' hB
              replace b9 := b9.below' hB
              replace hI := hI.below hB
              replace hW := hW.then_ hB
              clear hB
              have p0 := b6.cell 0 rfl
              have pf0 := b6.free 0
              have p1 := b6.cell 1 rfl
              have pf1 := b6.free 1
              have p2 := b6.cell 2 rfl
              have pf2 := b6.free 2
              have s0 := b7.cell 0 rfl
              have sf0 := b7.free 0
              have s1 := b7.cell 1 rfl
              have sf1 := b7.free 1
              have s2 := b7.cell 2 rfl
              have sf2 := b7.free 2
              have z0 := b9.cell 0 rfl
              have z1 := b9.cell 1 rfl
              have z2 := b9.cell 2 rfl
              have l6 := b6.lt
              have l7 := b7.lt
              have l9 := b9.lt
              have c0 := bc.cell 0 rfl
              have c1 := bc.cell 1 rfl
              have c2 := bc.cell 2 rfl
              have lc := bc.lt
              have hl5 : wq.heap.size < w5.heap.size := l75
              go_wp2_with fail
              replace b6 := b6.set3 (.int .u64 r') (.int .u64 b') (.int .u64 (t' - N))
              replace b7 := b7.oth3 (B := w1.heap.size) (by omega) (.int .u64 r') (.int .u64 b') (.int .u64 (t' - N))
              replace b9 := b9.oth3 (B := w1.heap.size) (by omega) (.int .u64 r') (.int .u64 b') (.int .u64 (t' - N))
              replace bx := bx.oth3 (B := w1.heap.size) (by omega) (.int .u64 r') (.int .u64 b') (.int .u64 (t' - N))
              replace hI := hI.of_old hA (below3 (Below.refl w.heap.size _) (B := w1.heap.size) (by omega) (.int .u64 r') (.int .u64 b') (.int .u64 (t' - N)))
              replace hW := below3 hW (B := w1.heap.size) (by omega) (.int .u64 r') (.int .u64 b') (.int .u64 (t' - N))
              replace b7 := b7.set3 (.int .u64 r') (.int .u64 b') (.int .u64 (t' - N))
              replace b6 := b6.oth3 (B := wq.heap.size) (by omega) (.int .u64 r') (.int .u64 b') (.int .u64 (t' - N))
              replace b9 := b9.oth3 (B := wq.heap.size) (by omega) (.int .u64 r') (.int .u64 b') (.int .u64 (t' - N))
              replace bx := bx.oth3 (B := wq.heap.size) (by omega) (.int .u64 r') (.int .u64 b') (.int .u64 (t' - N))
              replace hI := hI.of_old hA (below3 (Below.refl w.heap.size _) (B := wq.heap.size) (by omega) (.int .u64 r') (.int .u64 b') (.int .u64 (t' - N)))
              replace hW := below3 hW (B := wq.heap.size) (by omega) (.int .u64 r') (.int .u64 b') (.int .u64 (t' - N))
              replace bx := bx.alloc (.cells #[.int .u64 r', .int .u64 b', .int .u64 (t' - N)] 27)
              replace b6 := b6.alloc (.cells #[.int .u64 r', .int .u64 b', .int .u64 (t' - N)] 27)
              replace b7 := b7.alloc (.cells #[.int .u64 r', .int .u64 b', .int .u64 (t' - N)] 27)
              replace b9 := b9.alloc (.cells #[.int .u64 r', .int .u64 b', .int .u64 (t' - N)] 27)
              replace hI := hI.below ((Below.refl _ _).alloc_ (.cells #[.int .u64 r', .int .u64 b', .int .u64 (t' - N)] 27))
              replace hW := hW.alloc_ (.cells #[.int .u64 r', .int .u64 b', .int .u64 (t' - N)] 27)
              generalize (((((((w6.setCell ⟨w1.heap.size, 0, none⟩ (.int .u64 r')).setCell ⟨w1.heap.size, 1, none⟩ (.int .u64 b')).setCell ⟨w1.heap.size, 2, none⟩ (.int .u64 (t' - N))).setCell ⟨wq.heap.size, 0, none⟩ (.int .u64 r')).setCell ⟨wq.heap.size, 1, none⟩ (.int .u64 b')).setCell ⟨wq.heap.size, 2, none⟩ (.int .u64 (t' - N))).alloc (.cells #[.int .u64 r', .int .u64 b', .int .u64 (t' - N)] 27)) = wE at bx b6 b7 b9 hI hW ⊢
              have F0 := b6.fut 0 rfl
              have F1 := b6.fut 1 rfl
              have F2 := b6.fut 2 rfl
              have G0 := b7.fut 0 rfl
              have G1 := b7.fut 1 rfl
              have G2 := b7.fut 2 rfl
              refine wp_region_ext' 3 none none #[] 0 (by kernel_rfl) (by kernel_rfl) (fun k hk => by cases hk) (fun s hs => by cases hs) (fun KE hKE W0 hF => ?_); (repeat (first | (apply WpExt.pass; (focus decide)) | (apply WpExt.step; (focus decide); (focus (show (none : Option Nat) ≠ some _; decide)); (focus (exact rfl)); (focus (intro w' hB'; have hB' := hF _ hB'; go_simp; first | exact extUpon_value rfl rfl | (apply extUpon_enter; first | exact plain_c _ _ _ _))); simp only [Act.put, List.setIfInBounds_toArray, List.set_cons_zero, List.set_cons_succ]) | (apply WpExt.skip; (focus decide); (focus (show (none : Option Nat) ≠ some _; decide)); (focus (exact rfl)); simp only [Act.put, List.setIfInBounds_toArray, List.set_cons_zero, List.set_cons_succ]))); refine WpExt.nil _ _ (hKE _ (fun w2 hB2 => ?_)); clear hKE KE hF W0
              clear F0 F1 F2 G0 G1 G2
              change wpList _ _ _ _ _ _
              go_wp2
              go_roundw
              case rel => exact ⟨k + 1, r', b', t' - N, by omega, by go_num, ur, ub, by unfold U M at *; omega, bx.below' hB2, b6.below' hB2, b7.below' hB2, hI.below hB2, hW.then_ hB2⟩
              case measure => simp [intOf]; omega
            · have hN' : t' < N := by omega
              subst hk1
              go_wp2_with fail
              refine (take_no _ _ _ _ _ hN').mono ?_
              rintro e w5 ⟨rfl, hB⟩
              replace bx := bx.below' hB
              replace b6 := b6.below' hB
              replace b7 := b7.below' hB
              replace b9 := b9.below' hB
              replace hI := hI.below hB
              replace hW := hW.then_ hB
              clear hB
              have p0 := b6.cell 0 rfl
              have pf0 := b6.free 0
              have p1 := b6.cell 1 rfl
              have pf1 := b6.free 1
              have p2 := b6.cell 2 rfl
              have pf2 := b6.free 2
              have s0 := b7.cell 0 rfl
              have sf0 := b7.free 0
              have s1 := b7.cell 1 rfl
              have sf1 := b7.free 1
              have s2 := b7.cell 2 rfl
              have sf2 := b7.free 2
              have z0 := b9.cell 0 rfl
              have z1 := b9.cell 1 rfl
              have z2 := b9.cell 2 rfl
              have l6 := b6.lt
              have l7 := b7.lt
              have l9 := b9.lt
              go_wp2_with fail
              have l75 := l7
              have bc := Blk.new w5 #[.int .u64 r', .int .u64 b', .int .u64 t'] 24
              replace bx := bx.alloc (.cells #[.int .u64 r', .int .u64 b', .int .u64 t'] 24)
              replace b6 := b6.alloc (.cells #[.int .u64 r', .int .u64 b', .int .u64 t'] 24)
              replace b7 := b7.alloc (.cells #[.int .u64 r', .int .u64 b', .int .u64 t'] 24)
              replace b9 := b9.alloc (.cells #[.int .u64 r', .int .u64 b', .int .u64 t'] 24)
              replace hI := hI.below ((Below.refl _ _).alloc_ (.cells #[.int .u64 r', .int .u64 b', .int .u64 t'] 24))
              replace hW := hW.alloc_ (.cells #[.int .u64 r', .int .u64 b', .int .u64 t'] 24)
              refine (rtake_no _ _ _ _ _ hN').mono ?_
              rintro e w6 ⟨rfl, hB⟩
              replace bc := bc.below' hB
              replace bx := bx.below' hB
              replace b6 := b6.below' hB
              replace b7 := b7.below' hB
              replace b9 := b9.below' hB
              replace hI := hI.below hB
              replace hW := hW.then_ hB
              clear hB
              have p0 := b6.cell 0 rfl
              have pf0 := b6.free 0
              have p1 := b6.cell 1 rfl
              have pf1 := b6.free 1
              have p2 := b6.cell 2 rfl
              have pf2 := b6.free 2
              have s0 := b7.cell 0 rfl
              have sf0 := b7.free 0
              have s1 := b7.cell 1 rfl
              have sf1 := b7.free 1
              have s2 := b7.cell 2 rfl
              have sf2 := b7.free 2
              have z0 := b9.cell 0 rfl
              have z1 := b9.cell 1 rfl
              have z2 := b9.cell 2 rfl
              have l6 := b6.lt
              have l7 := b7.lt
              have l9 := b9.lt
              have c0 := bc.cell 0 rfl
              have c1 := bc.cell 1 rfl
              have c2 := bc.cell 2 rfl
              have lc := bc.lt
              have hl5 : wq.heap.size < w5.heap.size := l75
              go_wp2_with fail
              replace b6 := b6.set3 (.int .u64 r') (.int .u64 b') (.int .u64 t')
              replace b7 := b7.oth3 (B := w1.heap.size) (by omega) (.int .u64 r') (.int .u64 b') (.int .u64 t')
              replace b9 := b9.oth3 (B := w1.heap.size) (by omega) (.int .u64 r') (.int .u64 b') (.int .u64 t')
              replace bx := bx.oth3 (B := w1.heap.size) (by omega) (.int .u64 r') (.int .u64 b') (.int .u64 t')
              replace hI := hI.of_old hA (below3 (Below.refl w.heap.size _) (B := w1.heap.size) (by omega) (.int .u64 r') (.int .u64 b') (.int .u64 t'))
              replace hW := below3 hW (B := w1.heap.size) (by omega) (.int .u64 r') (.int .u64 b') (.int .u64 t')
              replace b7 := b7.set3 (.int .u64 r') (.int .u64 b') (.int .u64 t')
              replace b6 := b6.oth3 (B := wq.heap.size) (by omega) (.int .u64 r') (.int .u64 b') (.int .u64 t')
              replace b9 := b9.oth3 (B := wq.heap.size) (by omega) (.int .u64 r') (.int .u64 b') (.int .u64 t')
              replace bx := bx.oth3 (B := wq.heap.size) (by omega) (.int .u64 r') (.int .u64 b') (.int .u64 t')
              replace hI := hI.of_old hA (below3 (Below.refl w.heap.size _) (B := wq.heap.size) (by omega) (.int .u64 r') (.int .u64 b') (.int .u64 t'))
              replace hW := below3 hW (B := wq.heap.size) (by omega) (.int .u64 r') (.int .u64 b') (.int .u64 t')
              replace bx := bx.alloc (.cells #[.int .u64 r', .int .u64 b', .int .u64 t'] 27)
              replace b6 := b6.alloc (.cells #[.int .u64 r', .int .u64 b', .int .u64 t'] 27)
              replace b7 := b7.alloc (.cells #[.int .u64 r', .int .u64 b', .int .u64 t'] 27)
              replace b9 := b9.alloc (.cells #[.int .u64 r', .int .u64 b', .int .u64 t'] 27)
              replace hI := hI.below ((Below.refl _ _).alloc_ (.cells #[.int .u64 r', .int .u64 b', .int .u64 t'] 27))
              replace hW := hW.alloc_ (.cells #[.int .u64 r', .int .u64 b', .int .u64 t'] 27)
              generalize (((((((w6.setCell ⟨w1.heap.size, 0, none⟩ (.int .u64 r')).setCell ⟨w1.heap.size, 1, none⟩ (.int .u64 b')).setCell ⟨w1.heap.size, 2, none⟩ (.int .u64 t')).setCell ⟨wq.heap.size, 0, none⟩ (.int .u64 r')).setCell ⟨wq.heap.size, 1, none⟩ (.int .u64 b')).setCell ⟨wq.heap.size, 2, none⟩ (.int .u64 t')).alloc (.cells #[.int .u64 r', .int .u64 b', .int .u64 t'] 27)) = wE at bx b6 b7 b9 hI hW ⊢
              have F0 := b6.fut 0 rfl
              have F1 := b6.fut 1 rfl
              have F2 := b6.fut 2 rfl
              have G0 := b7.fut 0 rfl
              have G1 := b7.fut 1 rfl
              have G2 := b7.fut 2 rfl
              refine wp_region_ext' 3 none none #[] 0 (by kernel_rfl) (by kernel_rfl) (fun k hk => by cases hk) (fun s hs => by cases hs) (fun KE hKE W0 hF => ?_); (repeat (first | (apply WpExt.pass; (focus decide)) | (apply WpExt.step; (focus decide); (focus (show (none : Option Nat) ≠ some _; decide)); (focus (exact rfl)); (focus (intro w' hB'; have hB' := hF _ hB'; go_simp; first | exact extUpon_value rfl rfl | (apply extUpon_enter; first | exact plain_c _ _ _ _))); simp only [Act.put, List.setIfInBounds_toArray, List.set_cons_zero, List.set_cons_succ]) | (apply WpExt.skip; (focus decide); (focus (show (none : Option Nat) ≠ some _; decide)); (focus (exact rfl)); simp only [Act.put, List.setIfInBounds_toArray, List.set_cons_zero, List.set_cons_succ]))); refine WpExt.nil _ _ (hKE _ (fun w2 hB2 => ?_)); clear hKE KE hF W0
              clear F0 F1 F2 G0 G1 G2
              change wpList _ _ _ _ _ _
              go_wp2
              go_roundw
              case rel => exact ⟨k + 1, r', b', t', by omega, by go_num, ur, ub, ut, bx.below' hB2, b6.below' hB2, b7.below' hB2, hI.below hB2, hW.then_ hB2⟩
              case measure => simp [intOf]; omega
          · have hk1' : (kd == 1) = false := by simpa using hk1
            by_cases hk2 : kd = 2
            · subst hk2
              go_wp2_with fail
              refine (tune_c _ _ _ _ _ _).mono ?_
              rintro e w5 ⟨rfl, hB⟩
              replace bx := bx.below' hB
              replace b6 := b6.below' hB
              replace b7 := b7.below' hB
              replace b9 := b9.below' hB
              replace hI := hI.below hB
              replace hW := hW.then_ hB
              clear hB
              have p0 := b6.cell 0 rfl
              have pf0 := b6.free 0
              have p1 := b6.cell 1 rfl
              have pf1 := b6.free 1
              have p2 := b6.cell 2 rfl
              have pf2 := b6.free 2
              have s0 := b7.cell 0 rfl
              have sf0 := b7.free 0
              have s1 := b7.cell 1 rfl
              have sf1 := b7.free 1
              have s2 := b7.cell 2 rfl
              have sf2 := b7.free 2
              have z0 := b9.cell 0 rfl
              have z1 := b9.cell 1 rfl
              have z2 := b9.cell 2 rfl
              have l6 := b6.lt
              have l7 := b7.lt
              have l9 := b9.lt
              go_wp2_with fail
              replace b6 := b6.set3 (.int .u64 N) (.int .u64 bu) (.int .u64 (smin t' bu))
              replace b7 := b7.oth3 (B := w1.heap.size) (by omega) (.int .u64 N) (.int .u64 bu) (.int .u64 (smin t' bu))
              replace b9 := b9.oth3 (B := w1.heap.size) (by omega) (.int .u64 N) (.int .u64 bu) (.int .u64 (smin t' bu))
              replace bx := bx.oth3 (B := w1.heap.size) (by omega) (.int .u64 N) (.int .u64 bu) (.int .u64 (smin t' bu))
              replace hI := hI.of_old hA (below3 (Below.refl w.heap.size _) (B := w1.heap.size) (by omega) (.int .u64 N) (.int .u64 bu) (.int .u64 (smin t' bu)))
              replace hW := below3 hW (B := w1.heap.size) (by omega) (.int .u64 N) (.int .u64 bu) (.int .u64 (smin t' bu))
              refine (rtune_c _ _ _ _ _ _).mono ?_
              rintro e w6 ⟨rfl, hB⟩
              replace bx := bx.below' hB
              replace b6 := b6.below' hB
              replace b7 := b7.below' hB
              replace b9 := b9.below' hB
              replace hI := hI.below hB
              replace hW := hW.then_ hB
              clear hB
              have p0 := b6.cell 0 rfl
              have pf0 := b6.free 0
              have p1 := b6.cell 1 rfl
              have pf1 := b6.free 1
              have p2 := b6.cell 2 rfl
              have pf2 := b6.free 2
              have s0 := b7.cell 0 rfl
              have sf0 := b7.free 0
              have s1 := b7.cell 1 rfl
              have sf1 := b7.free 1
              have s2 := b7.cell 2 rfl
              have sf2 := b7.free 2
              have z0 := b9.cell 0 rfl
              have z1 := b9.cell 1 rfl
              have z2 := b9.cell 2 rfl
              have l6 := b6.lt
              have l7 := b7.lt
              have l9 := b9.lt
              go_wp2_with fail
              replace b7 := b7.set3 (.int .u64 N) (.int .u64 bu) (.int .u64 (smin t' bu))
              replace b6 := b6.oth3 (B := wq.heap.size) (by omega) (.int .u64 N) (.int .u64 bu) (.int .u64 (smin t' bu))
              replace b9 := b9.oth3 (B := wq.heap.size) (by omega) (.int .u64 N) (.int .u64 bu) (.int .u64 (smin t' bu))
              replace bx := bx.oth3 (B := wq.heap.size) (by omega) (.int .u64 N) (.int .u64 bu) (.int .u64 (smin t' bu))
              replace hI := hI.of_old hA (below3 (Below.refl w.heap.size _) (B := wq.heap.size) (by omega) (.int .u64 N) (.int .u64 bu) (.int .u64 (smin t' bu)))
              replace hW := below3 hW (B := wq.heap.size) (by omega) (.int .u64 N) (.int .u64 bu) (.int .u64 (smin t' bu))
              generalize (((w6.setCell ⟨wq.heap.size, 0, none⟩ (.int .u64 N)).setCell ⟨wq.heap.size, 1, none⟩ (.int .u64 bu)).setCell ⟨wq.heap.size, 2, none⟩ (.int .u64 (smin t' bu))) = wE at bx b6 b7 b9 hI hW ⊢
              have F0 := b6.fut 0 rfl
              have F1 := b6.fut 1 rfl
              have F2 := b6.fut 2 rfl
              have G0 := b7.fut 0 rfl
              have G1 := b7.fut 1 rfl
              have G2 := b7.fut 2 rfl
              refine wp_region_ext' 3 none none #[] 0 (by kernel_rfl) (by kernel_rfl) (fun k hk => by cases hk) (fun s hs => by cases hs) (fun KE hKE W0 hF => ?_); (repeat (first | (apply WpExt.pass; (focus decide)) | (apply WpExt.step; (focus decide); (focus (show (none : Option Nat) ≠ some _; decide)); (focus (exact rfl)); (focus (intro w' hB'; have hB' := hF _ hB'; go_simp; first | exact extUpon_value rfl rfl | (apply extUpon_enter; first | exact plain_c _ _ _ _))); simp only [Act.put, List.setIfInBounds_toArray, List.set_cons_zero, List.set_cons_succ]) | (apply WpExt.skip; (focus decide); (focus (show (none : Option Nat) ≠ some _; decide)); (focus (exact rfl)); simp only [Act.put, List.setIfInBounds_toArray, List.set_cons_zero, List.set_cons_succ]))); refine WpExt.nil _ _ (hKE _ (fun w2 hB2 => ?_)); clear hKE KE hF W0
              clear F0 F1 F2 G0 G1 G2
              change wpList _ _ _ _ _ _
              go_wp2
              go_roundw
              case rel => exact ⟨k + 1, N, bu, smin t' bu, by omega, by go_num, uN, uB, smin_U ut uB, bx.below' hB2, b6.below' hB2, b7.below' hB2, hI.below hB2, hW.then_ hB2⟩
              case measure => simp [intOf]; omega
            · have hk2' : (kd == 2) = false := by simpa using hk2
              go_wp2_with fail
              have F0 := b6.fut 0 rfl
              have F1 := b6.fut 1 rfl
              have F2 := b6.fut 2 rfl
              have G0 := b7.fut 0 rfl
              have G1 := b7.fut 1 rfl
              have G2 := b7.fut 2 rfl
              refine wp_region_ext' 3 none none #[] 0 (by kernel_rfl) (by kernel_rfl) (fun k hk => by cases hk) (fun s hs => by cases hs) (fun KE hKE W0 hF => ?_); (repeat (first | (apply WpExt.pass; (focus decide)) | (apply WpExt.step; (focus decide); (focus (show (none : Option Nat) ≠ some _; decide)); (focus (exact rfl)); (focus (intro w' hB'; have hB' := hF _ hB'; go_simp; first | exact extUpon_value rfl rfl | (apply extUpon_enter; first | exact plain_c _ _ _ _))); simp only [Act.put, List.setIfInBounds_toArray, List.set_cons_zero, List.set_cons_succ]) | (apply WpExt.skip; (focus decide); (focus (show (none : Option Nat) ≠ some _; decide)); (focus (exact rfl)); simp only [Act.put, List.setIfInBounds_toArray, List.set_cons_zero, List.set_cons_succ]))); refine WpExt.nil _ _ (hKE _ (fun w2 hB2 => ?_)); clear hKE KE hF W0
              clear F0 F1 F2 G0 G1 G2
              change wpList _ _ _ _ _ _
              go_wp2
              go_roundw
              case rel => exact ⟨k + 1, r', b', t', by omega, by go_num, ur, ub, ut, bx.below' hB2, b6.below' hB2, b7.below' hB2, hI.below hB2, hW.then_ hB2⟩
              case measure => simp [intOf]; omega
      · go_wp2_with fail
        have F0 := bx.fut 0 rfl
        have F1 := bx.fut 1 rfl
        refine wp_region_ext' 12 none none #[] 0 (by kernel_rfl) (by kernel_rfl) (fun k hk => by cases hk) (fun s hs => by cases hs) (fun KE hKE W0 hF => ?_); (repeat (first | (apply WpExt.pass; (focus decide)) | (apply WpExt.step; (focus decide); (focus (show (none : Option Nat) ≠ some _; decide)); (focus (exact rfl)); (focus (intro w' hB'; have hB' := hF _ hB'; go_simp; first | exact extUpon_value rfl rfl | (apply extUpon_enter; first | exact new_c _ _ _ | exact plain_c _ _ _ _ | exact rnew_c _ _ _))); simp only [Act.put, List.setIfInBounds_toArray, List.set_cons_zero, List.set_cons_succ]) | (apply WpExt.skip; (focus decide); (focus (show (none : Option Nat) ≠ some _; decide)); (focus (exact rfl)); simp only [Act.put, List.setIfInBounds_toArray, List.set_cons_zero, List.set_cons_succ]))); refine WpExt.nil _ _ (hKE _ (fun w2 hB2 => ?_)); clear hKE KE hF W0
        change wpList _ _ _ _ _ _
        go_wp2
        go_ret
        exact ⟨rfl, hW.then_ hB2⟩

end Go.Proofs.Ytadkfceacnegaaa
