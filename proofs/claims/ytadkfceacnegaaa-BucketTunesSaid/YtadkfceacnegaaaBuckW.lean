/-
  The walks of the functions of package bucket and of its reference.
-/
import Derived.Test.YtadkfceacnegaaaSatW
import Derived.RegionTactic
import Derived.ChangeAlike
import Derived.Deep.RegionWith
import Derived.Laws.StructEq
set_option linter.unusedVariables false
set_option linter.unusedSimpArgs false
namespace Go.Proofs.Ytadkfceacnegaaa
open Go.RowKit

/-- A bucket's value. -/
abbrev bk (r b t : Int) : Value := .agg #[.int .u64 r, .int .u64 b, .int .u64 t]
def stick (r b t n : Int) : Int := sfill t r n b

theorem ret_agg {r b t r' b' t' : Int} (h : r = r') (h2 : b = b') (h3 : t = t') : Ending.returned (bk r b t) = .returned (bk r' b' t') := by rw [h, h2, h3]

theorem fieldBk (r b t : Int) (w : World) : (Instr.field 24 (bk r b t) 2).run Try.prog w = .ok (.int .u64 t) w := by rfl

theorem eqBk (d : Nat) (r b t r' b' t' : Int) (w : World) :
    (Op.equalIn (d + 1 + 1) 24 (bk r b t) (bk r' b' t')).run Try.prog w = .ok ((r == r') && ((b == b') && ((t == t') && true))) w := by
  refine eqF_struct Try.underlying24 (by kernel_rfl) ?_
  refine eqF_cons (by decide) (by rfl) (by rfl) (run_equalIn_int _ d _ .u64 .u64 _ _ (by kernel_rfl)) ?_
  refine eqF_cons (by decide) (by rfl) (by rfl) (run_equalIn_int _ d _ .u64 .u64 _ _ (by kernel_rfl)) ?_
  refine eqF_cons (by decide) (by rfl) (by rfl) (run_equalIn_int _ d _ .u64 .u64 _ _ (by kernel_rfl)) ?_
  exact eqF_nil
theorem eqRef (d : Nat) (r b t r' b' t' : Int) (w : World) :
    (Op.equalIn (d + 1 + 1) 27 (bk r b t) (bk r' b' t')).run Try.prog w = .ok ((r == r') && ((b == b') && ((t == t') && true))) w := by
  refine eqF_struct Try.underlying27 (by kernel_rfl) ?_
  refine eqF_cons (by decide) (by rfl) (by rfl) (run_equalIn_int _ d _ .u64 .u64 _ _ (by kernel_rfl)) ?_
  refine eqF_cons (by decide) (by rfl) (by rfl) (run_equalIn_int _ d _ .u64 .u64 _ _ (by kernel_rfl)) ?_
  refine eqF_cons (by decide) (by rfl) (by rfl) (run_equalIn_int _ d _ .u64 .u64 _ _ (by kernel_rfl)) ?_
  exact eqF_nil

theorem tick_c (r b t n : Int) (w : World) (hr : U r) (hb : U b) (ht : U t) (hn : U n) :
    Calls Try.prog 11 #[bk r b t, .int .u64 n] w fun e w' => e = .returned (bk r b (sfill t r n b)) ∧ Below w.heap.size w w' := by
  go_enter Try.func11, Try.ntmps11
  go_wp2_with (go_at_call 20; (with_reducible refine (fill_c _ _ _ _ _ (by assumption) (by assumption) (by assumption) (by assumption)).mono ?_); rintro e w' ⟨rfl, rfl⟩)
  exact bodyPost_ret (v := bk r b (sfill t r n b)) (by simp [results, Try.results11, go_sem]) rfl ⟨rfl, (by repeat (first | exact Below.refl _ _ | assumption | refine Below.alloc ?_ (by simp) _ | refine Below.setCell ?_ (by simp) _ | refine Below.drew ?_))⟩

theorem take_yes (r b t n : Int) (w : World) (ht : U t) (hn : U n) (h : n ≤ t) :
    Calls Try.prog 13 #[bk r b t, .int .u64 n] w fun e w' => e = .returned (.tuple #[bk r b (t - n), .bool true]) ∧ Below w.heap.size w w' := by
  obtain ⟨h0, h1⟩ := ht
  obtain ⟨h2, h3⟩ := hn
  unfold M at h1 h3
  go_enter Try.func13, Try.ntmps13
  go_wp2
  exact bodyPost_ret (v := .tuple #[bk r b (t - n), .bool true]) (by simp [results, Try.results13, go_sem]) rfl ⟨rfl, (by repeat (first | exact Below.refl _ _ | assumption | refine Below.alloc ?_ (by simp) _ | refine Below.setCell ?_ (by simp) _ | refine Below.drew ?_))⟩

theorem take_no (r b t n : Int) (w : World) (h : t < n) :
    Calls Try.prog 13 #[bk r b t, .int .u64 n] w fun e w' => e = .returned (.tuple #[bk r b t, .bool false]) ∧ Below w.heap.size w w' := by
  go_enter Try.func13, Try.ntmps13
  go_wp2
  exact bodyPost_ret (v := .tuple #[bk r b t, .bool false]) (by simp [results, Try.results13, go_sem]) rfl ⟨rfl, (by repeat (first | exact Below.refl _ _ | assumption | refine Below.alloc ?_ (by simp) _ | refine Below.setCell ?_ (by simp) _ | refine Below.drew ?_))⟩

theorem new_c (r b : Int) (w : World) :
    Calls Try.prog 17 #[.int .u64 r, .int .u64 b] w fun e w' => e = .returned (bk r b b) ∧ Below w.heap.size w w' := by
  go_enter Try.func17, Try.ntmps17
  go_wp2
  exact bodyPost_ret (v := bk r b b) (by simp [results, Try.results17, go_sem]) rfl ⟨rfl, (by repeat (first | exact Below.refl _ _ | assumption | refine Below.alloc ?_ (by simp) _ | refine Below.setCell ?_ (by simp) _ | refine Below.drew ?_))⟩

theorem tune_c (r b t r' b' : Int) (w : World) :
    Calls Try.prog 15 #[bk r b t, .int .u64 r', .int .u64 b'] w fun e w' => e = .returned (bk r' b' (smin t b')) ∧ Below w.heap.size w w' := by
  unfold smin
  by_cases h : t ≤ b'
  · rw [if_pos h]
    go_enter Try.func15, Try.ntmps15
    go_wp2
    exact bodyPost_ret (v := bk r' b' t) (by simp [results, Try.results15, go_sem]) rfl ⟨rfl, (by repeat (first | exact Below.refl _ _ | assumption | refine Below.alloc ?_ (by simp) _ | refine Below.setCell ?_ (by simp) _ | refine Below.drew ?_))⟩
  · rw [if_neg h]
    go_enter Try.func15, Try.ntmps15
    go_wp2
    exact bodyPost_ret (v := bk r' b' b') (by simp [results, Try.results15, go_sem]) rfl ⟨rfl, (by repeat (first | exact Below.refl _ _ | assumption | refine Below.alloc ?_ (by simp) _ | refine Below.setCell ?_ (by simp) _ | refine Below.drew ?_))⟩

theorem rtick_c (r b t n : Int) (w : World) (hr : U r) (hb : U b) (ht : U t) (hn : U n) :
    Calls Try.prog 12 #[bk r b t, .int .u64 n] w fun e w' => e = .returned (bk r b (sfill t r n b)) ∧ Below w.heap.size w w' := by
  go_enter Try.func12, Try.ntmps12
  go_wp2_with (go_at_call 21; (with_reducible refine (rfill_c _ _ _ _ _ (by assumption) (by assumption) (by assumption) (by assumption)).mono ?_); rintro e w' ⟨rfl, rfl⟩)
  exact bodyPost_ret (v := bk r b (sfill t r n b)) (by simp [results, Try.results12, go_sem]) rfl ⟨rfl, (by repeat (first | exact Below.refl _ _ | assumption | refine Below.alloc ?_ (by simp) _ | refine Below.setCell ?_ (by simp) _ | refine Below.drew ?_))⟩

theorem rtake_yes (r b t n : Int) (w : World) (ht : U t) (hn : U n) (h : n ≤ t) :
    Calls Try.prog 14 #[bk r b t, .int .u64 n] w fun e w' => e = .returned (.tuple #[bk r b (t - n), .bool true]) ∧ Below w.heap.size w w' := by
  obtain ⟨h0, h1⟩ := ht
  obtain ⟨h2, h3⟩ := hn
  unfold M at h1 h3
  go_enter Try.func14, Try.ntmps14
  go_wp2
  exact bodyPost_ret (v := .tuple #[bk r b (t - n), .bool true]) (by simp [results, Try.results14, go_sem]) rfl ⟨rfl, (by repeat (first | exact Below.refl _ _ | assumption | refine Below.alloc ?_ (by simp) _ | refine Below.setCell ?_ (by simp) _ | refine Below.drew ?_))⟩

theorem rtake_no (r b t n : Int) (w : World) (h : t < n) :
    Calls Try.prog 14 #[bk r b t, .int .u64 n] w fun e w' => e = .returned (.tuple #[bk r b t, .bool false]) ∧ Below w.heap.size w w' := by
  go_enter Try.func14, Try.ntmps14
  go_wp2
  exact bodyPost_ret (v := .tuple #[bk r b t, .bool false]) (by simp [results, Try.results14, go_sem]) rfl ⟨rfl, (by repeat (first | exact Below.refl _ _ | assumption | refine Below.alloc ?_ (by simp) _ | refine Below.setCell ?_ (by simp) _ | refine Below.drew ?_))⟩

theorem rnew_c (r b : Int) (w : World) :
    Calls Try.prog 18 #[.int .u64 r, .int .u64 b] w fun e w' => e = .returned (bk r b b) ∧ Below w.heap.size w w' := by
  go_enter Try.func18, Try.ntmps18
  go_wp2
  exact bodyPost_ret (v := bk r b b) (by simp [results, Try.results18, go_sem]) rfl ⟨rfl, (by repeat (first | exact Below.refl _ _ | assumption | refine Below.alloc ?_ (by simp) _ | refine Below.setCell ?_ (by simp) _ | refine Below.drew ?_))⟩

theorem rtune_c (r b t r' b' : Int) (w : World) :
    Calls Try.prog 16 #[bk r b t, .int .u64 r', .int .u64 b'] w fun e w' => e = .returned (bk r' b' (smin t b')) ∧ Below w.heap.size w w' := by
  unfold smin
  by_cases h : t ≤ b'
  · rw [if_pos h]
    go_enter Try.func16, Try.ntmps16
    go_wp2
    exact bodyPost_ret (v := bk r' b' t) (by simp [results, Try.results16, go_sem]) rfl ⟨rfl, (by repeat (first | exact Below.refl _ _ | assumption | refine Below.alloc ?_ (by simp) _ | refine Below.setCell ?_ (by simp) _ | refine Below.drew ?_))⟩
  · rw [if_neg h]
    go_enter Try.func16, Try.ntmps16
    go_wp2
    exact bodyPost_ret (v := bk r' b' b') (by simp [results, Try.results16, go_sem]) rfl ⟨rfl, (by repeat (first | exact Below.refl _ _ | assumption | refine Below.alloc ?_ (by simp) _ | refine Below.setCell ?_ (by simp) _ | refine Below.drew ?_))⟩

theorem plain_c (r b t : Int) (w : World) :
    Calls Try.prog 8 #[bk r b t] w fun e w' => e = .returned (bk r b t) ∧ Below w.heap.size w w' := by
  go_enter Try.func8, Try.ntmps8
  go_wp2
  exact bodyPost_ret (v := bk r b t) (by simp [results, Try.results8, go_sem]) rfl ⟨rfl, (by repeat (first | exact Below.refl _ _ | assumption | refine Below.alloc ?_ (by simp) _ | refine Below.setCell ?_ (by simp) _ | refine Below.drew ?_))⟩

end Go.Proofs.Ytadkfceacnegaaa
