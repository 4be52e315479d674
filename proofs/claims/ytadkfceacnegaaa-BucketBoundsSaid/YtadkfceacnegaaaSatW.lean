/-
  The walks of the functions of package sat and of its reference: each answers what the plain functions say.
-/
import Derived.Test.YtadkfceacnegaaaProg
import Derived.Test.YtadkfceacnegaaaSatP
import Derived.Test.YtadkfceacnegaaaKit
import Derived.WalkKit
import Derived.KernelRfl
import Derived.WalkLawsBesides
import Derived.WalkSpells
import Derived.Outline
import Derived.Deep.QuietTactic
import Derived.BigQuiet
import Derived.IntWalk
import Derived.Lib.Hide
import Derived.OpenShut
set_option linter.unusedVariables false
set_option linter.unusedSimpArgs false
namespace Go.Proofs.Ytadkfceacnegaaa
open Go.RowKit

theorem add_c (a b : Int) (w : World) (ha : U a) (hb : U b) :
    Calls Try.prog 22 #[.int .u64 a, .int .u64 b] w fun e w' => e = .returned (.int .u64 (sadd a b)) ∧ w = w' := by
  obtain ⟨ha0, ha1⟩ := ha
  obtain ⟨hb0, hb1⟩ := hb
  unfold M at ha1 hb1
  by_cases h : a + b ≤ 18446744073709551615
  · have e : sadd a b = a + b := by unfold sadd M; rw [if_pos h]
    rw [e]
    clear e
    go_enter Try.func22, Try.ntmps22
    go_wp2
    go_ret
    exact ⟨rfl, rfl⟩
  · have e : sadd a b = 18446744073709551615 := by unfold sadd M; rw [if_neg h]
    have hw : IntKind.u64.wrap (a + b) < a := by rw [wrapu64]; omega
    rw [e]
    clear e
    go_enter Try.func22, Try.ntmps22
    go_wp2
    go_ret
    exact ⟨rfl, rfl⟩

theorem sub_c (a b : Int) (w : World) (ha : U a) (hb : U b) :
    Calls Try.prog 19 #[.int .u64 a, .int .u64 b] w fun e w' => e = .returned (.int .u64 (ssub a b)) ∧ w = w' := by
  obtain ⟨ha0, ha1⟩ := ha
  obtain ⟨hb0, hb1⟩ := hb
  unfold M at ha1 hb1
  by_cases h : b ≤ a
  · have e : ssub a b = a - b := by unfold ssub; rw [if_pos h]
    rw [e]
    clear e
    go_enter Try.func19, Try.ntmps19
    go_wp2
    go_ret
    exact ⟨rfl, rfl⟩
  · have e : ssub a b = 0 := by unfold ssub; rw [if_neg h]
    rw [e]
    clear e
    go_enter Try.func19, Try.ntmps19
    go_wp2
    go_ret
    exact ⟨rfl, rfl⟩

theorem mul_c (a b : Int) (w : World) (ha : U a) (hb : U b) :
    Calls Try.prog 23 #[.int .u64 a, .int .u64 b] w fun e w' => e = .returned (.int .u64 (smul a b)) ∧ w = w' := by
  obtain ⟨ha0, ha1⟩ := ha
  obtain ⟨hb0, hb1⟩ := hb
  unfold M at ha1 hb1
  by_cases hz : 0 < a
  · have hd : b ≤ 18446744073709551615 / a ↔ a * b ≤ 18446744073709551615 := by
      rw [Int.le_ediv_iff_mul_le hz, Int.mul_comm]
    have hnn := Int.mul_nonneg ha0 hb0
    have hq : (18446744073709551615 : Int).tdiv a = 18446744073709551615 / a := Int.tdiv_eq_ediv_of_nonneg (by omega)
    by_cases h : b ≤ 18446744073709551615 / a
    · have e : smul a b = a * b := by unfold smul M; rw [if_pos (hd.1 h)]
      have hp := hd.1 h
      rw [e]
      clear e hd hq
      go_enter Try.func23, Try.ntmps23
      go_wp2
      go_ret
      exact ⟨rfl, rfl⟩
    · have e : smul a b = 18446744073709551615 := by unfold smul M; rw [if_neg (fun hh => h (hd.2 hh))]
      rw [e]
      clear e hd hq
      go_enter Try.func23, Try.ntmps23
      go_wp2
      go_ret
      exact ⟨rfl, rfl⟩
  · obtain rfl : a = 0 := by omega
    have e : smul 0 b = 0 := by unfold smul M; rw [Int.zero_mul]; rfl
    rw [e]
    clear e
    go_enter Try.func23, Try.ntmps23
    go_wp2
    go_ret
    exact ⟨rfl, rfl⟩

theorem radd_c (a b : Int) (w : World) (ha : U a) (hb : U b) :
    Calls Try.prog 24 #[.int .u64 a, .int .u64 b] w fun e w' => e = .returned (.int .u64 (sadd a b)) ∧ w = w' := by
  have e := radd_eq ha hb
  obtain ⟨ha0, ha1⟩ := ha
  obtain ⟨hb0, hb1⟩ := hb
  unfold M at ha1 hb1 e
  rw [← e]
  clear e
  unfold smin
  by_cases h : b ≤ 18446744073709551615 - a
  · rw [if_pos h]
    go_enter Try.func24, Try.ntmps24
    go_wp2
    go_ret
    exact ⟨rfl, rfl⟩
  · rw [if_neg h]
    go_enter Try.func24, Try.ntmps24
    go_wp2
    go_ret
    exact ⟨rfl, rfl⟩

theorem rmul_c (a b : Int) (w : World) (ha : U a) (hb : U b) :
    Calls Try.prog 25 #[.int .u64 a, .int .u64 b] w fun e w' => e = .returned (.int .u64 (smul a b)) ∧ w = w' := by
  obtain ⟨t, ht⟩ : ∃ t, t = smul a b := ⟨_, rfl⟩
  rw [← ht]
  have h0 : min (0 + a * b) M = t := by rw [ht, smul_eq]; simp
  have hu : U (0 : Int) := by unfold U M; omega
  clear ht
  go_enter Try.func25, Try.ntmps25
  go_wp2
  go_loop [0, 1, 5] (fun va vb vo => ∃ a b o : Int, va = .int .u64 a ∧ vb = .int .u64 b ∧ vo = .int .u64 o ∧ U a ∧ U b ∧ U o ∧ min (o + a * b) M = t) (fun _ vb _ => (intOf vb).toNat)
  case atStart => exact ⟨a, b, 0, rfl, rfl, rfl, ha, hb, hu, h0⟩
  case round =>
    clear h0 hu ha hb
    obtain ⟨a, b, o, rfl, rfl, rfl, ha, hb, ho, h0⟩ := hrel
    have hb0 := hb.1
    have hb1 := hb.2
    have HB := Lib.hid hb
    clear hb
    unfold M at hb1
    by_cases hz : 0 < b
    · have hr := rmul_round ho ha hz h0
      have HR := Lib.hid hr
      have H0 := Lib.hid h0
      clear hr h0
      by_cases hp : b % 2 = 1
      · have hp' : (b % 2 == 1) = true := by rw [hp]; rfl
        have HP := Lib.hid hp
        clear hp
        go_wp2_with (go_at_call 24; (with_reducible refine (radd_c _ _ _ (by assumption) (by assumption)).mono ?_); rintro e w' ⟨rfl, rfl⟩)
        go_round
        case rel =>
          refine ⟨_, _, _, rfl, rfl, rfl, sadd_U ha ha, ?_, sadd_U ho ha, ?_⟩
          · unfold U M; omega
          · have := HR.out; rw [if_pos HP.out] at this; exact this
        case measure => simp [intOf]; omega
      · have hp' : (b % 2 == 1) = false := by simpa using hp
        have HP := Lib.hid hp
        clear hp
        go_wp2_with (go_at_call 24; (with_reducible refine (radd_c _ _ _ (by assumption) (by assumption)).mono ?_); rintro e w' ⟨rfl, rfl⟩)
        go_round
        case rel =>
          refine ⟨_, _, _, rfl, rfl, rfl, sadd_U ha ha, ?_, ho, ?_⟩
          · unfold U M; omega
          · have := HR.out; rw [if_neg HP.out] at this; exact this
        case measure => simp [intOf]; omega
    · have H0 := Lib.hid h0
      clear h0
      have hbz : b = 0 := by omega
      subst hbz
      go_wp2
      go_ret
      have := H0.out
      rw [Int.mul_zero, Int.add_zero, Int.min_eq_left ho.2] at this
      subst this
      exact ⟨rfl, rfl⟩

theorem fill_c (x b t m : Int) (w : World) (hx : U x) (hb : U b) (ht : U t) (hm : U m) :
    Calls Try.prog 20 #[.int .u64 x, .int .u64 b, .int .u64 t, .int .u64 m] w fun e w' => e = .returned (.int .u64 (sfill x b t m)) ∧ w = w' := by
  have hq := smul_U hb ht
  have hs := sadd_U hx hq
  unfold sfill smax smin
  by_cases h1 : m ≤ sadd x (smul b t)
  · rw [if_pos h1]
    by_cases h2 : x ≤ m
    · rw [if_pos h2]
      go_enter Try.func20, Try.ntmps20
      go_wp2_with first | (go_at_call 22; (with_reducible refine (add_c _ _ _ (by assumption) (by assumption)).mono ?_); rintro e w' ⟨rfl, rfl⟩) | (go_at_call 23; (with_reducible refine (mul_c _ _ _ (by assumption) (by assumption)).mono ?_); rintro e w' ⟨rfl, rfl⟩)
      all_goals
        go_ret
        exact ⟨ret_int (by omega), rfl⟩
    · rw [if_neg h2]
      go_enter Try.func20, Try.ntmps20
      go_wp2_with first | (go_at_call 22; (with_reducible refine (add_c _ _ _ (by assumption) (by assumption)).mono ?_); rintro e w' ⟨rfl, rfl⟩) | (go_at_call 23; (with_reducible refine (mul_c _ _ _ (by assumption) (by assumption)).mono ?_); rintro e w' ⟨rfl, rfl⟩)
      all_goals
        go_ret
        exact ⟨ret_int (by omega), rfl⟩
  · rw [if_neg h1]
    by_cases h2 : x ≤ sadd x (smul b t)
    · rw [if_pos h2]
      go_enter Try.func20, Try.ntmps20
      go_wp2_with first | (go_at_call 22; (with_reducible refine (add_c _ _ _ (by assumption) (by assumption)).mono ?_); rintro e w' ⟨rfl, rfl⟩) | (go_at_call 23; (with_reducible refine (mul_c _ _ _ (by assumption) (by assumption)).mono ?_); rintro e w' ⟨rfl, rfl⟩)
      all_goals
        go_ret
        exact ⟨ret_int (by omega), rfl⟩
    · exact absurd (sadd_le hx hq).1 h2

theorem rfill_c (x b t m : Int) (w : World) (hx : U x) (hb : U b) (ht : U t) (hm : U m) :
    Calls Try.prog 21 #[.int .u64 x, .int .u64 b, .int .u64 t, .int .u64 m] w fun e w' => e = .returned (.int .u64 (sfill x b t m)) ∧ w = w' := by
  have hq := smul_U hb ht
  have hs := sadd_U hx hq
  rw [← rfill_eq hx hb ht hm]
  unfold rfill smin
  by_cases h1 : m < x
  · rw [if_pos h1]
    go_enter Try.func21, Try.ntmps21
    go_wp2
    go_ret
    exact ⟨rfl, rfl⟩
  · rw [if_neg h1]
    by_cases h2 : m ≤ sadd x (smul b t)
    · rw [if_pos h2]
      go_enter Try.func21, Try.ntmps21
      go_wp2_with first | (go_at_call 24; (with_reducible refine (radd_c _ _ _ (by assumption) (by assumption)).mono ?_); rintro e w' ⟨rfl, rfl⟩) | (go_at_call 25; (with_reducible refine (rmul_c _ _ _ (by assumption) (by assumption)).mono ?_); rintro e w' ⟨rfl, rfl⟩)
      go_ret
      exact ⟨rfl, rfl⟩
    · rw [if_neg h2]
      go_enter Try.func21, Try.ntmps21
      go_wp2_with first | (go_at_call 24; (with_reducible refine (radd_c _ _ _ (by assumption) (by assumption)).mono ?_); rintro e w' ⟨rfl, rfl⟩) | (go_at_call 25; (with_reducible refine (rmul_c _ _ _ (by assumption) (by assumption)).mono ?_); rintro e w' ⟨rfl, rfl⟩)
      go_ret
      exact ⟨rfl, rfl⟩

theorem u64_U {x : Int} (h : (Lit.int .u64 x).wf = true) : U x := by
  have := bounds_u64 h
  unfold U M
  omega

end Go.Proofs.Ytadkfceacnegaaa
