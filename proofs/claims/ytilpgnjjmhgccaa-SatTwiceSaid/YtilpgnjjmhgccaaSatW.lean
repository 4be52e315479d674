/-
  The walks of the functions of package sat and of its reference: each answers what the plain functions say.
-/
import Derived.Test.YtilpgnjjmhgccaaProg
import Derived.Test.YtilpgnjjmhgccaaSatP
import Derived.Test.YtilpgnjjmhgccaaKit
import Derived.WalkKit
import Derived.KernelRfl
import Derived.WalkLawsBesides
import Derived.WalkSpells
import Derived.Outline
import Derived.Deep.QuietTactic
import Derived.BigQuiet
import Derived.IntWalk
import Derived.Lib.Hide
import Derived.OpenShut
set_option linter.unusedVariables false
set_option linter.unusedSimpArgs false
namespace Go.Proofs.Ytilpgnjjmhgccaa
open Go.RowKit

theorem add_c (a b : Int) (w : World) (ha : U a) (hb : U b) :
    Calls Try.prog 8 #[.int .u64 a, .int .u64 b] w fun e w' => e = .returned (.int .u64 (sadd a b)) ∧ w = w' := by
  obtain ⟨ha0, ha1⟩ := ha
  obtain ⟨hb0, hb1⟩ := hb
  unfold M at ha1 hb1
  by_cases h : a + b ≤ 18446744073709551615
  · have e : sadd a b = a + b := by unfold sadd M; rw [if_pos h]
    rw [e]
    clear e
    go_enter Try.func8, Try.ntmps8
    go_wp2
    go_ret
    exact ⟨rfl, rfl⟩
  · have e : sadd a b = 18446744073709551615 := by unfold sadd M; rw [if_neg h]
    have hw : IntKind.u64.wrap (a + b) < a := by rw [wrapu64]; omega
    rw [e]
    clear e
    go_enter Try.func8, Try.ntmps8
    go_wp2
    go_ret
    exact ⟨rfl, rfl⟩

theorem sub_c (a b : Int) (w : World) (ha : U a) (hb : U b) :
    Calls Try.prog 10 #[.int .u64 a, .int .u64 b] w fun e w' => e = .returned (.int .u64 (ssub a b)) ∧ w = w' := by
  obtain ⟨ha0, ha1⟩ := ha
  obtain ⟨hb0, hb1⟩ := hb
  unfold M at ha1 hb1
  by_cases h : b ≤ a
  · have e : ssub a b = a - b := by unfold ssub; rw [if_pos h]
    rw [e]
    clear e
    go_enter Try.func10, Try.ntmps10
    go_wp2
    go_ret
    exact ⟨rfl, rfl⟩
  · have e : ssub a b = 0 := by unfold ssub; rw [if_neg h]
    rw [e]
    clear e
    go_enter Try.func10, Try.ntmps10
    go_wp2
    go_ret
    exact ⟨rfl, rfl⟩

theorem mul_c (a b : Int) (w : World) (ha : U a) (hb : U b) :
    Calls Try.prog 12 #[.int .u64 a, .int .u64 b] w fun e w' => e = .returned (.int .u64 (smul a b)) ∧ w = w' := by
  obtain ⟨ha0, ha1⟩ := ha
  obtain ⟨hb0, hb1⟩ := hb
  unfold M at ha1 hb1
  by_cases hz : 0 < a
  · have hd : b ≤ 18446744073709551615 / a ↔ a * b ≤ 18446744073709551615 := by
      rw [Int.le_ediv_iff_mul_le hz, Int.mul_comm]
    have hnn := Int.mul_nonneg ha0 hb0
    have hq : (18446744073709551615 : Int).tdiv a = 18446744073709551615 / a := Int.tdiv_eq_ediv_of_nonneg (by omega)
    by_cases h : b ≤ 18446744073709551615 / a
    · have e : smul a b = a * b := by unfold smul M; rw [if_pos (hd.1 h)]
      have hp := hd.1 h
      rw [e]
      clear e hd hq
      go_enter Try.func12, Try.ntmps12
      go_wp2
      go_ret
      exact ⟨rfl, rfl⟩
    · have e : smul a b = 18446744073709551615 := by unfold smul M; rw [if_neg (fun hh => h (hd.2 hh))]
      rw [e]
      clear e hd hq
      go_enter Try.func12, Try.ntmps12
      go_wp2
      go_ret
      exact ⟨rfl, rfl⟩
  · obtain rfl : a = 0 := by omega
    have e : smul 0 b = 0 := by unfold smul M; rw [Int.zero_mul]; rfl
    rw [e]
    clear e
    go_enter Try.func12, Try.ntmps12
    go_wp2
    go_ret
    exact ⟨rfl, rfl⟩

theorem radd_c (a b : Int) (w : World) (ha : U a) (hb : U b) :
    Calls Try.prog 9 #[.int .u64 a, .int .u64 b] w fun e w' => e = .returned (.int .u64 (sadd a b)) ∧ w = w' := by
  have e := radd_eq ha hb
  obtain ⟨ha0, ha1⟩ := ha
  obtain ⟨hb0, hb1⟩ := hb
  unfold M at ha1 hb1 e
  rw [← e]
  clear e
  unfold smin
  by_cases h : b ≤ 18446744073709551615 - a
  · rw [if_pos h]
    go_enter Try.func9, Try.ntmps9
    go_wp2
    go_ret
    exact ⟨rfl, rfl⟩
  · rw [if_neg h]
    go_enter Try.func9, Try.ntmps9
    go_wp2
    go_ret
    exact ⟨rfl, rfl⟩

theorem rsub_c (a b : Int) (w : World) (ha : U a) (hb : U b) :
    Calls Try.prog 11 #[.int .u64 a, .int .u64 b] w fun e w' => e = .returned (.int .u64 (ssub a b)) ∧ w = w' := by
  have e := rsub_eq ha hb
  obtain ⟨ha0, ha1⟩ := ha
  obtain ⟨hb0, hb1⟩ := hb
  unfold M at ha1 hb1
  rw [← e]
  clear e
  unfold smin
  by_cases h : a ≤ b
  · rw [if_pos h]
    go_enter Try.func11, Try.ntmps11
    go_wp2
    go_ret
    exact ⟨ret_int (by omega), rfl⟩
  · rw [if_neg h]
    go_enter Try.func11, Try.ntmps11
    go_wp2
    go_ret
    exact ⟨ret_int (by omega), rfl⟩

theorem rmul_c (a b : Int) (w : World) (ha : U a) (hb : U b) :
    Calls Try.prog 13 #[.int .u64 a, .int .u64 b] w fun e w' => e = .returned (.int .u64 (smul a b)) ∧ w = w' := by
  obtain ⟨t, ht⟩ : ∃ t, t = smul a b := ⟨_, rfl⟩
  rw [← ht]
  have h0 : min (0 + a * b) M = t := by rw [ht, smul_eq]; simp
  have hu : U (0 : Int) := by unfold U M; omega
  clear ht
  go_enter Try.func13, Try.ntmps13
  go_wp2
  go_loop [0, 1, 5] (fun va vb vo => ∃ a b o : Int, va = .int .u64 a ∧ vb = .int .u64 b ∧ vo = .int .u64 o ∧ U a ∧ U b ∧ U o ∧ min (o + a * b) M = t) (fun _ vb _ => (intOf vb).toNat)
  case atStart => exact ⟨a, b, 0, rfl, rfl, rfl, ha, hb, hu, h0⟩
  case round =>
    clear h0 hu ha hb
    obtain ⟨a, b, o, rfl, rfl, rfl, ha, hb, ho, h0⟩ := hrel
    have hb0 := hb.1
    have hb1 := hb.2
    have HB := Lib.hid hb
    clear hb
    unfold M at hb1
    by_cases hz : 0 < b
    · have hr := rmul_round ho ha hz h0
      have HR := Lib.hid hr
      have H0 := Lib.hid h0
      clear hr h0
      by_cases hp : b % 2 = 1
      · have hp' : (b % 2 == 1) = true := by rw [hp]; rfl
        have HP := Lib.hid hp
        clear hp
        go_wp2_with (go_at_call 9; (with_reducible refine (radd_c _ _ _ (by assumption) (by assumption)).mono ?_); rintro e w' ⟨rfl, rfl⟩)
        go_round
        case rel =>
          refine ⟨_, _, _, rfl, rfl, rfl, sadd_U ha ha, ?_, sadd_U ho ha, ?_⟩
          · unfold U M; omega
          · have := HR.out; rw [if_pos HP.out] at this; exact this
        case measure => simp [intOf]; omega
      · have hp' : (b % 2 == 1) = false := by simpa using hp
        have HP := Lib.hid hp
        clear hp
        go_wp2_with (go_at_call 9; (with_reducible refine (radd_c _ _ _ (by assumption) (by assumption)).mono ?_); rintro e w' ⟨rfl, rfl⟩)
        go_round
        case rel =>
          refine ⟨_, _, _, rfl, rfl, rfl, sadd_U ha ha, ?_, ho, ?_⟩
          · unfold U M; omega
          · have := HR.out; rw [if_neg HP.out] at this; exact this
        case measure => simp [intOf]; omega
    · have H0 := Lib.hid h0
      clear h0
      have hbz : b = 0 := by omega
      subst hbz
      go_wp2
      go_ret
      have := H0.out
      rw [Int.mul_zero, Int.add_zero, Int.min_eq_left ho.2] at this
      subst this
      exact ⟨rfl, rfl⟩

theorem fill_c (x b t m : Int) (w : World) (hx : U x) (hb : U b) (ht : U t) (hm : U m) :
    Calls Try.prog 16 #[.int .u64 x, .int .u64 b, .int .u64 t, .int .u64 m] w fun e w' => e = .returned (.int .u64 (sfill x b t m)) ∧ w = w' := by
  have hq := smul_U hb ht
  have hs := sadd_U hx hq
  unfold sfill smax smin
  by_cases h1 : m ≤ sadd x (smul b t)
  · rw [if_pos h1]
    by_cases h2 : x ≤ m
    · rw [if_pos h2]
      go_enter Try.func16, Try.ntmps16
      go_wp2_with first | (go_at_call 8; (with_reducible refine (add_c _ _ _ (by assumption) (by assumption)).mono ?_); rintro e w' ⟨rfl, rfl⟩) | (go_at_call 12; (with_reducible refine (mul_c _ _ _ (by assumption) (by assumption)).mono ?_); rintro e w' ⟨rfl, rfl⟩)
      all_goals
        go_ret
        exact ⟨ret_int (by omega), rfl⟩
    · rw [if_neg h2]
      go_enter Try.func16, Try.ntmps16
      go_wp2_with first | (go_at_call 8; (with_reducible refine (add_c _ _ _ (by assumption) (by assumption)).mono ?_); rintro e w' ⟨rfl, rfl⟩) | (go_at_call 12; (with_reducible refine (mul_c _ _ _ (by assumption) (by assumption)).mono ?_); rintro e w' ⟨rfl, rfl⟩)
      all_goals
        go_ret
        exact ⟨ret_int (by omega), rfl⟩
  · rw [if_neg h1]
    by_cases h2 : x ≤ sadd x (smul b t)
    · rw [if_pos h2]
      go_enter Try.func16, Try.ntmps16
      go_wp2_with first | (go_at_call 8; (with_reducible refine (add_c _ _ _ (by assumption) (by assumption)).mono ?_); rintro e w' ⟨rfl, rfl⟩) | (go_at_call 12; (with_reducible refine (mul_c _ _ _ (by assumption) (by assumption)).mono ?_); rintro e w' ⟨rfl, rfl⟩)
      all_goals
        go_ret
        exact ⟨ret_int (by omega), rfl⟩
    · exact absurd (sadd_le hx hq).1 h2

theorem rfill_c (x b t m : Int) (w : World) (hx : U x) (hb : U b) (ht : U t) (hm : U m) :
    Calls Try.prog 17 #[.int .u64 x, .int .u64 b, .int .u64 t, .int .u64 m] w fun e w' => e = .returned (.int .u64 (sfill x b t m)) ∧ w = w' := by
  have hq := smul_U hb ht
  have hs := sadd_U hx hq
  rw [← rfill_eq hx hb ht hm]
  unfold rfill smin
  by_cases h1 : m < x
  · rw [if_pos h1]
    go_enter Try.func17, Try.ntmps17
    go_wp2
    go_ret
    exact ⟨rfl, rfl⟩
  · rw [if_neg h1]
    by_cases h2 : m ≤ sadd x (smul b t)
    · rw [if_pos h2]
      go_enter Try.func17, Try.ntmps17
      go_wp2_with first | (go_at_call 9; (with_reducible refine (radd_c _ _ _ (by assumption) (by assumption)).mono ?_); rintro e w' ⟨rfl, rfl⟩) | (go_at_call 13; (with_reducible refine (rmul_c _ _ _ (by assumption) (by assumption)).mono ?_); rintro e w' ⟨rfl, rfl⟩)
      go_ret
      exact ⟨rfl, rfl⟩
    · rw [if_neg h2]
      go_enter Try.func17, Try.ntmps17
      go_wp2_with first | (go_at_call 9; (with_reducible refine (radd_c _ _ _ (by assumption) (by assumption)).mono ?_); rintro e w' ⟨rfl, rfl⟩) | (go_at_call 13; (with_reducible refine (rmul_c _ _ _ (by assumption) (by assumption)).mono ?_); rintro e w' ⟨rfl, rfl⟩)
      go_ret
      exact ⟨rfl, rfl⟩

theorem u64_U {x : Int} (h : (Lit.int .u64 x).wf = true) : U x := by
  have := bounds_u64 h
  unfold U M
  omega

theorem fold_c (A : Option Addr) (n c : Nat) (xs : List Int) (w : World) (h : Ints w .u64 A n xs) :
    Calls Try.prog 18 #[.slice A n c, .int .u64 0, .func (.func 8) #[] #[]] w fun e w' => e = .returned (.int .u64 (ssum xs)) ∧ w = w' := by
  have hm := h.most
  have HL := Lib.hid h.len
  go_enter Try.func18, Try.ntmps18
  go_wp2
  go_loop [1, 8, 11] (fun vo _ vi => ∃ k : Nat, k ≤ n ∧ vi = .int .i64 k ∧ vo = .int .u64 (ssum (xs.take k)) ∧ U (ssum (xs.take k))) (fun _ _ vi => n - (intOf vi).toNat)
  case atStart => exact ⟨0, Nat.zero_le _, rfl, rfl, by unfold U M ssum; simp⟩
  case round =>
    obtain ⟨k, hk, rfl, rfl, hu⟩ := hrel
    by_cases hlt : k < n
    · obtain ⟨ad, rfl, hc, hw⟩ := h.at_ k (by omega) (by omega)
      have hx := u64_U hw
      simp only [Int.toNat_natCast] at hc hx
      have HS : Hid (ssum (xs.take (k + 1)) = sadd (ssum (xs.take k)) (xs[k]?.getD 0)) := by
        unfold ssum
        rw [take_snoc xs k (by have := HL.out; omega) 0, List.foldl_append]
        rfl
      go_wp2_with (go_at_call 8; (with_reducible refine (add_c _ _ _ (by assumption) (by assumption)).mono ?_); rintro e w' ⟨rfl, rfl⟩)
      go_round
      case rel => exact ⟨k + 1, by omega, by go_num, by rw [HS.out], by rw [HS.out]; exact sadd_U hu hx⟩
      case measure => simp [intOf]; omega
    · go_wp2
      go_ret
      exact ⟨ret_int (by rw [List.take_of_length_le (by have := HL.out; omega)]), rfl⟩

theorem sum_c (A : Option Addr) (n c : Nat) (xs : List Int) (w : World) (h : Ints w .u64 A n xs) :
    Calls Try.prog 14 #[.slice A n c] w fun e w' => e = .returned (.int .u64 (ssum xs)) ∧ w = w' := by
  go_enter Try.func14, Try.ntmps14
  go_wp2_with (go_at_call 18; (with_reducible refine (fold_c _ _ _ _ _ h).mono ?_); rintro e w' ⟨rfl, rfl⟩)
  go_ret
  exact ⟨rfl, rfl⟩

theorem rsum_c (A : Option Addr) (n c : Nat) (xs : List Int) (w : World) (h : Ints w .u64 A n xs) :
    Calls Try.prog 15 #[.slice A n c] w fun e w' => e = .returned (.int .u64 (ssum xs)) ∧ w = w' := by
  have hm := h.most
  have HL := Lib.hid h.len
  go_enter Try.func15, Try.ntmps15
  go_wp2
  go_loop [3, 4] (fun vo vi => ∃ k : Nat, k ≤ n ∧ vi = .int .i64 k ∧ vo = .int .u64 (ssum (xs.take k)) ∧ U (ssum (xs.take k))) (fun _ vi => n - (intOf vi).toNat)
  case atStart => exact ⟨0, Nat.zero_le _, rfl, rfl, by unfold U M ssum; simp⟩
  case round =>
    obtain ⟨k, hk, rfl, rfl, hu⟩ := hrel
    by_cases hlt : k < n
    · obtain ⟨ad, rfl, hc, hw⟩ := h.at_ k (by omega) (by omega)
      have hx := u64_U hw
      simp only [Int.toNat_natCast] at hc hx
      have HS : Hid (ssum (xs.take (k + 1)) = sadd (ssum (xs.take k)) (xs[k]?.getD 0)) := by
        unfold ssum
        rw [take_snoc xs k (by have := HL.out; omega) 0, List.foldl_append]
        rfl
      go_wp2_with (go_at_call 9; (with_reducible refine (radd_c _ _ _ (by assumption) (by assumption)).mono ?_); rintro e w' ⟨rfl, rfl⟩)
      go_round
      case rel => exact ⟨k + 1, by omega, by go_num, by rw [HS.out], by rw [HS.out]; exact sadd_U hu hx⟩
      case measure => simp [intOf]; omega
    · go_wp2
      go_ret
      exact ⟨ret_int (by rw [List.take_of_length_le (by have := HL.out; omega)]), rfl⟩

end Go.Proofs.Ytilpgnjjmhgccaa
