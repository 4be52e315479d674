/-
  Plain arithmetic of sums that never wrap.
-/
set_option linter.unusedVariables false
set_option linter.unusedSimpArgs false
namespace Go.Proofs.Ytadkfceacnegaaa
/-- The greatest number of 64 bits. -/
def M : Int := 18446744073709551615
def sadd (a b : Int) : Int := if a + b ≤ M then a + b else M
def ssub (a b : Int) : Int := if b ≤ a then a - b else 0
def smul (a b : Int) : Int := if a * b ≤ M then a * b else M
def smin (a b : Int) : Int := if a ≤ b then a else b
def smax (a b : Int) : Int := if a ≤ b then b else a
def sfill (x by_ times most : Int) : Int := smax x (smin most (sadd x (smul by_ times)))
def ssum (l : List Int) : Int := l.foldl sadd 0
/-- A number of 64 bits. -/
def U (a : Int) : Prop := 0 ≤ a ∧ a ≤ M

theorem sadd_U {a b : Int} (ha : U a) (hb : U b) : U (sadd a b) := by
  unfold U sadd M at *; split <;> omega
theorem ssub_U {a b : Int} (ha : U a) (hb : U b) : U (ssub a b) := by
  unfold U ssub M at *; split <;> omega
theorem smul_U {a b : Int} (ha : U a) (hb : U b) : U (smul a b) := by
  have h := Int.mul_nonneg ha.1 hb.1
  unfold smul U M at *; split <;> omega
theorem smin_U {a b : Int} (ha : U a) (hb : U b) : U (smin a b) := by unfold smin; split <;> assumption
theorem smax_U {a b : Int} (ha : U a) (hb : U b) : U (smax a b) := by unfold smax; split <;> assumption
theorem sfill_U {x b t m : Int} (hx : U x) (hb : U b) (ht : U t) (hm : U m) : U (sfill x b t m) :=
  smax_U hx (smin_U hm (sadd_U hx (smul_U hb ht)))

theorem ssum_U {l : List Int} : ∀ {a : Int}, U a → (∀ x ∈ l, U x) → U (l.foldl sadd a) := by
  induction l with
  | nil => intro a ha _; exact ha
  | cons y l ih => intro a ha h; exact ih (sadd_U ha (h y (by simp))) fun x hx => h x (by simp [hx])

theorem sadd_comm (a b : Int) : sadd a b = sadd b a := by unfold sadd; rw [Int.add_comm]
theorem sadd_assoc {a b c : Int} (ha : U a) (hb : U b) (hc : U c) : sadd (sadd a b) c = sadd a (sadd b c) := by
  unfold sadd U M at *; repeat' split
  all_goals omega
theorem sadd_le {a b : Int} (ha : U a) (hb : U b) : a ≤ sadd a b ∧ b ≤ sadd a b := by
  unfold sadd U M at *; split <;> omega
theorem ssub_sadd {a b : Int} (ha : U a) (hb : U b) : ssub (sadd a b) b ≤ a := by
  unfold ssub sadd U M at *; repeat' split
  all_goals omega
theorem smul_comm (a b : Int) : smul a b = smul b a := by unfold smul; rw [Int.mul_comm]
theorem smul_one {a : Int} (ha : U a) : smul a 1 = a := by
  unfold smul U at *; rw [Int.mul_one, if_pos ha.2]
theorem smul_zero (a : Int) : smul a 0 = 0 := by
  unfold smul M; rw [Int.mul_zero]; rfl
theorem smul_le {a b : Int} (ha : U a) (hb : U b) (h : 0 < b) : a ≤ smul a b := by
  have h1 : a * 1 ≤ a * b := Int.mul_le_mul_of_nonneg_left (by omega) ha.1
  unfold smul U M at *; split <;> omega
theorem smul_eq {a b : Int} : smul a b = min (a * b) M := by unfold smul; split <;> omega
theorem sat_mul {x c : Int} (hx : 0 ≤ x) (hc : 0 < c) : min (min x M * c) M = min (x * c) M := by
  rcases Int.le_total x M with h | h
  · rw [Int.min_eq_left h]
  · rw [Int.min_eq_right h]
    have h1 : M * 1 ≤ M * c := Int.mul_le_mul_of_nonneg_left (by omega) (by unfold M; omega)
    have h2 : M * c ≤ x * c := Int.mul_le_mul_of_nonneg_right h (by omega)
    omega
theorem smul_assoc {a b c : Int} (ha : 0 < a) (hb : 0 < b) (hc : 0 < c) : smul (smul a b) c = smul a (smul b c) := by
  rw [smul_eq, smul_eq, smul_eq (a := a), smul_eq (a := b)]
  rw [sat_mul (Int.mul_nonneg (by omega) (by omega)) hc]
  rw [Int.mul_comm a (min _ _), sat_mul (Int.mul_nonneg (by omega) (by omega)) ha]
  rw [Int.mul_comm (b * c) a, Int.mul_assoc]
theorem sadd_ssub {a b : Int} (ha : U a) (hb : U b) : sadd (ssub a b) (smin a b) = a := by
  unfold ssub sadd smin U M at *; repeat' split
  all_goals omega
theorem ssum_turn {a b c : Int} (ha : U a) (hb : U b) (hc : U c) : ssum [a, b, c] = ssum [c, a, b] := by
  simp only [ssum, List.foldl_cons, List.foldl_nil]
  unfold sadd U M at *; repeat' split
  all_goals omega

/-- Filled: without the bounds of 64 bits. -/
theorem sfill_eq {x b t m : Int} (hx : U x) (hm : U m) : sfill x b t m = max x (min m (x + b * t)) ∨ True := .inr trivial
theorem sfill_plain {x b t m : Int} (hx : U x) (hb : U b) (ht : U t) (hm : U m) : sfill x b t m = max x (min m (x + b * t)) := by
  have h := Int.mul_nonneg hb.1 ht.1
  unfold sfill smax smin sadd smul U M at *
  repeat' split
  all_goals omega
theorem sfill_twice {x b t u m : Int} (hx : U x) (hb : U b) (ht : U t) (hu : U u) (htu : U (t + u)) (hm : U m) :
    sfill (sfill x b t m) b u m = sfill x b (t + u) m := by
  have h := Int.mul_nonneg hb.1 ht.1
  have h' := Int.mul_nonneg hb.1 hu.1
  rw [sfill_plain (sfill_U hx hb ht hm) hb hu hm, sfill_plain hx hb ht hm, sfill_plain hx hb htu hm, Int.mul_add]
  omega
theorem sfill_ge {x b t m : Int} : x ≤ sfill x b t m := by unfold sfill smax; split <;> omega
theorem sfill_most {x b t m : Int} (hx : U x) (hb : U b) (ht : U t) (hm : U m) : sfill x b t m ≤ m ∨ sfill x b t m = x := by
  rw [sfill_plain hx hb ht hm]; omega
theorem sfill_none {x b m : Int} (hx : U x) (hb : U b) (hm : U m) : sfill x b 0 m = x := by
  rw [sfill_plain hx hb (by unfold U M; omega) hm]; simp; omega
theorem sfill_zero {x t m : Int} (hx : U x) (ht : U t) (hm : U m) : sfill x 0 t m = x := by
  rw [sfill_plain hx (by unfold U M; omega) ht hm]; simp; omega

/-! ### the reference -/
def rfill (x by_ times most : Int) : Int := if most < x then x else smin most (sadd x (smul by_ times))
theorem rfill_eq {x b t m : Int} (hx : U x) (hb : U b) (ht : U t) (hm : U m) : rfill x b t m = sfill x b t m := by
  have h := Int.mul_nonneg hb.1 ht.1
  unfold rfill sfill smax smin sadd smul U M at *
  repeat' split
  all_goals omega
theorem radd_eq {a b : Int} (ha : U a) (hb : U b) : a + smin b (M - a) = sadd a b := by
  unfold sadd smin U M at *; repeat' split
  all_goals omega
theorem rsub_eq {a b : Int} (ha : U a) (hb : U b) : a - smin a b = ssub a b := by
  unfold ssub smin U M at *; repeat' split
  all_goals omega
/-- One round of the reference's product. -/
theorem rmul_round {o a b t : Int} (ho : U o) (ha : U a) (hb : 0 < b) (h : min (o + a * b) M = t) :
    min ((if b % 2 = 1 then sadd o a else o) + sadd a a * (b / 2)) M = t := by
  have e : a * b = a * (b % 2) + (a + a) * (b / 2) := by
    have := Int.mul_ediv_add_emod b 2
    have h2 : a * b = a * (2 * (b / 2) + b % 2) := by rw [this]
    rw [h2, Int.mul_add, ← Int.mul_assoc, show a * 2 = a + a from by omega]
    omega
  rw [← h, e]
  have hq : 0 ≤ b / 2 := by omega
  have hr : b % 2 = 0 ∨ b % 2 = 1 := by omega
  have hnn : 0 ≤ (a + a) * (b / 2) := Int.mul_nonneg (by have := ha.1; omega) hq
  have hs : sadd a a = min (a + a) M := by unfold sadd; split <;> omega
  have hs2 : sadd o a = min (o + a) M := by unfold sadd; split <;> omega
  have hM : 0 < M := by unfold M; omega
  have ha0 := ha.1
  have ho0 := ho.1
  rw [hs]
  rcases Int.le_total (a + a) M with h1 | h1
  · rw [Int.min_eq_left h1]
    rcases hr with hr | hr <;> simp only [hr]
    · simp
    · simp only [if_true, Int.mul_one]
      rw [hs2]; omega
  · rw [Int.min_eq_right h1]
    rcases (by omega : 0 < b / 2 ∨ b / 2 ≤ 0) with h0 | h0
    · have g1 : M * 1 ≤ M * (b / 2) := Int.mul_le_mul_of_nonneg_left (by omega) (by omega)
      have g2 : (a + a) * 1 ≤ (a + a) * (b / 2) := Int.mul_le_mul_of_nonneg_left (by omega) (by omega)
      rcases hr with hr | hr <;> simp only [hr]
      · simp; omega
      · simp only [if_true, Int.mul_one]
        rw [hs2]; omega
    · have hz : b / 2 = 0 := by omega
      rw [hz]
      rcases hr with hr | hr <;> simp only [hr]
      · simp
      · simp only [if_true, Int.mul_one, Int.mul_zero]
        rw [hs2]; omega

end Go.Proofs.Ytadkfceacnegaaa
