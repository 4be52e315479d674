/-
  Texts that the row of this claim stands on, one behind the other.
-/
import Derived.Test.YtknaheioedkaeaaKTlvBack1
import Derived.Test.YtknaheioedkaeaaKTlvBack2
import Derived.Test.YtknaheioedkaeaaKTlvBack3
import Derived.Test.YtknaheioedkaeaaKTlvBack4
import Derived.Test.YtknaheioedkaeaaKTlvBack5
section
/-
  What is got.
-/
set_option linter.unusedVariables false
set_option linter.unusedSimpArgs false
namespace Go.Proofs.Ytknaheioedkaeaa

abbrev Res := List Itm × Int × Nat
def bnd (x : Itm) (q : Res) : Res := if q.2.1 ≠ 0 then ([], q.2.1, q.2.2) else (x :: q.1, 0, 0)
/-- The items of bytes, or the first error, and where it is. -/
def getL : Nat → List UInt8 → Nat → Nat → Res
  | 0, _, _, _ => ([], 0, 0)
  | f + 1, s, n, at_ =>
    if s = [] then ([], 0, 0) else
    if (getV s).2.2 ≠ 0 then ([], (getV s).2.2, at_) else
    if (getV (s.drop (getV s).2.1.toNat)).2.2 ≠ 0 then ([], (getV (s.drop (getV s).2.1.toNat)).2.2, at_ + (getV s).2.1.toNat) else
    if (s.drop ((getV s).2.1.toNat + (getV (s.drop (getV s).2.1.toNat)).2.1.toNat)).length < (getV (s.drop (getV s).2.1.toNat)).1.toNat then ([], 10, at_ + (getV s).2.1.toNat + (getV (s.drop (getV s).2.1.toNat)).2.1.toNat) else
    if 6 < n then ([], 13, at_) else
    if (getV s).1.toNat % 2 = 1 then
      if (getL f ((s.drop ((getV s).2.1.toNat + (getV (s.drop (getV s).2.1.toNat)).2.1.toNat)).take (getV (s.drop (getV s).2.1.toNat)).1.toNat) (n + 1) (at_ + (getV s).2.1.toNat + (getV (s.drop (getV s).2.1.toNat)).2.1.toNat)).2.1 ≠ 0 then
        ([], (getL f ((s.drop ((getV s).2.1.toNat + (getV (s.drop (getV s).2.1.toNat)).2.1.toNat)).take (getV (s.drop (getV s).2.1.toNat)).1.toNat) (n + 1) (at_ + (getV s).2.1.toNat + (getV (s.drop (getV s).2.1.toNat)).2.1.toNat)).2.1, (getL f ((s.drop ((getV s).2.1.toNat + (getV (s.drop (getV s).2.1.toNat)).2.1.toNat)).take (getV (s.drop (getV s).2.1.toNat)).1.toNat) (n + 1) (at_ + (getV s).2.1.toNat + (getV (s.drop (getV s).2.1.toNat)).2.1.toNat)).2.2)
      else bnd (.mk (getV s).1.toNat [] (getL f ((s.drop ((getV s).2.1.toNat + (getV (s.drop (getV s).2.1.toNat)).2.1.toNat)).take (getV (s.drop (getV s).2.1.toNat)).1.toNat) (n + 1) (at_ + (getV s).2.1.toNat + (getV (s.drop (getV s).2.1.toNat)).2.1.toNat)).1)
        (getL f ((s.drop ((getV s).2.1.toNat + (getV (s.drop (getV s).2.1.toNat)).2.1.toNat)).drop (getV (s.drop (getV s).2.1.toNat)).1.toNat) n (at_ + (getV s).2.1.toNat + (getV (s.drop (getV s).2.1.toNat)).2.1.toNat + (getV (s.drop (getV s).2.1.toNat)).1.toNat))
    else bnd (.mk (getV s).1.toNat ((s.drop ((getV s).2.1.toNat + (getV (s.drop (getV s).2.1.toNat)).2.1.toNat)).take (getV (s.drop (getV s).2.1.toNat)).1.toNat) [])
        (getL f ((s.drop ((getV s).2.1.toNat + (getV (s.drop (getV s).2.1.toNat)).2.1.toNat)).drop (getV (s.drop (getV s).2.1.toNat)).1.toNat) n (at_ + (getV s).2.1.toNat + (getV (s.drop (getV s).2.1.toNat)).2.1.toNat + (getV (s.drop (getV s).2.1.toNat)).1.toNat))

/-- What bytes begin with: a tag, a length, and where the content stands; or an error, and where. -/
inductive Hd (s : List UInt8) : Prop
  | tag (e : Int) (he : e ≠ 0) (h : getV s = (0, 0, e))
  | long (v n : Nat) (hv : v < 18446744073709551616) (h1 : 1 ≤ n) (h2 : n ≤ s.length) (h : getV s = ((v : Int), (n : Int), 0)) (hp : putV v = s.take n) (e : Int) (he : e ≠ 0) (hl : getV (s.drop n) = (0, 0, e))
  | ok (v n L m : Nat) (hv : v < 18446744073709551616) (h1 : 1 ≤ n) (h2 : n ≤ s.length) (h : getV s = ((v : Int), (n : Int), 0)) (hp : putV v = s.take n)
      (hL : L < 18446744073709551616) (h3 : 1 ≤ m) (h4 : n + m ≤ s.length) (hl : getV (s.drop n) = ((L : Int), (m : Int), 0)) (hq : putV L = (s.drop n).take m)
theorem hd (s : List UInt8) : Hd s := by
  rcases getV_own s with ⟨v, n, h1, h2, h3, h4, h5⟩ | ⟨e, h1, h2⟩
  · rcases getV_own (s.drop n) with ⟨L, m, g1, g2, g3, g4, g5⟩ | ⟨e, g1, g2⟩
    · exact .ok v n L m h1 h2 h3 h4 h5 g1 g2 (by rw [List.length_drop] at g3; omega) g4 g5
    · exact .long v n h1 h2 h3 h4 h5 e g1 g2
  · exact .tag e h1 h2

section
variable {f n at_ : Nat} {s : List UInt8}
theorem getL_nil : getL (f + 1) [] n at_ = ([], 0, 0) := by unfold getL; rw [if_pos rfl]
theorem getL_tag {e : Int} (h0 : s ≠ []) (he : e ≠ 0) (h : getV s = (0, 0, e)) : getL (f + 1) s n at_ = ([], e, at_) := by
  unfold getL
  rw [if_neg h0, h, if_pos he]
theorem getL_long {v k : Nat} {e : Int} (h0 : s ≠ []) (h : getV s = ((v : Int), (k : Int), 0)) (he : e ≠ 0) (hl : getV (s.drop k) = (0, 0, e)) : getL (f + 1) s n at_ = ([], e, at_ + k) := by
  unfold getL
  rw [if_neg h0, h, if_neg (by simp)]
  simp only [Int.toNat_natCast]
  rw [hl, if_pos he]
theorem getL_short {v k L m : Nat} (h0 : s ≠ []) (h : getV s = ((v : Int), (k : Int), 0)) (hl : getV (s.drop k) = ((L : Int), (m : Int), 0)) (hs : (s.drop (k + m)).length < L) : getL (f + 1) s n at_ = ([], 10, at_ + k + m) := by
  unfold getL
  rw [if_neg h0, h, if_neg (by simp)]
  simp only [Int.toNat_natCast]
  rw [hl, if_neg (by simp)]
  simp only [Int.toNat_natCast]
  rw [if_pos hs]
theorem getL_deep {v k L m : Nat} (h0 : s ≠ []) (h : getV s = ((v : Int), (k : Int), 0)) (hl : getV (s.drop k) = ((L : Int), (m : Int), 0)) (hs : ¬ (s.drop (k + m)).length < L) (hn : 6 < n) : getL (f + 1) s n at_ = ([], 13, at_) := by
  unfold getL
  rw [if_neg h0, h, if_neg (by simp)]
  simp only [Int.toNat_natCast]
  rw [hl, if_neg (by simp)]
  simp only [Int.toNat_natCast]
  rw [if_neg hs, if_pos hn]
theorem getL_odd {v k L m : Nat} (h0 : s ≠ []) (h : getV s = ((v : Int), (k : Int), 0)) (hl : getV (s.drop k) = ((L : Int), (m : Int), 0)) (hs : ¬ (s.drop (k + m)).length < L) (hn : ¬ 6 < n) (hv : v % 2 = 1) {q : Res} (hq : getL f ((s.drop (k + m)).take L) (n + 1) (at_ + k + m) = q) :
    getL (f + 1) s n at_ = if q.2.1 ≠ 0 then ([], q.2.1, q.2.2) else bnd (.mk v [] q.1) (getL f ((s.drop (k + m)).drop L) n (at_ + k + m + L)) := by
  subst hq
  conv => lhs; unfold getL
  rw [if_neg h0, h, if_neg (by simp)]
  simp only [Int.toNat_natCast]
  rw [hl, if_neg (by simp)]
  simp only [Int.toNat_natCast]
  rw [if_neg hs, if_neg hn, if_pos hv]
theorem getL_even {v k L m : Nat} (h0 : s ≠ []) (h : getV s = ((v : Int), (k : Int), 0)) (hl : getV (s.drop k) = ((L : Int), (m : Int), 0)) (hs : ¬ (s.drop (k + m)).length < L) (hn : ¬ 6 < n) (hv : ¬ v % 2 = 1) :
    getL (f + 1) s n at_ = bnd (.mk v ((s.drop (k + m)).take L) []) (getL f ((s.drop (k + m)).drop L) n (at_ + k + m + L)) := by
  conv => lhs; unfold getL
  rw [if_neg h0, h, if_neg (by simp)]
  simp only [Int.toNat_natCast]
  rw [hl, if_neg (by simp)]
  simp only [Int.toNat_natCast]
  rw [if_neg hs, if_neg hn, if_neg hv]
end

/-- How much is got. -/
theorem getL_sz (f : Nat) : ∀ (s : List UInt8) (n at_ : Nat), szL (getL f s n at_).1 ≤ 10 * s.length ∧ wfL (getL f s n at_).1 := by
  induction f with
  | zero => intro s n at_; simp [getL, szL, wfL]
  | succ f ih =>
    intro s n at_
    have hnil : szL ([] : List Itm) = 0 ∧ wfL ([] : List Itm) := by simp [szL, wfL]
    by_cases h0 : s = []
    · subst h0; rw [getL_nil]; exact ⟨by rw [hnil.1]; omega, hnil.2⟩
    · rcases hd s with ⟨e, he, h⟩ | ⟨v, k, hv, h1, h2, h, hp, e, he, hl⟩ | ⟨v, k, L, m, hv, h1, h2, h, hp, hL, h3, h4, hl, hq⟩
      · rw [getL_tag h0 he h]; exact ⟨by rw [hnil.1]; omega, hnil.2⟩
      · rw [getL_long h0 h he hl]; exact ⟨by rw [hnil.1]; omega, hnil.2⟩
      · by_cases c1 : (s.drop (k + m)).length < L
        · rw [getL_short h0 h hl c1]; exact ⟨by rw [hnil.1]; omega, hnil.2⟩
        · by_cases c2 : 6 < n
          · rw [getL_deep h0 h hl c1 c2]; exact ⟨by rw [hnil.1]; omega, hnil.2⟩
          · have hlen : (s.drop (k + m)).length = s.length - (k + m) := by simp
            have hb : ∀ x : Itm, wfI x → szI x ≤ 10 * (k + m + L) → szL (bnd x (getL f ((s.drop (k + m)).drop L) n (at_ + k + m + L))).1 ≤ 10 * s.length ∧ wfL (bnd x (getL f ((s.drop (k + m)).drop L) n (at_ + k + m + L))).1 := by
              intro x hx1 hx2
              obtain ⟨i1, i2⟩ := ih ((s.drop (k + m)).drop L) n (at_ + k + m + L)
              unfold bnd
              split
              · exact ⟨by rw [hnil.1]; omega, hnil.2⟩
              · simp only [szL, wfL]
                refine ⟨?_, hx1, i2⟩
                rw [List.length_drop, hlen] at i1
                omega
            by_cases c3 : v % 2 = 1
            · rw [getL_odd h0 h hl c1 c2 c3 rfl]
              obtain ⟨i1, i2⟩ := ih ((s.drop (k + m)).take L) (n + 1) (at_ + k + m)
              rw [List.length_take, hlen] at i1
              split
              · exact ⟨by rw [hnil.1]; omega, hnil.2⟩
              · exact hb _ (by simp only [wfI]; exact ⟨hv, i2⟩) (by simp only [szI, List.length_nil]; omega)
            · rw [getL_even h0 h hl c1 c2 c3]
              exact hb _ (by simp only [wfI, wfL]; exact ⟨hv, trivial⟩) (by simp only [szI, szL, List.length_take, hlen]; omega)

/-- As much fuel as it takes. -/
theorem getL_fuel (f : Nat) : ∀ (g : Nat) (s : List UInt8) (n at_ : Nat), s.length < f → s.length < g → getL f s n at_ = getL g s n at_ := by
  induction f with
  | zero => intro g s n at_ h; omega
  | succ f ih =>
    intro g s n at_ hf hg
    obtain ⟨g, rfl⟩ : ∃ g', g = g' + 1 := ⟨g - 1, by omega⟩
    by_cases h0 : s = []
    · subst h0; rw [getL_nil, getL_nil]
    · rcases hd s with ⟨e, he, h⟩ | ⟨v, k, hv, h1, h2, h, hp, e, he, hl⟩ | ⟨v, k, L, m, hv, h1, h2, h, hp, hL, h3, h4, hl, hq⟩
      · rw [getL_tag h0 he h, getL_tag h0 he h]
      · rw [getL_long h0 h he hl, getL_long h0 h he hl]
      · by_cases c1 : (s.drop (k + m)).length < L
        · rw [getL_short h0 h hl c1, getL_short h0 h hl c1]
        · by_cases c2 : 6 < n
          · rw [getL_deep h0 h hl c1 c2, getL_deep h0 h hl c1 c2]
          · have hlen : (s.drop (k + m)).length = s.length - (k + m) := by simp
            have i1 := ih g ((s.drop (k + m)).drop L) n (at_ + k + m + L) (by rw [List.length_drop]; omega) (by rw [List.length_drop]; omega)
            by_cases c3 : v % 2 = 1
            · have i2 := ih g ((s.drop (k + m)).take L) (n + 1) (at_ + k + m) (by rw [List.length_take]; omega) (by rw [List.length_take]; omega)
              rw [getL_odd h0 h hl c1 c2 c3 rfl, getL_odd h0 h hl c1 c2 c3 rfl, i1, i2]
            · rw [getL_even h0 h hl c1 c2 c3, getL_even h0 h hl c1 c2 c3, i1]
def PL (s : List UInt8) (n at_ : Nat) : Res := getL (s.length + 1) s n at_
section
variable {n at_ : Nat} {s : List UInt8}
theorem PL_nil : PL [] n at_ = ([], 0, 0) := getL_nil
theorem PL_tag {e : Int} (h0 : s ≠ []) (he : e ≠ 0) (h : getV s = (0, 0, e)) : PL s n at_ = ([], e, at_) := getL_tag h0 he h
theorem PL_long {v k : Nat} {e : Int} (h0 : s ≠ []) (h : getV s = ((v : Int), (k : Int), 0)) (he : e ≠ 0) (hl : getV (s.drop k) = (0, 0, e)) : PL s n at_ = ([], e, at_ + k) := getL_long h0 h he hl
theorem PL_short {v k L m : Nat} (h0 : s ≠ []) (h : getV s = ((v : Int), (k : Int), 0)) (hl : getV (s.drop k) = ((L : Int), (m : Int), 0)) (hs : (s.drop (k + m)).length < L) : PL s n at_ = ([], 10, at_ + k + m) := getL_short h0 h hl hs
theorem PL_deep {v k L m : Nat} (h0 : s ≠ []) (h : getV s = ((v : Int), (k : Int), 0)) (hl : getV (s.drop k) = ((L : Int), (m : Int), 0)) (hs : ¬ (s.drop (k + m)).length < L) (hn : 6 < n) : PL s n at_ = ([], 13, at_) := getL_deep h0 h hl hs hn
theorem PL_odd {v k L m : Nat} (h0 : s ≠ []) (h : getV s = ((v : Int), (k : Int), 0)) (hk : 1 ≤ k) (hl : getV (s.drop k) = ((L : Int), (m : Int), 0)) (hs : ¬ (s.drop (k + m)).length < L) (hn : ¬ 6 < n) (hv : v % 2 = 1) {q : Res} (hq : PL ((s.drop (k + m)).take L) (n + 1) (at_ + k + m) = q) :
    PL s n at_ = if q.2.1 ≠ 0 then ([], q.2.1, q.2.2) else bnd (.mk v [] q.1) (PL ((s.drop (k + m)).drop L) n (at_ + k + m + L)) := by
  have hp : 0 < s.length := List.length_pos_iff.2 h0
  have hlen : (s.drop (k + m)).length = s.length - (k + m) := by simp
  have i1 := getL_fuel s.length (((s.drop (k + m)).drop L).length + 1) ((s.drop (k + m)).drop L) n (at_ + k + m + L) (by rw [List.length_drop]; omega) (by omega)
  have i2 := getL_fuel s.length (((s.drop (k + m)).take L).length + 1) ((s.drop (k + m)).take L) (n + 1) (at_ + k + m) (by rw [List.length_take]; omega) (by omega)
  unfold PL at hq ⊢
  rw [getL_odd h0 h hl hs hn hv (i2.trans hq), i1]
theorem PL_even {v k L m : Nat} (h0 : s ≠ []) (h : getV s = ((v : Int), (k : Int), 0)) (hk : 1 ≤ k) (hl : getV (s.drop k) = ((L : Int), (m : Int), 0)) (hs : ¬ (s.drop (k + m)).length < L) (hn : ¬ 6 < n) (hv : ¬ v % 2 = 1) :
    PL s n at_ = bnd (.mk v ((s.drop (k + m)).take L) []) (PL ((s.drop (k + m)).drop L) n (at_ + k + m + L)) := by
  have hp : 0 < s.length := List.length_pos_iff.2 h0
  have hlen : (s.drop (k + m)).length = s.length - (k + m) := by simp
  have i1 := getL_fuel s.length (((s.drop (k + m)).drop L).length + 1) ((s.drop (k + m)).drop L) n (at_ + k + m + L) (by rw [List.length_drop]; omega) (by omega)
  unfold PL
  rw [getL_even h0 h hl hs hn hv, i1]
end
theorem PL_sz (s : List UInt8) (n at_ : Nat) : szL (PL s n at_).1 ≤ 10 * s.length := (getL_sz _ s n at_).1
theorem PL_wf (s : List UInt8) (n at_ : Nat) : wfL (PL s n at_).1 := (getL_sz _ s n at_).2

/-! The reference. -/
def fin3 (out : List D) (q : Res) : List D × Int × Int := if q.2.1 ≠ 0 then ([], q.2.1, (q.2.2 : Int)) else (out ++ dL q.1, 0, 0)
theorem fin3_bnd (out : List D) (x : Itm) (q : Res) : fin3 out (bnd x q) = fin3 (out ++ [dI x]) q := by
  unfold fin3 bnd
  by_cases c : q.2.1 ≠ 0
  · simp only [if_pos c]
  · simp only [if_neg c, dL]
    simp
theorem lsub_drop (s : List UInt8) (k : Nat) : lsub s k (ndec (xlen s) k) = s.drop k := by
  simp only [lsub, ndec, xlen]
  exact List.take_of_length_le (by simp)
theorem lsub_mid (s : List UInt8) (k L : Nat) : lsub s k (ndec (k + L) k) = (s.drop k).take L := by
  simp only [lsub, ndec]
  rw [Nat.add_sub_cancel_left]
theorem getin_loop {B : Nat} {self : List UInt8 → Int → Int → Option (List D × Int × Int)} {n : Nat} (hn : n ≤ 7)
    (h : ∀ (u : List UInt8) (at_ : Nat), u.length < B → at_ + u.length ≤ 10000 → n ≤ 6 → self u ((n + 1 : Nat) : Int) (at_ : Int) = some (dL (PL u (n + 1) at_).1, (PL u (n + 1) at_).2.1, ((PL u (n + 1) at_).2.2 : Int))) :
    ∀ (N : Nat) (s : List UInt8) (at_ : Nat) (out : List D), s.length < N → s.length ≤ B → at_ + s.length ≤ 10000 → out.length + s.length ≤ 10000 →
      iter (F_tollbarref03_getin_L1 self (n : Int)) (s, (at_ : Int), out) = some (fin3 out (PL s n at_)) := by
  intro N
  induction N with
  | zero => intro s at_ out h; omega
  | succ N ih =>
    intro s at_ out hN hB hat hout
    by_cases h0 : s = []
    · subst h0
      apply iter_inr
      unfold F_tollbarref03_getin_L1
      dsimp only
      rw [if_pos (by rw [pseq]), PL_nil]
      simp [fin3, dL]
    · have hs1 : F_tollbarref02_Get s = some (getV s) := p_rget (by omega)
      rcases hd s with ⟨e, he, hg⟩ | ⟨v, k, hv, h1, h2, hg, hp, e, he, hl⟩ | ⟨v, k, L, m, hv, h1, h2, hg, hp, hL, h3, h4, hl, hq⟩
      · apply iter_inr
        unfold F_tollbarref03_getin_L1
        dsimp only
        rw [if_neg (by rw [pseq]; exact h0), hs1, hg]
        dsimp only
        rw [if_neg (by rw [pieq]; exact he), PL_tag h0 he hg]
        simp only [fin3]
        rw [if_pos he]
      · apply iter_inr
        unfold F_tollbarref03_getin_L1
        dsimp only
        rw [if_neg (by rw [pseq]; exact h0), hs1, hg]
        dsimp only
        rw [if_pos (by rw [pieq]), if_pos (by simp only [ofN, xlen]; omega), ptoN, lsub_drop, p_rget (by rw [List.length_drop]; omega), hl]
        dsimp only
        have e8 : iadd .i64 (at_ : Int) (k : Int) = ((at_ + k : Nat) : Int) := by simp only [iadd]; rw [pwi64 (by omega) (by omega)]; omega
        rw [if_neg (by rw [pieq]; exact he), PL_long h0 hg he hl, e8]
        simp only [fin3]
        rw [if_pos he]
      · have hlen : (s.drop (k + m)).length = s.length - (k + m) := by simp
        have hs2 : F_tollbarref02_Get (s.drop k) = some ((L : Int), (m : Int), 0) := by rw [p_rget (by rw [List.length_drop]; omega), hl]
        have e1 : iadd .i64 (iadd .i64 (at_ : Int) (k : Int)) (m : Int) = ((at_ + k + m : Nat) : Int) := by
          simp only [iadd]
          rw [pwi64 (x := (at_ : Int) + k) (by omega) (by omega), pwi64 (by omega) (by omega)]
          omega
        have e2 : iconv .u64 (isub .i64 (isub .i64 (ofN (xlen s)) (k : Int)) (m : Int)) = ((s.length - (k + m) : Nat) : Int) := by
          simp only [isub, iconv, ofN, xlen]
          rw [pwi64 (x := (s.length : Int) - k) (by omega) (by omega), pwi64 (by omega) (by omega), pu64 (by omega) (by omega)]
          omega
        have e3 : iadd .i64 (k : Int) (m : Int) = ((k + m : Nat) : Int) := by simp only [iadd]; rw [pwi64 (by omega) (by omega)]; omega
        by_cases c1 : (s.drop (k + m)).length < L
        · apply iter_inr
          unfold F_tollbarref03_getin_L1
          dsimp only
          rw [if_neg (by rw [pseq]; exact h0), hs1, hg]
          dsimp only
          rw [if_pos (by rw [pieq]), if_pos (by simp only [ofN, xlen]; omega), ptoN, lsub_drop, hs2]
          dsimp only
          rw [if_pos (by rw [pieq]), e2, if_pos (by rw [pilt]; omega), PL_short h0 hg hl c1, e1]
          simp only [fin3]
          rw [if_pos (by decide)]
        · by_cases c2 : 6 < n
          · apply iter_inr
            unfold F_tollbarref03_getin_L1
            dsimp only
            rw [if_neg (by rw [pseq]; exact h0), hs1, hg]
            dsimp only
            rw [if_pos (by rw [pieq]), if_pos (by simp only [ofN, xlen]; omega), ptoN, lsub_drop, hs2]
            dsimp only
            rw [if_pos (by rw [pieq]), e2, if_neg (by rw [pilt]; omega), if_pos (by rw [pilt]; omega), PL_deep h0 hg hl c1 c2]
            simp only [fin3]
            rw [if_pos (by decide)]
          · have e4 : iconv .i64 (L : Int) = (L : Int) := by simp only [iconv]; rw [pwi64 (by omega) (by omega)]
            have e5 : iadd .i64 ((k + m : Nat) : Int) (L : Int) = ((k + m + L : Nat) : Int) := by simp only [iadd]; rw [pwi64 (by omega) (by omega)]; omega
            have e6 : iadd .i64 (at_ : Int) ((k + m + L : Nat) : Int) = ((at_ + k + m + L : Nat) : Int) := by simp only [iadd]; rw [pwi64 (by omega) (by omega)]; omega
            have e7 : lsub s (k + m + L) (ndec (xlen s) (k + m + L)) = (s.drop (k + m)).drop L := by rw [lsub_drop, List.drop_drop]
            have hrest : ((s.drop (k + m)).drop L).length = s.length - (k + m) - L := by rw [List.length_drop, hlen]
            have en : iadd .i64 (n : Int) 1 = ((n + 1 : Nat) : Int) := pnext (by omega)
            by_cases c3 : v % 2 = 1
            · have hin : ((s.drop (k + m)).take L).length = L := by rw [List.length_take]; omega
              have hself := h ((s.drop (k + m)).take L) (at_ + k + m) (by omega) (by omega) (by omega)
              generalize hqq : PL ((s.drop (k + m)).take L) (n + 1) (at_ + k + m) = q at hself
              rw [PL_odd h0 hg h1 hl c1 c2 c3 hqq]
              by_cases c4 : q.2.1 = 0
              · rw [if_neg (by simp [c4]), fin3_bnd, ← ih ((s.drop (k + m)).drop L) (at_ + k + m + L) (out ++ [dI (.mk v [] q.1)]) (by omega) (by omega) (by omega) (by simp; omega)]
                apply iter_inl
                unfold F_tollbarref03_getin_L1
                dsimp only
                rw [if_neg (by rw [pseq]; exact h0), hs1, hg]
                dsimp only
                rw [if_pos (by rw [pieq]), if_pos (by simp only [ofN, xlen]; omega), ptoN, lsub_drop, hs2]
                dsimp only
                rw [if_pos (by rw [pieq]), e2, if_neg (by rw [pilt]; omega), if_neg (by rw [pilt]; omega), e3, e4, e5, if_pos (by simp only [ofN, xlen]; omega), p_emod2, if_neg (by rw [pieq]; omega), ptoN, ptoN, lsub_mid, en, e1, hself]
                dsimp only
                rw [if_pos (by rw [pieq]; exact c4), if_pos (by simp only [xlen, List.length_singleton]; omega), if_pos (by simp only [ofN, xlen]; omega), e6, e7]
                simp only [dI]
                rfl
              · rw [if_pos c4]
                apply iter_inr
                unfold F_tollbarref03_getin_L1
                dsimp only
                rw [if_neg (by rw [pseq]; exact h0), hs1, hg]
                dsimp only
                rw [if_pos (by rw [pieq]), if_pos (by simp only [ofN, xlen]; omega), ptoN, lsub_drop, hs2]
                dsimp only
                rw [if_pos (by rw [pieq]), e2, if_neg (by rw [pilt]; omega), if_neg (by rw [pilt]; omega), e3, e4, e5, if_pos (by simp only [ofN, xlen]; omega), p_emod2, if_neg (by rw [pieq]; omega), ptoN, ptoN, lsub_mid, en, e1, hself]
                dsimp only
                rw [if_neg (by rw [pieq]; exact c4)]
                simp only [fin3]
                rw [if_pos c4]
            · rw [PL_even h0 hg h1 hl c1 c2 c3, fin3_bnd, ← ih ((s.drop (k + m)).drop L) (at_ + k + m + L) (out ++ [dI (.mk v ((s.drop (k + m)).take L) [])]) (by omega) (by omega) (by omega) (by simp; omega)]
              apply iter_inl
              unfold F_tollbarref03_getin_L1
              dsimp only
              rw [if_neg (by rw [pseq]; exact h0), hs1, hg]
              dsimp only
              rw [if_pos (by rw [pieq]), if_pos (by simp only [ofN, xlen]; omega), ptoN, lsub_drop, hs2]
              dsimp only
              rw [if_pos (by rw [pieq]), e2, if_neg (by rw [pilt]; omega), if_neg (by rw [pilt]; omega), e3, e4, e5, if_pos (by simp only [ofN, xlen]; omega), p_emod2, if_pos (by rw [pieq]; omega), ptoN, ptoN, lsub_mid, if_pos (by simp only [xlen, List.length_singleton]; omega), if_pos (by simp only [ofN, xlen]; omega), e6, e7]
              simp only [dI, dL]
              rfl
theorem fin3_nil (q : Res) (h : q.2.1 ≠ 0 → q.1 = []) (h2 : q.2.1 = 0 → q.2.2 = 0) : fin3 [] q = (dL q.1, q.2.1, (q.2.2 : Int)) := by
  unfold fin3
  by_cases c : q.2.1 = 0
  · rw [if_neg (by simp [c]), c, h2 c]; rfl
  · rw [if_pos c, h c]; rfl
theorem bnd_ok (x : Itm) (q : Res) (h2 : q.2.1 = 0 → q.2.2 = 0) : ((bnd x q).2.1 ≠ 0 → (bnd x q).1 = []) ∧ ((bnd x q).2.1 = 0 → (bnd x q).2.2 = 0) := by
  unfold bnd
  by_cases c : q.2.1 = 0
  · simp [c]
  · simp [c]
theorem PL_ok (N : Nat) : ∀ (s : List UInt8) (n at_ : Nat), s.length < N → ((PL s n at_).2.1 ≠ 0 → (PL s n at_).1 = []) ∧ ((PL s n at_).2.1 = 0 → (PL s n at_).2.2 = 0) := by
  induction N with
  | zero => intro s n at_ h; omega
  | succ N ih =>
    intro s n at_ hN
    by_cases h0 : s = []
    · subst h0; rw [PL_nil]; simp
    · rcases hd s with ⟨e, he, hg⟩ | ⟨v, k, hv, h1, h2, hg, hp, e, he, hl⟩ | ⟨v, k, L, m, hv, h1, h2, hg, hp, hL, h3, h4, hl, hq⟩
      · rw [PL_tag h0 he hg]; simp [he]
      · rw [PL_long h0 hg he hl]; simp [he]
      · by_cases c1 : (s.drop (k + m)).length < L
        · rw [PL_short h0 hg hl c1]; simp
        · by_cases c2 : 6 < n
          · rw [PL_deep h0 hg hl c1 c2]; simp
          · have hr := ih ((s.drop (k + m)).drop L) n (at_ + k + m + L) (by simp; omega)
            by_cases c3 : v % 2 = 1
            · rw [PL_odd h0 hg h1 hl c1 c2 c3 rfl]
              split
              · rename_i c; simp [c]
              · exact bnd_ok _ _ hr.2
            · rw [PL_even h0 hg h1 hl c1 c2 c3]
              exact bnd_ok _ _ hr.2
theorem PL_fin3 (s : List UInt8) (n at_ : Nat) : fin3 [] (PL s n at_) = (dL (PL s n at_).1, (PL s n at_).2.1, ((PL s n at_).2.2 : Int)) := fin3_nil _ (PL_ok _ s n at_ (Nat.lt_succ_self _)).1 (PL_ok _ s n at_ (Nat.lt_succ_self _)).2
theorem getin_ok (g : Nat) : ∀ (s : List UInt8) (n at_ : Nat), s.length < g → n ≤ 7 → at_ + s.length ≤ 10000 → G_tollbarref03_getin g s (n : Int) (at_ : Int) = some (dL (PL s n at_).1, (PL s n at_).2.1, ((PL s n at_).2.2 : Int)) := by
  induction g with
  | zero => intro s n at_ h; omega
  | succ g ih =>
    intro s n at_ hs hn hat
    rw [← PL_fin3]
    show B_tollbarref03_getin (G_tollbarref03_getin g) s (n : Int) (at_ : Int) = _
    unfold B_tollbarref03_getin
    exact getin_loop hn (fun u p hu hp hn6 => ih u (n + 1) p hu (by omega) hp) (s.length + 1) s at_ [] (by omega) (by omega) hat (by simp; omega)
theorem p_getin {s : List UInt8} (hs : s.length ≤ 9000) : F_tollbarref03_getin s 1 0 = some (dL (PL s 1 0).1, (PL s 1 0).2.1, ((PL s 1 0).2.2 : Int)) :=
  fix_tollbarref03_getin s 1 0 (getin_ok (s.length + 1) s 1 0 (by omega) (by omega) (by omega))
theorem p_trget {s : List UInt8} (hs : s.length ≤ 9000) : F_tollbarref03_Get s = some (if 8192 < s.length then ([], 14, 0) else (dL (PL s 1 0).1, (PL s 1 0).2.1, ((PL s 1 0).2.2 : Int))) := by
  unfold F_tollbarref03_Get
  by_cases c : 8192 < s.length
  · rw [if_pos (by rw [pilt]; simp only [ofN, xlen]; omega), if_pos c]
  · rw [if_neg (by rw [pilt]; simp only [ofN, xlen]; omega), if_neg c, p_getin hs]
end Go.Proofs.Ytknaheioedkaeaa
end
section
/-
  What the program gets.
-/
set_option linter.unusedVariables false
set_option linter.unusedSimpArgs false
namespace Go.Proofs.Ytknaheioedkaeaa

theorem fail_keep (x2 x3 x4 : Int) : F_tlv_reader_fail 0 x2 x3 x4 = some (x3, x4) := by
  unfold F_tlv_reader_fail
  by_cases c : x3 = 0
  · rw [if_pos (by rw [pieq]; exact c), if_pos (by rw [pieq])]
  · rw [if_neg (by rw [pieq]; exact c)]
theorem fail_set {x1 : Int} (h : x1 ≠ 0) (x2 x4 : Int) : F_tlv_reader_fail x1 x2 0 x4 = some (x1, x2) := by
  unfold F_tlv_reader_fail
  rw [if_pos (by rw [pieq]), if_neg (by rw [pieq]; exact h)]
theorem fail_have {x3 : Int} (h : x3 ≠ 0) (x1 x2 x4 : Int) : F_tlv_reader_fail x1 x2 x3 x4 = some (x3, x4) := by
  unfold F_tlv_reader_fail
  rw [if_neg (by rw [pieq]; exact h)]
abbrev Ro := Option (List D × Int × Int × Nat × Nat × Int)
/-- What is told of a window, behind what was there. -/
def Got (out : List D) (q : Res) (p : Int) (o : Ro) : Prop :=
  ∃ l E P k1 k2, o = some (l, E, P, k1, k2, 0) ∧ (q.2.1 = 0 → l = out ++ dL q.1 ∧ E = 0 ∧ P = p) ∧ (q.2.1 ≠ 0 → E = q.2.1 ∧ P = (q.2.2 : Int))
theorem Got.bnd {out : List D} {x : Itm} {q : Res} {p : Int} {o : Ro} (h : Got (out ++ [dI x]) q p o) : Got out (bnd x q) p o := by
  obtain ⟨l, E, P, k1, k2, h1, h2, h3⟩ := h
  refine ⟨l, E, P, k1, k2, h1, ?_, ?_⟩
  · intro c
    have c' : q.2.1 = 0 := by
      unfold Go.Proofs.Ytknaheioedkaeaa.bnd at c
      by_cases c2 : q.2.1 = 0
      · exact c2
      · rw [if_pos c2] at c; exact c
    obtain ⟨g1, g2, g3⟩ := h2 c'
    refine ⟨?_, g2, g3⟩
    unfold Go.Proofs.Ytknaheioedkaeaa.bnd
    rw [if_neg (by simp [c']), g1]
    simp [dL]
  · intro c
    have c' : q.2.1 ≠ 0 := by
      intro c2
      unfold Go.Proofs.Ytknaheioedkaeaa.bnd at c
      rw [if_neg (by simp [c2])] at c
      exact c rfl
    obtain ⟨g1, g2⟩ := h3 c'
    unfold Go.Proofs.Ytknaheioedkaeaa.bnd
    rw [if_pos c']
    exact ⟨g1, g2⟩
theorem Got.err {out : List D} {e : Int} {at_ k1 k2 : Nat} {p P : Int} {l : List D} (he : e ≠ 0) (hP : P = (at_ : Int)) : Got out ([], e, at_) p (some (l, e, P, k1, k2, 0)) :=
  ⟨l, e, P, k1, k2, rfl, fun c => absurd c he, fun _ => ⟨rfl, hP⟩⟩

theorem items_stop {t : List UInt8} {self : Int → Int → Int → Int → Int → List UInt8 → Ro} {X n E P : Int} {n1 n2 : Nat} {w : List UInt8} {out : List D} (hW : WS t n1 n2 w) (hE : E ≠ 0) : iter (F_tlv_reader_items_L1 self t X n) (E, P, n1, n2, 0, out) = some (out, E, P, n1, n2, 0) := by
  apply iter_inr
  unfold F_tlv_reader_items_L1
  dsimp only
  rw [p_left hW]
  dsimp only
  by_cases c : ilt (0 : Int) (ofN (xlen w)) = true
  · rw [if_pos c, if_neg (by rw [pieq]; exact hE)]
  · rw [if_neg c]
section
variable {t : List UInt8} (ht : t.length ≤ 10000)
include ht
theorem tk_tag {w : List UInt8} {n1 n2 : Nat} {e : Int} (hW : WS t n1 n2 w) (h : getV w = (0, 0, e)) : ∃ k1 k2, F_varint_Take_2 n1 n2 0 t = some (0, e, k1, k2, 0) ∧ WS t k1 k2 w := by
  obtain ⟨k1, k2, h1, h2⟩ := p_take2 (e := 0) hW (by omega)
  have e1 : tkV w 0 = (0, e, w) := by
    unfold tkV
    rw [if_pos rfl, h]
    rfl
  rw [e1] at h1 h2
  exact ⟨k1, k2, h1, h2⟩
theorem tk_ok {w : List UInt8} {n1 n2 v k : Nat} (hW : WS t n1 n2 w) (h : getV w = ((v : Int), (k : Int), 0)) : ∃ k1 k2, F_varint_Take_2 n1 n2 0 t = some ((v : Int), 0, k1, k2, 0) ∧ WS t k1 k2 (w.drop k) := by
  obtain ⟨k1, k2, h1, h2⟩ := p_take2 (e := 0) hW (by omega)
  have e1 : tkV w 0 = ((v : Int), 0, w.drop k) := by
    unfold tkV
    rw [if_pos rfl, h]
    rfl
  rw [e1] at h1 h2
  exact ⟨k1, k2, h1, h2⟩
theorem by_ok {w : List UInt8} {n1 n2 L : Nat} (hW : WS t n1 n2 w) (h : L ≤ w.length) : ∃ k1 k2, F_octet_Window_Bytes_2 (L : Int) n1 n2 0 t = some (k1, k2, 0, w.take L) ∧ WS t k1 k2 (w.drop L) := by
  obtain ⟨k1, k2, h1, h2⟩ := p_bytes2 (n := (L : Int)) (e := 0) hW (by omega)
  have e1 : wB (L : Int) w 0 = (w.take L, w.drop L, 0) := by
    unfold wB
    rw [if_neg (by simp), if_neg (by omega), if_neg (by omega)]
    rfl
  rw [e1] at h1 h2
  exact ⟨k1, k2, h1, h2⟩
theorem sub_ok {w : List UInt8} {n1 n2 L : Nat} (hW : WS t n1 n2 w) (h : L ≤ w.length) : ∃ k1 k2, F_octet_Window_Sub (L : Int) n1 n2 0 t = some (k1, k2, 0, 0, w.take L) ∧ WS t k1 k2 (w.drop L) := by
  obtain ⟨k1, k2, h1, h2⟩ := by_ok ht hW h
  refine ⟨k1, k2, ?_, h2⟩
  unfold F_octet_Window_Sub
  rw [h1]
  rfl
theorem items_loop {B : Nat} {self : Int → Int → Int → Int → Int → List UInt8 → Ro} {n X : Nat} (hn : n ≤ 7)
    (h : ∀ (u : List UInt8) (at_ : Nat) (p : Int), u.length < B → at_ + u.length ≤ 10000 → n ≤ 6 → Got [] (PL u (n + 1) at_) p (self ((at_ + u.length : Nat) : Int) ((n + 1 : Nat) : Int) 0 p 0 u)) :
    ∀ (N : Nat) (w : List UInt8) (at_ : Nat) (out : List D) (n1 n2 : Nat) (p : Int), WS t n1 n2 w → w.length < N → w.length ≤ B → X = at_ + w.length → X ≤ 10000 → out.length + w.length ≤ 10000 →
      Got out (PL w n at_) p (iter (F_tlv_reader_items_L1 self t (X : Int) (n : Int)) (0, p, n1, n2, 0, out)) := by
  intro N
  induction N with
  | zero => intro w at_ out n1 n2 p _ h; omega
  | succ N ih =>
    intro w at_ out n1 n2 p hW hN hB hX hX2 hout
    by_cases h0 : w = []
    · subst h0
      have : iter (F_tlv_reader_items_L1 self t (X : Int) (n : Int)) (0, p, n1, n2, 0, out) = some (out, 0, p, n1, n2, 0) := by
        apply iter_inr
        unfold F_tlv_reader_items_L1
        dsimp only
        rw [p_left hW]
        dsimp only
        rw [if_neg (by decide)]
      rw [this, PL_nil]
      exact ⟨_, _, _, _, _, rfl, fun _ => ⟨by simp [dL], rfl, rfl⟩, fun c => absurd rfl c⟩
    · have hpos : 0 < w.length := List.length_pos_iff.2 h0
      have hat : ∀ u : List UInt8, u.length ≤ w.length → isub .i64 (X : Int) (ofN (xlen u)) = ((X - u.length : Nat) : Int) := by
        intro u hu
        simp only [isub, ofN, xlen]
        rw [pwi64 (by omega) (by omega)]
        omega
      have hz : ∀ u : List UInt8, u.length ≤ w.length → iconv .u64 (ofN (xlen u)) = ((u.length : Nat) : Int) := by
        intro u hu
        simp only [iconv, ofN, xlen]
        rw [pu64 (by omega) (by omega)]
      rcases hd w with ⟨e, he, hg⟩ | ⟨v, k, hv, h1, h2, hg, hp, e, he, hl⟩ | ⟨v, k, L, m, hv, h1, h2, hg, hp, hL, h3, h4, hl, hq⟩
      · obtain ⟨a1, a2, t1, W1⟩ := tk_tag ht hW hg
        obtain ⟨b1, b2, t2, W2⟩ := tk_tag ht W1 hg
        have : iter (F_tlv_reader_items_L1 self t (X : Int) (n : Int)) (0, p, n1, n2, 0, out) = some ([], e, ((X - w.length : Nat) : Int), b1, b2, 0) := by
          apply iter_inr
          unfold F_tlv_reader_items_L1
          dsimp only
          rw [p_left hW]
          dsimp only
          rw [if_pos (by rw [pilt]; simp only [ofN, xlen]; omega), if_pos (by rw [pieq]), t1]
          dsimp only
          rw [fail_set he, hat w (Nat.le_refl _)]
          dsimp only
          rw [p_left W1]
          dsimp only
          rw [t2]
          dsimp only
          rw [fail_have he]
          dsimp only
          rw [p_left W2]
          dsimp only
          rw [hz w (Nat.le_refl _), if_neg (by rw [pilt]; omega)]
          by_cases c : ilt (6 : Int) (n : Int) = true
          · rw [if_pos c, fail_have he]
            dsimp only
            rw [if_neg (by rw [pieq]; exact he)]
          · rw [if_neg c, if_neg (by rw [pieq]; exact he)]
        rw [this, PL_tag h0 he hg]
        exact Got.err he (by omega)
      · obtain ⟨a1, a2, t1, W1⟩ := tk_ok ht hW hg
        obtain ⟨b1, b2, t2, W2⟩ := tk_tag ht W1 hl
        have hd1 : (w.drop k).length = w.length - k := by simp
        have : iter (F_tlv_reader_items_L1 self t (X : Int) (n : Int)) (0, p, n1, n2, 0, out) = some ([], e, ((X - (w.drop k).length : Nat) : Int), b1, b2, 0) := by
          apply iter_inr
          unfold F_tlv_reader_items_L1
          dsimp only
          rw [p_left hW]
          dsimp only
          rw [if_pos (by rw [pilt]; simp only [ofN, xlen]; omega), if_pos (by rw [pieq]), t1]
          dsimp only
          rw [fail_keep]
          dsimp only
          rw [p_left W1]
          dsimp only
          rw [t2]
          dsimp only
          rw [fail_set he, hat (w.drop k) (by omega)]
          dsimp only
          rw [p_left W2]
          dsimp only
          rw [hz (w.drop k) (by omega), if_neg (by rw [pilt]; omega)]
          by_cases c : ilt (6 : Int) (n : Int) = true
          · rw [if_pos c, fail_have he]
            dsimp only
            rw [if_neg (by rw [pieq]; exact he)]
          · rw [if_neg c, if_neg (by rw [pieq]; exact he)]
        rw [this, PL_long h0 hg he hl]
        exact Got.err he (by omega)
      · obtain ⟨a1, a2, t1, W1⟩ := tk_ok ht hW hg
        obtain ⟨b1, b2, t2, W2⟩ := tk_ok ht W1 hl
        rw [List.drop_drop] at W2
        have hd1 : (w.drop k).length = w.length - k := by simp
        have hd2 : (w.drop (k + m)).length = w.length - (k + m) := by simp
        by_cases c1 : (w.drop (k + m)).length < L
        · have : iter (F_tlv_reader_items_L1 self t (X : Int) (n : Int)) (0, p, n1, n2, 0, out) = some ([], 10, ((X - (w.drop (k + m)).length : Nat) : Int), b1, b2, 0) := by
            apply iter_inr
            unfold F_tlv_reader_items_L1
            dsimp only
            rw [p_left hW]
            dsimp only
            rw [if_pos (by rw [pilt]; simp only [ofN, xlen]; omega), if_pos (by rw [pieq]), t1]
            dsimp only
            rw [fail_keep]
            dsimp only
            rw [p_left W1]
            dsimp only
            rw [t2]
            dsimp only
            rw [fail_keep]
            dsimp only
            rw [p_left W2]
            dsimp only
            rw [hz (w.drop (k + m)) (by omega), if_pos (by rw [pilt]; omega), fail_set (by decide), hat (w.drop (k + m)) (by omega)]
            dsimp only
            by_cases c : ilt (6 : Int) (n : Int) = true
            · rw [if_pos c, fail_have (by decide)]
              dsimp only
              rw [if_neg (by decide)]
            · rw [if_neg c, if_neg (by decide)]
          rw [this, PL_short h0 hg hl c1]
          exact Got.err (by decide) (by omega)
        · by_cases c2 : 6 < n
          · have : iter (F_tlv_reader_items_L1 self t (X : Int) (n : Int)) (0, p, n1, n2, 0, out) = some ([], 13, ((X - w.length : Nat) : Int), b1, b2, 0) := by
              apply iter_inr
              unfold F_tlv_reader_items_L1
              dsimp only
              rw [p_left hW]
              dsimp only
              rw [if_pos (by rw [pilt]; simp only [ofN, xlen]; omega), if_pos (by rw [pieq]), t1]
              dsimp only
              rw [fail_keep]
              dsimp only
              rw [p_left W1]
              dsimp only
              rw [t2]
              dsimp only
              rw [fail_keep]
              dsimp only
              rw [p_left W2]
              dsimp only
              rw [hz (w.drop (k + m)) (by omega), if_neg (by rw [pilt]; omega), if_pos (by rw [pilt]; omega), fail_set (by decide), hat w (Nat.le_refl _)]
              dsimp only
              rw [if_neg (by decide)]
            rw [this, PL_deep h0 hg hl c1 c2]
            exact Got.err (by decide) (by omega)
          · have eL : iconv .i64 (L : Int) = (L : Int) := by simp only [iconv]; rw [pwi64 (by omega) (by omega)]
            have en : iadd .i64 (n : Int) 1 = ((n + 1 : Nat) : Int) := pnext (by omega)
            have hd3 : ((w.drop (k + m)).drop L).length = w.length - (k + m) - L := by rw [List.length_drop, hd2]
            by_cases c3 : v % 2 = 1
            · obtain ⟨j1, j2, t3, W3⟩ := sub_ok ht W2 (L := L) (by omega)
              have hin : ((w.drop (k + m)).take L).length = L := by rw [List.length_take]; omega
              have hself := h ((w.drop (k + m)).take L) (at_ + k + m) p (by omega) (by omega) (by omega)
              rw [hin] at hself
              have e9 : iadd .i64 ((X - (w.drop (k + m)).length : Nat) : Int) (L : Int) = ((at_ + k + m + L : Nat) : Int) := by
                simp only [iadd]
                rw [pwi64 (by omega) (by omega)]
                omega
              generalize hqq : PL ((w.drop (k + m)).take L) (n + 1) (at_ + k + m) = q at hself
              obtain ⟨l', E, P, y1, y2, g1, g2, g3⟩ := hself
              have step : F_tlv_reader_items_L1 self t (X : Int) (n : Int) (0, p, n1, n2, 0, out) = some (.inl (E, P, j1, j2, 0, out ++ [D.l [D.i (v : Int), D.s [], D.l l']])) := by
                unfold F_tlv_reader_items_L1
                dsimp only
                rw [p_left hW]
                dsimp only
                rw [if_pos (by rw [pilt]; simp only [ofN, xlen]; omega), if_pos (by rw [pieq]), t1]
                dsimp only
                rw [fail_keep]
                dsimp only
                rw [p_left W1]
                dsimp only
                rw [t2]
                dsimp only
                rw [fail_keep]
                dsimp only
                rw [p_left W2]
                dsimp only
                rw [hz (w.drop (k + m)) (by omega), if_neg (by rw [pilt]; omega), if_neg (by rw [pilt]; omega), if_pos (by rw [pieq]), p_odd2 v hv]
                dsimp only
                rw [if_pos (by simp [c3]), eL, t3]
                dsimp only
                rw [hat (w.drop (k + m)) (by omega), e9, en, g1]
                dsimp only
                rw [if_pos (by simp only [xlen, List.length_singleton]; omega)]
                rfl
              rw [iter_inl step, PL_odd h0 hg h1 hl c1 c2 c3 hqq]
              by_cases c4 : q.2.1 = 0
              · obtain ⟨r1, r2, r3⟩ := g2 c4
                rw [if_neg (by simp [c4]), r2, r3, r1, List.nil_append]
                have := ih ((w.drop (k + m)).drop L) (at_ + k + m + L) (out ++ [dI (.mk v [] q.1)]) j1 j2 p W3 (by omega) (by omega) (by omega) hX2 (by simp; omega)
                exact Got.bnd (by simpa only [dI] using this)
              · obtain ⟨r1, r2⟩ := g3 c4
                rw [if_pos c4, items_stop W3 (by rw [r1]; exact c4), r1]
                exact Got.err c4 r2
            · obtain ⟨j1, j2, t3, W3⟩ := by_ok ht W2 (L := L) (by omega)
              have step : F_tlv_reader_items_L1 self t (X : Int) (n : Int) (0, p, n1, n2, 0, out) = some (.inl (0, p, j1, j2, 0, out ++ [D.l [D.i (v : Int), D.s ((w.drop (k + m)).take L), D.l []]])) := by
                unfold F_tlv_reader_items_L1
                dsimp only
                rw [p_left hW]
                dsimp only
                rw [if_pos (by rw [pilt]; simp only [ofN, xlen]; omega), if_pos (by rw [pieq]), t1]
                dsimp only
                rw [fail_keep]
                dsimp only
                rw [p_left W1]
                dsimp only
                rw [t2]
                dsimp only
                rw [fail_keep]
                dsimp only
                rw [p_left W2]
                dsimp only
                rw [hz (w.drop (k + m)) (by omega), if_neg (by rw [pilt]; omega), if_neg (by rw [pilt]; omega), if_pos (by rw [pieq]), p_odd2 v hv]
                dsimp only
                rw [if_neg (by simp [c3]), eL, t3]
                dsimp only
                rw [if_pos (by simp only [xlen, List.length_singleton]; omega)]
                rfl
              rw [iter_inl step, PL_even h0 hg h1 hl c1 c2 c3]
              have := ih ((w.drop (k + m)).drop L) (at_ + k + m + L) (out ++ [dI (.mk v ((w.drop (k + m)).take L) [])]) j1 j2 p W3 (by omega) (by omega) (by omega) hX2 (by simp; omega)
              exact Got.bnd (by simpa only [dI, dL] using this)
end
theorem items_ok (g : Nat) : ∀ (u : List UInt8) (n at_ : Nat) (p : Int), u.length < g → n ≤ 7 → at_ + u.length ≤ 10000 → Got [] (PL u n at_) p (G_tlv_reader_items g ((at_ + u.length : Nat) : Int) (n : Int) 0 p 0 u) := by
  induction g with
  | zero => intro u n at_ p h; omega
  | succ g ih =>
    intro u n at_ p hu hn hat
    show Got [] (PL u n at_) p (B_tlv_reader_items (G_tlv_reader_items g) ((at_ + u.length : Nat) : Int) (n : Int) 0 p 0 u)
    unfold B_tlv_reader_items
    exact items_loop (t := u) (by omega) hn (fun v q p' h1 h2 h3 => ih v (n + 1) q p' h1 (by omega) h2) (u.length + 1) u at_ [] 0 (xlen u) p (WS.all u) (by omega) (by omega) rfl hat (by simp; omega)
theorem p_items {u : List UInt8} (hu : u.length ≤ 9000) : Got [] (PL u 1 0) 0 (F_tlv_reader_items (ofN (xlen u)) 1 0 0 0 u) := by
  obtain ⟨l, E, P, k1, k2, h1, h2⟩ := items_ok (u.length + 1) u 1 0 0 (by omega) (by omega) (by omega)
  refine ⟨l, E, P, k1, k2, ?_, h2⟩
  rw [Nat.zero_add] at h1
  exact fix_tlv_reader_items _ _ _ _ _ _ h1
/-- What is got. -/
def getR (s : List UInt8) : List D × Int × Int := if 8192 < s.length then ([], 14, 0) else (dL (PL s 1 0).1, (PL s 1 0).2.1, ((PL s 1 0).2.2 : Int))
theorem get_tail {u : List UInt8} (hu : u.length ≤ 8192) : (match F_tlv_reader_items (ofN (xlen u)) 1 0 0 0 u with
    | none => none
    | some (q1, y1, y2, k1, k2, y3) => if (ieq y1 (0 : Int)) = true then some (q1, (0 : Int), (0 : Int)) else some (([] : List D), y1, y2)) = some (getR u) := by
  obtain ⟨l, E, P, k1, k2, h1, h2, h3⟩ := p_items (u := u) (by omega)
  obtain ⟨o1, o2⟩ := PL_ok _ u 1 0 (Nat.lt_succ_self _)
  have eR : getR u = (dL (PL u 1 0).1, (PL u 1 0).2.1, ((PL u 1 0).2.2 : Int)) := by unfold getR; rw [if_neg (by omega)]
  rw [h1, eR]
  dsimp only
  by_cases c : (PL u 1 0).2.1 = 0
  · obtain ⟨g1, g2, g3⟩ := h2 c
    rw [g2, if_pos (by rw [pieq]), g1, c, o2 c]
    rfl
  · obtain ⟨g1, g2⟩ := h3 c
    rw [if_neg (by rw [pieq, g1]; exact c), g1, g2, o1 c]
    rfl
theorem p_tget {s : List UInt8} (hs : s.length ≤ 1000000) : F_tlv_Get s = some (getR s) := by
  unfold F_tlv_Get
  by_cases c : 8192 < s.length
  · rw [if_pos (by rw [pilt]; simp only [ofN, xlen]; omega)]
    unfold getR
    rw [if_pos c]
  · rw [if_neg (by rw [pilt]; simp only [ofN, xlen]; omega), p_open hs]
    exact get_tail (by omega)
theorem p_tget2 {s : List UInt8} (hs : s.length ≤ 1000000) : F_tlv_Get_2 s = some (getR s) := p_tget hs
theorem p_tget3 {s : List UInt8} {n1 n2 : Nat} (h : n1 + n2 ≤ s.length) (hs : s.length ≤ 1000000) : F_tlv_Get_3 n1 n2 s = some (getR (lsub s n1 n2)) := by
  have hl : (lsub s n1 n2).length = n2 := by simp [lsub]; omega
  have e : F_tlv_Get_3 n1 n2 s = F_tlv_Get (lsub s n1 n2) := by
    unfold F_tlv_Get_3 F_tlv_Get
    simp only [xlen, hl]
  rw [e]
  exact p_tget (by omega)
theorem p_trget' {s : List UInt8} (hs : s.length ≤ 9000) : F_tollbarref03_Get s = some (getR s) := p_trget hs
end Go.Proofs.Ytknaheioedkaeaa
end
section
/-
  The laws of chapter 3, in plain words.
-/
set_option linter.unusedVariables false
set_option linter.unusedSimpArgs false
namespace Go.Proofs.Ytknaheioedkaeaa

theorem inn_odd {x : Itm} (c : x.t % 2 = 1) : inn x = encL x.k := by unfold inn; rw [if_pos c]
theorem inn_even {x : Itm} (c : ¬ x.t % 2 = 1) : inn x = x.b := by unfold inn; rw [if_neg c]
theorem itm_odd {x : Itm} (h : x.b = []) : x = .mk x.t [] x.k := by cases x; simp only [Itm.b] at h; subst h; rfl
theorem itm_even {x : Itm} (h : x.k = []) : x = .mk x.t x.b [] := by cases x; simp only [Itm.k] at h; subst h; rfl
theorem putV_ne (x : Nat) : putV x ≠ [] := by
  intro h
  have := putV_ld x []
  rw [h] at this
  simp at this
/-- What stands at the front of an item and more. -/
theorem head_at {x : Itm} {s r : List UInt8} (hw : wfI x) (hs : szI x ≤ 1000000000) (h : s = putV x.t ++ (putV (inn x).length ++ r)) :
    s ≠ [] ∧ getV s = ((x.t : Int), (((putV x.t).length : Nat) : Int), 0) ∧ 1 ≤ (putV x.t).length ∧ getV (s.drop (putV x.t).length) = (((inn x).length : Int), (((putV (inn x).length).length : Nat) : Int), 0) ∧ s.drop ((putV x.t).length + (putV (inn x).length).length) = r := by
  have hin := inn_le hw hs
  have e1 : s.drop (putV x.t).length = putV (inn x).length ++ r := by rw [h, List.drop_left]
  refine ⟨?_, ?_, (putV_10 (wfk hw).1).1, ?_, ?_⟩
  · rw [h]
    have := putV_ne x.t
    simp [this]
  · rw [h]; exact getV_put (wfk hw).1 _
  · rw [e1]; exact getV_put (by omega) _
  · rw [← List.drop_drop, e1, List.drop_left]
/-- What was put is got. -/
theorem PL_enc (N : Nat) : ∀ (l : List Itm) (n at_ : Nat), wfL l → szL l ≤ 1000000000 → okL n l = true → (encL l).length < N → PL (encL l) n at_ = (l, 0, 0) := by
  induction N with
  | zero => intro l n at_ _ _ _ h; omega
  | succ N ih =>
    intro l n at_ hw hs hk hN
    cases l with
    | nil => simp only [encL]; exact PL_nil
    | cons x l =>
      simp only [wfL] at hw
      simp only [szL] at hs
      have o := ok_at (l := x :: l) (i := 0) (by simp) hk
      simp only [List.getElem_cons_zero] at o
      rw [ok_cons, Bool.and_eq_true] at hk
      have es : encL (x :: l) = putV x.t ++ (putV (inn x).length ++ (inn x ++ encL l)) := by
        simp only [encL]; rw [encI_inn]; simp only [List.append_assoc]
      have hsk := szk x
      obtain ⟨h0, h1, h2, h3, h4⟩ := head_at hw.1 (by omega) es
      have hlen : (encL (x :: l)).length = (putV x.t).length + ((putV (inn x).length).length + ((inn x).length + (encL l).length)) := by rw [es]; simp only [List.length_append]
      have i1 := ih l n (at_ + (putV x.t).length + (putV (inn x).length).length + (inn x).length) hw.2 (by omega) hk.2 (by omega)
      have hns : ¬ ((encL (x :: l)).drop ((putV x.t).length + (putV (inn x).length).length)).length < (inn x).length := by rw [h4]; simp
      have d1 : ((encL (x :: l)).drop ((putV x.t).length + (putV (inn x).length).length)).drop (inn x).length = encL l := by rw [h4, List.drop_left]
      have d2 : ((encL (x :: l)).drop ((putV x.t).length + (putV (inn x).length).length)).take (inn x).length = inn x := by rw [h4, List.take_left]
      have hd6 : ¬ 6 < n := by have := o.deep; omega
      by_cases c : x.t % 2 = 1
      · have i2 := ih x.k (n + 1) (at_ + (putV x.t).length + (putV (inn x).length).length) (wfk hw.1).2 (by omega) o.kids (by rw [← inn_odd c]; omega)
        rw [← inn_odd c] at i2
        rw [PL_odd (q := (x.k, 0, 0)) h0 h1 h2 h3 hns hd6 c (by rw [d2]; exact i2), d1, i1, if_neg (by simp)]
        simp only [bnd]
        rw [if_neg (by simp), ← itm_odd (o.odd c)]
      · rw [PL_even h0 h1 h2 h3 hns hd6 c, d1, d2, i1]
        simp only [bnd]
        rw [if_neg (by simp), inn_even c, ← itm_even (o.even c)]
/-- What is got is put as the very bytes. -/
theorem PL_own (N : Nat) : ∀ (s : List UInt8) (n at_ : Nat), s.length < N → (PL s n at_).2.1 = 0 → encL (PL s n at_).1 = s ∧ okL n (PL s n at_).1 = true := by
  induction N with
  | zero => intro s n at_ h; omega
  | succ N ih =>
    intro s n at_ hN he0
    by_cases h0 : s = []
    · subst h0; rw [PL_nil]; simp [encL, okL]
    · rcases hd s with ⟨e, he, hg⟩ | ⟨v, k, hv, h1, h2, hg, hp, e, he, hl⟩ | ⟨v, k, L, m, hv, h1, h2, hg, hp, hL, h3, h4, hl, hq⟩
      · rw [PL_tag h0 he hg] at he0; exact absurd he0 he
      · rw [PL_long h0 hg he hl] at he0; exact absurd he0 he
      · by_cases c1 : (s.drop (k + m)).length < L
        · rw [PL_short h0 hg hl c1] at he0; simp at he0
        · by_cases c2 : 6 < n
          · rw [PL_deep h0 hg hl c1 c2] at he0; simp at he0
          · have hlen : (s.drop (k + m)).length = s.length - (k + m) := by simp
            have hr := ih ((s.drop (k + m)).drop L) n (at_ + k + m + L) (by rw [List.length_drop]; omega)
            have esp : s = putV v ++ (putV L ++ ((s.drop (k + m)).take L ++ (s.drop (k + m)).drop L)) := by
              rw [List.take_append_drop, hp, hq, ← List.drop_drop, List.take_append_drop, List.take_append_drop]
            have fin4 : ∀ x : Itm, encI x = putV v ++ (putV L ++ (s.drop (k + m)).take L) → okI n x = true → (bnd x (PL ((s.drop (k + m)).drop L) n (at_ + k + m + L))).2.1 = 0 →
                encL (bnd x (PL ((s.drop (k + m)).drop L) n (at_ + k + m + L))).1 = s ∧ okL n (bnd x (PL ((s.drop (k + m)).drop L) n (at_ + k + m + L))).1 = true := by
              intro x hx1 hx2 hx3
              by_cases c : (PL ((s.drop (k + m)).drop L) n (at_ + k + m + L)).2.1 = 0
              · obtain ⟨r1, r2⟩ := hr c
                have eb : bnd x (PL ((s.drop (k + m)).drop L) n (at_ + k + m + L)) = (x :: (PL ((s.drop (k + m)).drop L) n (at_ + k + m + L)).1, 0, 0) := by unfold bnd; rw [if_neg (fun q => q c)]
                rw [eb]
                show encL (x :: _) = s ∧ okL n (x :: _) = true
                rw [ok_cons, hx2, r2]
                refine ⟨?_, rfl⟩
                show encI x ++ encL _ = s
                rw [r1, hx1]
                simp only [List.append_assoc]
                exact esp.symm
              · exfalso
                unfold bnd at hx3
                rw [if_pos c] at hx3
                exact c hx3
            have hin : ((s.drop (k + m)).take L).length = L := by rw [List.length_take]; omega
            by_cases c3 : v % 2 = 1
            · have hi := ih ((s.drop (k + m)).take L) (n + 1) (at_ + k + m) (by omega)
              rw [PL_odd h0 hg h1 hl c1 c2 c3 rfl] at he0 ⊢
              by_cases c4 : (PL ((s.drop (k + m)).take L) (n + 1) (at_ + k + m)).2.1 = 0
              · obtain ⟨r1, r2⟩ := hi c4
                rw [if_neg (by simp [c4])] at he0 ⊢
                refine fin4 _ ?_ ?_ he0
                · simp only [encI, if_pos c3]
                  rw [r1, hin]
                · rw [okI_iff]
                  exact ⟨fun _ => rfl, fun c => absurd c3 c, by omega, r2⟩
              · rw [if_pos c4] at he0; exact absurd he0 c4
            · rw [PL_even h0 hg h1 hl c1 c2 c3] at he0 ⊢
              refine fin4 _ ?_ ?_ he0
              · simp only [encI, if_neg c3]
                rw [hin]
              · rw [okI_iff]
                exact ⟨fun c => absurd c c3, fun _ => rfl, by omega, by simp only [Itm.k, okL]⟩
theorem PL_place (N : Nat) : ∀ (s : List UInt8) (n at_ : Nat), s.length < N → (PL s n at_).2.2 ≤ at_ + s.length := by
  induction N with
  | zero => intro s n at_ h; omega
  | succ N ih =>
    intro s n at_ hN
    by_cases h0 : s = []
    · subst h0; rw [PL_nil]; simp
    · rcases hd s with ⟨e, he, hg⟩ | ⟨v, k, hv, h1, h2, hg, hp, e, he, hl⟩ | ⟨v, k, L, m, hv, h1, h2, hg, hp, hL, h3, h4, hl, hq⟩
      · rw [PL_tag h0 he hg]; simp
      · rw [PL_long h0 hg he hl]; simp; omega
      · by_cases c1 : (s.drop (k + m)).length < L
        · rw [PL_short h0 hg hl c1]; simp; omega
        · by_cases c2 : 6 < n
          · rw [PL_deep h0 hg hl c1 c2]; simp
          · have hlen : (s.drop (k + m)).length = s.length - (k + m) := by simp
            have hr := ih ((s.drop (k + m)).drop L) n (at_ + k + m + L) (by rw [List.length_drop]; omega)
            rw [List.length_drop, hlen] at hr
            have hb : ∀ x, (bnd x (PL ((s.drop (k + m)).drop L) n (at_ + k + m + L))).2.2 ≤ at_ + s.length := by
              intro x
              unfold bnd
              split
              · dsimp only; omega
              · dsimp only; omega
            by_cases c3 : v % 2 = 1
            · rw [PL_odd h0 hg h1 hl c1 c2 c3 rfl]
              have hi := ih ((s.drop (k + m)).take L) (n + 1) (at_ + k + m) (by rw [List.length_take]; omega)
              rw [List.length_take, hlen] at hi
              split
              · dsimp only; omega
              · exact hb _
            · rw [PL_even h0 hg h1 hl c1 c2 c3]
              exact hb _
theorem enc_pos {x : Itm} {l : List Itm} : 0 < (encL (x :: l)).length := by
  have := List.length_pos_iff.2 (putV_ne x.t)
  simp only [encL, List.length_append]
  rw [encI_inn]
  simp only [List.length_append]
  omega
/-- A byte less is short. -/
theorem PL_cut (N : Nat) : ∀ (l : List Itm) (n at_ : Nat), wfL l → szL l ≤ 1000000000 → okL n l = true → l ≠ [] → (encL l).length < N → (PL ((encL l).take ((encL l).length - 1)) n at_).2.1 = 10 := by
  induction N with
  | zero => intro l n at_ _ _ _ _ h; omega
  | succ N ih =>
    intro l n at_ hw hs hk hne hN
    cases l with
    | nil => exact absurd rfl hne
    | cons x l =>
      simp only [wfL] at hw
      simp only [szL] at hs
      have o := ok_at (l := x :: l) (i := 0) (by simp) hk
      simp only [List.getElem_cons_zero] at o
      rw [ok_cons, Bool.and_eq_true] at hk
      have hsk := szk x
      have es : encL (x :: l) = putV x.t ++ (putV (inn x).length ++ (inn x ++ encL l)) := by
        simp only [encL]; rw [encI_inn]; simp only [List.append_assoc]
      have hlen : (encL (x :: l)).length = (putV x.t).length + ((putV (inn x).length).length + ((inn x).length + (encL l).length)) := by rw [es]; simp only [List.length_append]
      have hd6 : ¬ 6 < n := by have := o.deep; omega
      by_cases hr : inn x ++ encL l = []
      · -- the length's last byte is cut off
        have hi0 : (inn x).length = 0 := by have := congrArg List.length hr; simp only [List.length_append, List.length_nil] at this; omega
        have hl0 : (encL l).length = 0 := by have := congrArg List.length hr; simp only [List.length_append, List.length_nil] at this; omega
        have hp0 : putV 0 = [0] := putV_lo (by omega)
        have ecut : (encL (x :: l)).take ((encL (x :: l)).length - 1) = putV x.t := by
          rw [hlen, hi0, hp0, es, hr, hi0, hp0, List.append_nil, hl0]
          simp
        have hg : getV (putV x.t) = ((x.t : Int), (((putV x.t).length : Nat) : Int), 0) := by have := getV_put (wfk hw.1).1 []; rwa [List.append_nil] at this
        have hl : getV ((putV x.t).drop (putV x.t).length) = (0, 0, 10) := by
          rw [List.drop_length]
          exact getV_short (by simp [ld]) (by simp [ld])
        rw [ecut, PL_long (putV_ne _) hg (by decide) hl]
      · have hrl : 0 < (inn x ++ encL l).length := List.length_pos_iff.2 hr
        have hrl2 : 0 < (inn x).length + (encL l).length := by simpa only [List.length_append] using hrl
        have ecut : (encL (x :: l)).take ((encL (x :: l)).length - 1) = putV x.t ++ (putV (inn x).length ++ (inn x ++ encL l).take ((inn x ++ encL l).length - 1)) := by
          rw [hlen, es, List.take_append, List.take_append, List.take_of_length_le (l := putV x.t) (by omega), List.take_of_length_le (l := putV (inn x).length) (by simp only [List.length_append] at hrl; omega)]
          congr 3
          simp only [List.length_append] at hrl ⊢
          omega
        obtain ⟨h0, h1, h2, h3, h4⟩ := head_at hw.1 (by omega) ecut
        generalize hcs : (encL (x :: l)).take ((encL (x :: l)).length - 1) = cs at *
        cases l with
        | nil =>
          -- the content is short
          have e0 : inn x ++ encL [] = inn x := by simp [encL]
          rw [e0] at h4 hrl
          have hsh : (cs.drop ((putV x.t).length + (putV (inn x).length).length)).length < (inn x).length := by rw [h4, List.length_take]; omega
          rw [PL_short h0 h1 h3 hsh]
        | cons y l =>
          have hyl := enc_pos (x := y) (l := l)
          have e1 : (inn x ++ encL (y :: l)).take ((inn x ++ encL (y :: l)).length - 1) = inn x ++ (encL (y :: l)).take ((encL (y :: l)).length - 1) := by
            rw [List.length_append, List.take_append, List.take_of_length_le (l := inn x) (by omega)]
            congr 2
            omega
          rw [e1] at h4
          have hns : ¬ (cs.drop ((putV x.t).length + (putV (inn x).length).length)).length < (inn x).length := by rw [h4]; simp
          have d1 : (cs.drop ((putV x.t).length + (putV (inn x).length).length)).drop (inn x).length = (encL (y :: l)).take ((encL (y :: l)).length - 1) := by rw [h4, List.drop_left]
          have d2 : (cs.drop ((putV x.t).length + (putV (inn x).length).length)).take (inn x).length = inn x := by rw [h4, List.take_left]
          have i1 := ih (y :: l) n (at_ + (putV x.t).length + (putV (inn x).length).length + (inn x).length) hw.2 (by omega) hk.2 (by simp) (by omega)
          have hb : ∀ z, (bnd z (PL ((encL (y :: l)).take ((encL (y :: l)).length - 1)) n (at_ + (putV x.t).length + (putV (inn x).length).length + (inn x).length))).2.1 = 10 := by
            intro z
            unfold bnd
            rw [i1, if_pos (by decide)]
          by_cases c : x.t % 2 = 1
          · have i2 := PL_enc ((encL x.k).length + 1) x.k (n + 1) (at_ + (putV x.t).length + (putV (inn x).length).length) (wfk hw.1).2 (by omega) o.kids (by omega)
            rw [← inn_odd c] at i2
            rw [PL_odd (q := (x.k, 0, 0)) h0 h1 h2 h3 hns hd6 c (by rw [d2]; exact i2), d1, if_neg (by simp)]
            exact hb _
          · rw [PL_even h0 h1 h2 h3 hns hd6 c, d1]
            exact hb _

theorem getR_enc {l : List Itm} (hw : wfL l) (hs : szL l ≤ 1000000000) (hk : ckL l = true) : getR (encL l) = (dL l, 0, 0) := by
  unfold ckL at hk
  rw [Bool.and_eq_true, decide_eq_true_iff] at hk
  unfold getR
  rw [if_neg (by omega), PL_enc _ l 1 0 hw hs hk.1 (Nat.lt_succ_self _)]
  rfl
theorem getR_rep (s : List UInt8) (hs : s.length ≤ 9000) : ∃ l, (getR s).1 = dL l ∧ wfL l ∧ szL l ≤ 1000000000 := by
  unfold getR
  split
  · exact ⟨[], by simp [dL], by simp [wfL], by simp [szL]⟩
  · exact ⟨_, rfl, PL_wf s 1 0, by have := PL_sz s 1 0; omega⟩

/-! The document's example. -/
def lA : List Itm := [.mk 1 [] [.mk 2 [97] []]]
def lB : List Itm := [.mk 1 [97] []]
theorem encA : encL lA = [1, 3, 2, 1, 97] := by
  have p1 : putV 1 = [1] := putV_lo (by omega)
  have p2 : putV 2 = [2] := putV_lo (by omega)
  have p3 : putV 3 = [3] := putV_lo (by omega)
  simp [lA, encL, encI, p1, p2, p3]
theorem ckA : ckL lA = true := by
  unfold ckL
  rw [encA]
  simp [lA, okL, okI]
theorem ckB : ckL lB = false := by
  unfold ckL
  simp [lB, okL, okI]
theorem dLA : ([(D.l [(D.i (1 : Int)), (D.s ([] : List UInt8)), (D.l ([(D.l [(D.i (2 : Int)), (D.s (byteOf (97 : Int) :: ([] : List UInt8))), (D.l ([] : List D))])] : List D))])] : List D) = dL lA := by
  have h97 : byteOf (97 : Int) = 97 := by decide
  rw [h97]
  simp [lA, dL, dI]
theorem dLB : ([(D.l [(D.i (1 : Int)), (D.s (byteOf (97 : Int) :: ([] : List UInt8))), (D.l ([] : List D))])] : List D) = dL lB := by
  have h97 : byteOf (97 : Int) = 97 := by decide
  rw [h97]
  simp [lB, dL, dI]
theorem szA : szL lA ≤ 1000000000 := by simp [lA, szL, szI]
theorem wfA : wfL lA := by simp [lA, wfL, wfI]
theorem szB : szL lB ≤ 1000000000 := by simp [lB, szL, szI]
theorem wfB : wfL lB := by simp [lB, wfL, wfI]
theorem get251 : getR [2, 5, 1] = ([], 10, 2) := by
  have p2 : putV 2 = [2] := putV_lo (by omega)
  have p5 : putV 5 = [5] := putV_lo (by omega)
  have g1 : getV [2, 5, 1] = (((2 : Nat) : Int), ((1 : Nat) : Int), 0) := by have := getV_put (x := 2) (by omega) [5, 1]; rw [p2] at this; exact this
  have g2 : getV (([2, 5, 1] : List UInt8).drop 1) = (((5 : Nat) : Int), ((1 : Nat) : Int), 0) := by have := getV_put (x := 5) (by omega) [1]; rw [p5] at this; exact this
  unfold getR
  rw [if_neg (by decide), PL_short (by decide) g1 g2 (by decide)]
  simp [dL]
theorem p_awake : F_tollbarlaw03_awake = some true := by
  have b1 : byteOf (1 : Int) = 1 := by decide
  have b2 : byteOf (2 : Int) = 2 := by decide
  have b3 : byteOf (3 : Int) = 3 := by decide
  have b5 : byteOf (5 : Int) = 5 := by decide
  have b97 : byteOf (97 : Int) = 97 := by decide
  have hA := repL_dL lA
  unfold F_tollbarlaw03_awake
  rw [dLA, dLB, b1, b2, b3, b5, b97, if_pos (by decide), if_pos (by decide), p_tput hA wfA szA, if_pos ckA]
  dsimp only
  rw [if_pos (by decide), if_pos (by decide), if_pos (by decide), if_pos (by decide), if_pos (by decide), p_tget (by decide), ← encA, getR_enc wfA szA ckA]
  dsimp only
  rw [if_pos (by decide), if_pos (by decide), if_pos (by decide), p_tget (by decide), get251]
  dsimp only
  have e1 : xlen (dL lA) = 1 := by simp [lA, dL, xlen]
  have e2 : xlen (D.toL (D.fld (getD (dL lA) (toN 0)) 2)) = 1 := by simp [lA, dL, dI, xlen, getD, toN, D.fld, D.toL]
  rw [if_pos (by rw [pseq]), if_pos (by decide), e1, if_pos (by decide), if_pos (by decide), e2, if_pos (by decide), if_pos (by decide), if_pos (by decide), if_pos (by decide), p_check hA wfA szA, ckA]
  dsimp only
  rw [if_pos rfl, p_size hA wfA szA, encA]
  dsimp only
  rw [if_pos (by decide), if_pos (by decide), if_pos (by decide), p_check (repL_dL lB) wfB szB, ckB]
  rfl

/-! What is got. -/
theorem gets_law {s : List UInt8} : F_tollbarlaw03_TlvGets s = some true := by
  unfold F_tollbarlaw03_TlvGets
  rw [p_awake]
  dsimp only
  rw [if_pos rfl]
  by_cases c : 9000 < s.length
  · rw [if_pos (by rw [pilt]; simp only [ofN, xlen]; omega)]
  · obtain ⟨l, e1, hw, hs⟩ := getR_rep s (by omega)
    rw [if_neg (by rw [pilt]; simp only [ofN, xlen]; omega), p_tget2 (by omega), p_trget' (by omega)]
    dsimp only
    rw [e1, p_plain (repL_dL l) hs]
    dsimp only
    rw [p_same (repL_dL l) (repL_dL l) hs]
    dsimp only
    rw [if_pos rfl, if_pos (by rw [pieq])]
    simp [ieq]
theorem p_TlvGets (s : List UInt8) (h1 : (Ty.bytes 5).rng (.s s)) : F_tollbarlaw03_TlvGets s = some true := gets_law
theorem own_law {s : List UInt8} : F_tollbarlaw03_TlvOwn s = some true := by
  unfold F_tollbarlaw03_TlvOwn
  rw [p_awake]
  dsimp only
  rw [if_pos rfl]
  by_cases c : 9000 < s.length
  · rw [if_pos (by rw [pilt]; simp only [ofN, xlen]; omega)]
  · rw [if_neg (by rw [pilt]; simp only [ofN, xlen]; omega), p_tget2 (by omega)]
    unfold getR
    by_cases c2 : 8192 < s.length
    · rw [if_pos c2]
      dsimp only
      have e9 : ile (0 : Int) (ofN (xlen s)) = true := by rw [pile]; simp only [ofN, xlen]; omega
      rw [if_neg (by decide), if_pos (by decide), if_pos (by decide), e9]
    · rw [if_neg c2]
      dsimp only
      obtain ⟨o1, o2⟩ := PL_ok _ s 1 0 (Nat.lt_succ_self _)
      by_cases c3 : (PL s 1 0).2.1 = 0
      · obtain ⟨g1, g2⟩ := PL_own _ s 1 0 (Nat.lt_succ_self _) c3
        have hw := PL_wf s 1 0
        have hs : szL (PL s 1 0).1 ≤ 1000000000 := by have := PL_sz s 1 0; omega
        have hk : ckL (PL s 1 0).1 = true := by
          unfold ckL
          rw [g1, g2, decide_eq_true (by omega)]
          rfl
        rw [if_pos (by rw [pieq]; exact c3), p_tput (repL_dL _) hw hs, if_pos hk, g1]
        dsimp only
        rw [if_pos (by decide), if_pos (by rw [pseq]), p_check (repL_dL _) hw hs, hk]
        dsimp only
        rw [if_pos rfl, o2 c3]
        rfl
      · have hp := PL_place _ s 1 0 (Nat.lt_succ_self _)
        rw [if_neg (by rw [pieq]; exact c3), o1 c3, if_pos (by simp [dL, pieq, ofN, xlen]), if_pos (by rw [pile]; omega)]
        congr 1
        rw [pile]
        simp only [ofN, xlen]
        omega
theorem p_TlvOwn (s : List UInt8) (h1 : (Ty.bytes 5).rng (.s s)) : F_tollbarlaw03_TlvOwn s = some true := own_law

/-! How deep. -/
theorem p_or1 {x : Int} (h : U x) : ∃ t : Nat, ior .u64 x 1 = (t : Int) ∧ t % 2 = 1 ∧ t < 18446744073709551616 := by
  obtain ⟨n, rfl⟩ : ∃ n : Nat, x = (n : Int) := ⟨x.toNat, by have := h.lo; omega⟩
  have hn : n < 18446744073709551616 := by have := h.hi; omega
  have e1 : (BitVec.ofInt 64 (n : Int)).toNat = n := by rw [BitVec.toNat_ofInt]; omega
  have e2 : (BitVec.ofInt 64 1).toNat = 1 := by decide
  have e : (BitVec.ofInt 64 (n : Int) ||| BitVec.ofInt 64 1).toNat = n ||| 1 := by rw [BitVec.toNat_or, e1, e2]
  have hlt : n ||| 1 < 18446744073709551616 := Nat.or_lt_two_pow (n := 64) hn (by decide)
  refine ⟨n ||| 1, ?_, ?_, hlt⟩
  · show IntKind.u64.wrap (((BitVec.ofInt 64 (n : Int) ||| BitVec.ofInt 64 1).toNat : Nat) : Int) = _
    rw [e]
    exact pu64 (by omega) (by omega)
  · have : (n ||| 1) % 2 = 1 := by
      rw [← Nat.and_one_is_mod, Nat.and_or_distrib_right]
      simp
      have := Nat.mod_two_eq_zero_or_one n
      rcases this with h | h <;> simp [h]
    exact this
theorem deep_loop {l1 : List Int} (hl : l1.length ≤ 12) (hU : ∀ x ∈ l1, U x) : ∀ (m i : Nat) (l : List Itm), i + m = l1.length → wfL l → szL l ≤ 400 + 20 * i → (∀ n, okL n l = decide (n + i ≤ 6)) →
    iter (F_tollbarlaw03_TlvDeep_L1 l1) ((i : Int), dL l) = some true := by
  intro m
  induction m with
  | zero =>
    intro i l hi hw hs hk
    apply iter_inr
    have hs2 : szL l ≤ 1000000000 := by omega
    have hlen := enc_leL l hw hs2
    have hck : ckL l = decide (i < 6) := by
      unfold ckL
      rw [hk, decide_eq_true (p := (encL l).length ≤ 8192) (by omega), Bool.and_true]
      congr 1
      exact propext ⟨fun h => by omega, fun h => by omega⟩
    have hil : ilt (ofN (xlen l1)) 6 = decide (i < 6) := by
      simp only [ilt, ofN, xlen]
      congr 1
      exact propext ⟨fun h => by omega, fun h => by omega⟩
    unfold F_tollbarlaw03_TlvDeep_L1
    dsimp only
    rw [if_neg (by rw [pilt]; simp only [ofN, xlen]; omega), p_tput (repL_dL l) hw hs2]
    by_cases c : i < 6
    · rw [if_pos (by rw [hck]; simp [c])]
      dsimp only
      rw [hil, decide_eq_true c, if_pos (by decide), p_check (repL_dL l) hw hs2, hck, decide_eq_true c]
      dsimp only
      rw [if_pos (by decide), if_pos rfl, p_tget (by omega), getR_enc hw hs2 (by rw [hck]; simp [c])]
      dsimp only
      rw [if_pos (by decide), p_plain (repL_dL l) hs2]
      dsimp only
      rw [p_same (repL_dL l) (repL_dL l) hs2]
    · rw [if_neg (by rw [hck]; simp [c])]
      dsimp only
      rw [hil, decide_eq_false c, if_pos (by decide), p_check (repL_dL l) hw hs2, hck, decide_eq_false c]
      dsimp only
      rw [if_pos (by decide), if_neg (by decide)]
      rfl
  | succ m ih =>
    intro i l hi hw hs hk
    have hi' : i < l1.length := by omega
    obtain ⟨t, h1, h2, h3⟩ := p_or1 (hU _ (List.getElem_mem hi'))
    rw [← ih (i + 1) [.mk t [] l] (by omega) (by simp only [wfL, wfI]; exact ⟨⟨h3, hw⟩, trivial⟩) (by simp only [szL, szI, List.length_nil]; omega) (fun n => by
      have a1 : okI n (.mk t [] l) = (decide (n ≤ 6) && okL (n + 1) l) := by rw [okI_eq]; simp [Itm.t, Itm.b, Itm.k, h2]
      rw [ok_cons, a1, hk]
      simp only [okL, Bool.and_true]
      by_cases c : n + (i + 1) ≤ 6
      · rw [decide_eq_true c, decide_eq_true (by omega), decide_eq_true (by omega)]; rfl
      · rw [decide_eq_false c, decide_eq_false (p := n + 1 + i ≤ 6) (by omega), Bool.and_false])]
    apply iter_inl
    unfold F_tollbarlaw03_TlvDeep_L1
    dsimp only
    rw [if_pos (by rw [pilt]; simp only [ofN, xlen]; omega), if_pos (by simp only [ofN, xlen]; omega), ptoN, pgetI hi', h1, pnext (by omega)]
    simp only [dL, dI]
theorem deep_law {l1 : List Int} {s : List UInt8} (hU : ∀ x ∈ l1, U x) : F_tollbarlaw03_TlvDeep l1 s = some true := by
  unfold F_tollbarlaw03_TlvDeep
  rw [p_awake]
  dsimp only
  rw [if_pos rfl]
  by_cases c : 12 < l1.length
  · rw [if_pos (by rw [pilt]; simp only [ofN, xlen]; omega)]
  · rw [if_neg (by rw [pilt]; simp only [ofN, xlen]; omega)]
    by_cases c2 : 300 < s.length
    · rw [if_pos (by rw [pilt]; simp only [ofN, xlen]; omega)]
    · rw [if_neg (by rw [pilt]; simp only [ofN, xlen]; omega)]
      have := deep_loop (by omega) hU l1.length 0 [.mk 2 s []] (by omega) (by simp [wfL, wfI]) (by simp only [szL, szI]; omega) (fun n => by
        simp only [okL, okI, Bool.and_true]
        simp)
      simpa [dL, dI] using this
theorem p_TlvDeep (l : List Int) (s : List UInt8) (h1 : (Ty.ints 44 .u64).rng (.is l)) (h2 : (Ty.bytes 5).rng (.s s)) : F_tollbarlaw03_TlvDeep l s = some true :=
  deep_law (fun x hx => wf_U (h1.2 x hx))
end Go.Proofs.Ytknaheioedkaeaa
end
section
/-
  TlvPuts and TlvBack, in plain words.
-/
set_option linter.unusedVariables false
set_option linter.unusedSimpArgs false
namespace Go.Proofs.Ytknaheioedkaeaa

theorem puts_law {l : List Itm} {r : List D} (hR : RepL l r) (hw : wfL l) (hs : szL l ≤ 100000000) : F_tollbarlaw03_TlvPuts r = some true := by
  have hs2 : szL l ≤ 1000000000 := by omega
  unfold F_tollbarlaw03_TlvPuts
  rw [p_awake]
  dsimp only
  rw [if_pos rfl, p_many hR hs2]
  dsimp only
  by_cases c : 300 < l.length + mnS l
  · rw [if_pos (by rw [pilt]; omega)]
  · have hD := repL_dL l
    rw [if_neg (by rw [pilt]; omega), p_plain hR hs2]
    dsimp only
    rw [p_tput hR hw hs2]
    by_cases ck : ckL l = true
    · rw [if_pos ck]
      dsimp only
      rw [p_trput hD hw hs2, if_pos ck]
      dsimp only
      rw [p_check hR hw hs2]
      dsimp only
      rw [p_rcheck hD hw hs2]
      dsimp only
      rw [if_pos (by rw [pbeq2]), p_size hR hw hs2]
      dsimp only
      rw [p_all hD hw hs2]
      dsimp only
      rw [if_pos (by rw [pieq]; rfl), if_pos (by rw [pseq])]
      rfl
    · rw [if_neg ck]
      dsimp only
      rw [p_trput hD hw hs2, if_neg ck]
      dsimp only
      rw [p_check hR hw hs2]
      dsimp only
      rw [p_rcheck hD hw hs2]
      dsimp only
      rw [if_pos (by rw [pbeq2]), p_size hR hw hs2]
      dsimp only
      rw [p_all hD hw hs2]
      dsimp only
      rw [if_pos (by rw [pieq]; rfl), if_pos (by rw [pseq])]
      rfl
theorem get_cut {m : List Itm} (hw : wfL m) (hs : szL m ≤ 1000000000) (hk : ckL m = true) (hne : m ≠ []) :
    ∃ q y, F_tlv_Get_3 0 (toN (isub .i64 (ofN (xlen (encL m))) 1)) (encL m) = some (q, 10, y) ∧ 0 ≤ y ∧ y ≤ ((encL m).length : Int) := by
  unfold ckL at hk
  rw [Bool.and_eq_true, decide_eq_true_iff] at hk
  have hpos : 0 < (encL m).length := by
    cases m with
    | nil => exact absurd rfl hne
    | cons x l => exact enc_pos
  have e1 : toN (isub .i64 (ofN (xlen (encL m))) 1) = (encL m).length - 1 := by
    simp only [isub, ofN, xlen]
    rw [pwi64 (by omega) (by omega)]
    simp only [toN]
    omega
  rw [e1, p_tget3 (by omega) (by omega)]
  have e2 : lsub (encL m) 0 ((encL m).length - 1) = (encL m).take ((encL m).length - 1) := rfl
  rw [e2]
  have hcl : ((encL m).take ((encL m).length - 1)).length = (encL m).length - 1 := by rw [List.length_take]; omega
  have hc := PL_cut _ m 1 0 hw hs hk.1 hne (Nat.lt_succ_self _)
  have hp := PL_place _ ((encL m).take ((encL m).length - 1)) 1 0 (Nat.lt_succ_self _)
  unfold getR
  rw [if_neg (by omega), hc]
  exact ⟨_, _, rfl, by omega, by omega⟩
theorem back_law {l m : List Itm} {r q : List D} (hR : RepL l r) (hQ : RepL m q) (hw : wfL l) (hw2 : wfL m) (hs : szL l ≤ 100000000) (hs2 : szL m ≤ 100000000) : F_tollbarlaw03_TlvBack r q = some true := by
  have h1 : szL l ≤ 1000000000 := by omega
  have h2 : szL m ≤ 1000000000 := by omega
  have he : ∀ x : Int, ieq x x = true := fun x => by rw [pieq]
  unfold F_tollbarlaw03_TlvBack
  rw [p_awake]
  dsimp only
  rw [if_pos rfl, p_many hR h1]
  dsimp only
  by_cases c1 : 200 < l.length + mnS l
  · rw [if_pos (by rw [pilt]; omega)]
  · rw [if_neg (by rw [pilt]; omega), p_many hQ h2]
    dsimp only
    by_cases c2 : 200 < m.length + mnS m
    · rw [if_pos (by rw [pilt]; omega)]
    · rw [if_neg (by rw [pilt]; omega), p_tput hR hw h1]
      by_cases k1 : ckL l = true
      · rw [if_pos k1]
        dsimp only
        rw [p_tput hQ hw2 h2]
        by_cases k2 : ckL m = true
        · have k1' := k1
          have k2' := k2
          unfold ckL at k1' k2'
          rw [Bool.and_eq_true, decide_eq_true_iff] at k1' k2'
          rw [if_pos k2]
          dsimp only
          rw [if_pos (he _), if_pos (he _), p_tget (by omega), getR_enc hw h1 k1]
          dsimp only
          rw [if_pos (he _), if_pos (he _), p_plain (repL_dL l) h1]
          dsimp only
          rw [p_plain hR h1]
          dsimp only
          rw [p_same (repL_dL l) (repL_dL l) h1]
          dsimp only
          rw [if_pos rfl, p_size hR hw h1]
          dsimp only
          rw [if_pos (by rw [pieq]; rfl)]
          have tail : (if (ieq (ofN (xlen (encL m))) (0 : Int)) = true then some true else
              if 0 ≤ (isub .i64 (ofN (xlen (encL m))) (1 : Int)) ∧ (isub .i64 (ofN (xlen (encL m))) (1 : Int)) ≤ (ofN (xlen (encL m))) then
                match F_tlv_Get_3 0 (toN (isub .i64 (ofN (xlen (encL m))) (1 : Int))) (encL m) with
                | none => none
                | some (q8, y12, y13) => if (ieq y12 (10 : Int)) = true then if (ile (0 : Int) y13) = true then some (ile y13 (ofN (xlen (encL m)))) else some false else some false
              else none) = some true := by
            by_cases hm : m = []
            · subst hm
              rw [if_pos (by simp [encL, pieq, ofN, xlen])]
            · have hpos : 0 < (encL m).length := by
                cases m with
                | nil => exact absurd rfl hm
                | cons x l => exact enc_pos
              have e1 : isub .i64 (ofN (xlen (encL m))) 1 = (((encL m).length - 1 : Nat) : Int) := by
                simp only [isub, ofN, xlen]
                rw [pwi64 (by omega) (by omega)]
                omega
              obtain ⟨q8, y, g1, g2, g3⟩ := get_cut hw2 h2 k2 hm
              rw [if_neg (by rw [pieq]; simp only [ofN, xlen]; omega), if_pos (by rw [e1]; simp only [ofN, xlen]; omega), g1]
              dsimp only
              rw [if_pos (by decide), if_pos (by rw [pile]; exact g2)]
              congr 1
              rw [pile]
              exact g3
          have ea : iadd .i64 (ofN (xlen (encL l))) (ofN (xlen (encL m))) = (((encL l).length + (encL m).length : Nat) : Int) := by
            simp only [iadd, ofN, xlen]
            rw [pwi64 (by omega) (by omega)]
            omega
          by_cases c3 : (encL l).length + (encL m).length ≤ 8192
          · have hw3 : wfL (l ++ m) := (wfL_app l m).2 ⟨hw, hw2⟩
            have h3 : szL (l ++ m) ≤ 1000000000 := by rw [szL_app]; omega
            have ec : cat (encL l) (encL m) = encL (l ++ m) := (encL_app l m).symm
            have k3 : ckL (l ++ m) = true := by
              unfold ckL
              rw [okL_app, k1'.1, k2'.1, encL_app, List.length_append, decide_eq_true c3]
              rfl
            have hrl : xlen r = l.length := hR.len
            have hql : xlen q = m.length := hQ.len
            have hdl : xlen (dL (l ++ m)) = l.length + m.length := by simp [dL_map, xlen]
            have en : iadd .i64 (ofN (xlen r)) (ofN (xlen q)) = ((l.length + m.length : Nat) : Int) := by
              have := sz_len l
              have := sz_len m
              rw [hrl, hql]
              simp only [iadd, ofN]
              rw [pwi64 (by omega) (by omega)]
              omega
            have ed : lsub (dL (l ++ m)) (toN (ofN (xlen r))) (ndec (xlen (dL (l ++ m))) (toN (ofN (xlen r)))) = dL m := by
              have : toN (ofN (xlen r)) = l.length := by rw [hrl]; rfl
              rw [this, dL_app]
              simp only [lsub, ndec, xlen]
              have e0 : (dL l).length = l.length := by simp [dL_map]
              rw [← e0, List.drop_left]
              exact List.take_of_length_le (by simp)
            rw [if_pos (by rw [pile, ea]; omega), if_pos (by simp only [xlen]; omega), ec, p_tget (by rw [encL_app, List.length_append]; omega), getR_enc hw3 h3 k3]
            dsimp only
            rw [if_pos (he _), en, if_pos (by rw [pieq, hdl]; rfl), if_pos (by rw [hrl, hdl]; simp only [ofN]; omega), ed, p_plain (repL_dL m) h2]
            dsimp only
            rw [p_plain hQ h2]
            dsimp only
            rw [p_same (repL_dL m) (repL_dL m) h2]
            dsimp only
            rw [if_pos rfl]
            exact tail
          · rw [if_neg (by rw [pile, ea]; omega)]
            exact tail
        · rw [if_neg k2]
          dsimp only
          rw [if_pos (he _), if_neg (by decide)]
      · rw [if_neg k1]
        dsimp only
        rw [p_tput hQ hw2 h2]
        by_cases k2 : ckL m = true
        · rw [if_pos k2]
          dsimp only
          rw [if_neg (by decide)]
        · rw [if_neg k2]
          dsimp only
          rw [if_neg (by decide)]
end Go.Proofs.Ytknaheioedkaeaa
end
