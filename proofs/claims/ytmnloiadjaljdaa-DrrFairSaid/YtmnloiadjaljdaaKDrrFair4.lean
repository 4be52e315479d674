/-
  Texts that the row of this claim stands on, one behind the other.
-/
import Derived.Deep.Slices
import Derived.ChangeArms
import Derived.Test.YtmnloiadjaljdaaKDrrFair1
import Derived.Test.YtmnloiadjaljdaaKDrrFair2
import Derived.Test.YtmnloiadjaljdaaKDrrFair3
section
/-
  A walk that reckons: arguments of any shape, opened.
-/
set_option linter.unusedVariables false
set_option linter.unusedSimpArgs false
namespace Go.Proofs.Ytmnloiadjaljdaa
open Go.RowKit Go.ChangeShapes Go.WideShapes Go.Deep

mutual
/-- What is known of data that came in: its numbers fit. -/
def Ty.rng : Ty → D → Prop
  | .int k, d => (Lit.int k d.toI).wf = true
  | .bool, _ => True
  | .str, d => d.toS.length ≤ maxLen
  | .bytes _, d => d.toS.length ≤ maxLen
  | .ints _ k, d => d.toIs.length ≤ maxLen ∧ ∀ x ∈ d.toIs, (Lit.int k x).wf = true
  | .row _ e, d => d.toL.length ≤ maxLen ∧ ∀ x ∈ d.toL, e.rng x
  | .st fs, d => Ty.rngL fs d 0
def Ty.rngL : List Ty → D → Nat → Prop
  | [], _, _ => True
  | t :: ts, d, j => t.rng (d.fld j) ∧ Ty.rngL ts d (j + 1)
end

mutual
/-- Is a type of the program of this kind? -/
def tyChk (P : Program) : Ty → TypeId → Bool
  | .int k, t => match P.underlying t with | some (.int j) => j == k | _ => false
  | .bool, t => match P.underlying t with | some .bool => true | _ => false
  | .str, t => match P.underlying t with | some .string => true | _ => false
  | .bytes T, t => match P.underlying t, P.underlying T with | some (.slice e), some (.int .u8) => Nat.beq e T && Nat.beq (P.cellsOf T) 1 | _, _ => false
  | .ints T k, t => match P.underlying t, P.underlying T with | some (.slice e), some (.int j) => Nat.beq e T && Nat.beq (P.cellsOf T) 1 && j == k | _, _ => false
  | .row T e, t => match P.underlying t with | some (.slice e') => Nat.beq e' T && Nat.beq (P.cellsOf T) e.size && Nat.ble 1 e.size && tyChk P e T | _ => false
  | .st es, t => match P.underlying t with | some (.struct fl) => Nat.beq (P.cellsOf t) (Ty.sizes es) && tysChk P es fl.toList 0 | _ => false
def tysChk (P : Program) : List Ty → List Field → Nat → Bool
  | [], [], _ => true
  | e :: es, f :: fl, o => Nat.beq f.offset o && Nat.beq (P.cellsOf f.type) e.size && tyChk P e f.type && tysChk P es fl (o + e.size)
  | _, _, _ => false
end

section
variable {H : Type} {enc : TypeId × Value → H} {P : Program} {w : World} {base : Nat} {spare : Nat → Bool} {held : Bool}
def PN : Nat → Option Pl := fun _ => none
def AN : Nat → Prop := fun _ => False
/-- A row whose elements are opened. -/
theorem open_row {r : R} {a : Addr} {len cap : Nat} (hr : rlen r = len) (hl : len ≤ cap) (hsz : 0 < r.sz) (hrow : ∀ i, i < len → ∃ cs, cs.length = r.sz ∧ (∀ j, j < r.sz → w.cell? (a.add (i * r.sz + j)) = cs[j]?) ∧ Dens PN w AN (r.elem i) cs) :
    Den PN w AN (.rsl r) (.slice (some a) len cap) := by
  subst hr
  have : ∀ i, ∃ cs : List Value, i < rlen r → cs.length = r.sz ∧ (∀ j, j < r.sz → w.cell? (a.add (i * r.sz + j)) = cs[j]?) ∧ Dens PN w AN (r.elem i) cs := fun i => by
    by_cases h : i < rlen r
    · obtain ⟨cs, h⟩ := hrow i h; exact ⟨cs, fun _ => h⟩
    · exact ⟨[], fun h' => absurd h' h⟩
  obtain ⟨f, hf⟩ := Classical.axiomOfChoice this
  refine .rsl r (some a) cap (fun i j => ((f i)[j]?).getD undef) hl ?_ ?_ ?_
  · intro h0
    obtain ⟨h1, h2, h3⟩ := hf 0 h0
    have hc := h2 0 hsz
    rw [Nat.zero_mul, Nat.zero_add, List.getElem?_eq_getElem (by omega)] at hc
    refine ⟨a, rfl, ?_, fun h => h⟩
    have := World.block_lt_of_cell? w _ hc
    rwa [add_block] at this
  · intro i j ad e hi hj
    injection e with e; subst e
    obtain ⟨h1, h2, h3⟩ := hf i hi
    have hjl : j < (f i).length := by omega
    rw [add_add, h2 j hj, List.getElem?_eq_getElem hjl]
    have hle : (r.elem i).length = (f i).length := h3.1.symm
    exact ⟨rfl, by simpa using (h3.2 j (by omega) hjl).2⟩
  · intro i j hi hj
    obtain ⟨h1, h2, h3⟩ := hf i hi
    have hjl : j < (f i).length := by rw [h3.1]; exact hj
    have := (h3.2 j hj hjl).1
    simpa [List.getElem?_eq_getElem hjl] using this

theorem den1 {v : SV} {c : Value} (h : Den PN w AN v c) (h1 : c.oneCell' = true) : Dens PN w AN [v] [c] := Dens.cons h h1 Dens.nil
/-- Bytes that came in. -/
theorem open_bytes {t T : TypeId} (hu : P.underlying t = some (.slice T)) (he : P.underlying T = some (.int .u8)) (hc : P.cellsOf T = 1) {fuel : Nat} {cs : List Value} {x : DataW H × List MemPlace} (h : DataW.trod enc P w base spare held fuel t cs = some x) :
    ∃ l : List UInt8, l.length ≤ maxLen ∧ Dens PN w AN [.rsl (.bs T l)] cs := by
  rcases open_slice1 hu hc h with ⟨rfl, _⟩ | ⟨a, len, cap, m, n, V, D, Pl, rfl, hb, hl, hm, hmm, _, hi⟩
  · exact ⟨[], by simp, den1 (nil_den rfl .nsl) rfl⟩
  · have hle : len ≤ m := by rw [hmm]; split <;> omega
    have each : ∀ i, ∃ b : UInt8, i < len → w.cell? (a.add i) = some (.int .u8 b.toNat) := fun i => by
      by_cases h : i < len
      · obtain ⟨h1, h2⟩ := hi i (by omega)
        obtain ⟨y, e1, _, e2⟩ := DataW.trod_int he h2
        injection e1 with e1 _
        have hy : 0 ≤ y ∧ y ≤ 255 := by simpa [Lit.wf, IntKind.min, IntKind.max, IntKind.signed, IntKind.bits, Int.lt_add_one_iff, Int.le_sub_one_iff] using e2
        refine ⟨UInt8.ofNat y.toNat, fun _ => ?_⟩
        rw [h1, e1]
        have : ((UInt8.ofNat y.toNat).toNat : Int) = y := by simp; omega
        rw [this]
      · exact ⟨0, fun h' => absurd h' h⟩
    obtain ⟨f, hf⟩ := Classical.axiomOfChoice each
    refine ⟨(List.range len).map f, by simp; omega, den1 (open_row (by simp [rlen]) hl (by show 0 < 1; omega) fun i hi => ⟨[.int .u8 (f i).toNat], rfl, ?_, ?_⟩) rfl⟩
    · intro j hj
      have : j = 0 := by simp [R.sz] at hj; exact hj
      subst this
      simp only [R.sz, Nat.mul_one, Nat.add_zero]
      rw [hf i hi]
      rfl
    · have : getB ((List.range len).map f) i = ((f i).toNat : Int) := by simp [getB, hi]
      simp only [R.elem, lock_eq, this]
      exact den1 (.v _) rfl
/-- Whole numbers that came in. -/
theorem open_intsD {t T : TypeId} {k : IntKind} (hu : P.underlying t = some (.slice T)) (he : P.underlying T = some (.int k)) (hc : P.cellsOf T = 1) {fuel : Nat} {cs : List Value} {x : DataW H × List MemPlace} (h : DataW.trod enc P w base spare held fuel t cs = some x) :
    ∃ l : List Int, l.length ≤ maxLen ∧ (∀ y ∈ l, (Lit.int k y).wf = true) ∧ Dens PN w AN [.rsl (.ints T k l)] cs := by
  rcases open_slice1 hu hc h with ⟨rfl, _⟩ | ⟨a, len, cap, m, n, V, D, Pl, rfl, hb, hl, hm, hmm, _, hi⟩
  · exact ⟨[], by simp, by simp, den1 (nil_den rfl .nsl) rfl⟩
  · have hle : len ≤ m := by rw [hmm]; split <;> omega
    have each : ∀ i, ∃ b : Int, i < len → w.cell? (a.add i) = some (.int k b) ∧ (Lit.int k b).wf = true := fun i => by
      by_cases h : i < len
      · obtain ⟨h1, h2⟩ := hi i (by omega)
        obtain ⟨y, e1, _, e2⟩ := DataW.trod_int he h2
        injection e1 with e1 _
        exact ⟨y, fun _ => ⟨by rw [h1, e1], e2⟩⟩
      · exact ⟨0, fun h' => absurd h' h⟩
    obtain ⟨f, hf⟩ := Classical.axiomOfChoice each
    refine ⟨(List.range len).map f, by simp; omega, ?_, den1 (open_row (by simp [rlen]) hl (by show 0 < 1; omega) fun i hi => ⟨[.int k (f i)], rfl, ?_, ?_⟩) rfl⟩
    · intro y hy
      obtain ⟨i, h1, rfl⟩ := List.mem_map.1 hy
      exact (hf i (List.mem_range.1 h1)).2
    · intro j hj
      have : j = 0 := by simp [R.sz] at hj; exact hj
      subst this
      simp only [R.sz, Nat.mul_one, Nat.add_zero]
      rw [(hf i hi).1]
      rfl
    · have : getI ((List.range len).map f) i = f i := by simp [getI, hi]
      simp only [R.elem, lock_eq, this]
      exact den1 (.v _) rfl
theorem dens_app {a b : List SV} {c d : List Value} (h : Dens PN w AN a c) (k : Dens PN w AN b d) : Dens PN w AN (a ++ b) (c ++ d) := by
  refine ⟨by simp [h.1, k.1], fun j h1 h2 => ?_⟩
  by_cases hj : j < a.length
  · have hc : j < c.length := by rw [h.1]; exact hj
    rw [List.getElem_append_left hj, List.getElem_append_left hc]
    exact h.2 j hj hc
  · have hc : ¬ j < c.length := by rw [h.1]; exact hj
    rw [List.getElem_append_right (by omega), List.getElem_append_right (by omega)]
    have e := h.1
    have := k.2 (j - a.length) (by simp at h1; omega) (by simp at h2; omega)
    simpa [e] using this
theorem D.fld_l (l : List D) (j : Nat) : (D.l l).fld j = l.getD j (.i 0) := rfl
theorem open_ty : ∀ (e : Ty) (t : TypeId) (fuel : Nat) (cs : List Value) (x : DataW H × List MemPlace), tyChk P e t = true → DataW.trod enc P w base spare held fuel t cs = some x → ∃ d : D, Dens PN w AN (e.leaves d) cs ∧ e.rng d := by
  intro e
  apply Ty.rec (motive_1 := fun e => ∀ (t : TypeId) (fuel : Nat) (cs : List Value) (x : DataW H × List MemPlace), tyChk P e t = true → DataW.trod enc P w base spare held fuel t cs = some x → ∃ d : D, Dens PN w AN (e.leaves d) cs ∧ e.rng d)
    (motive_2 := fun es => ∀ (fl : List Field) (o : Nat) (cs : List Value), tysChk P es fl o = true → (∀ f ∈ fl, ∃ fuel x, DataW.trod enc P w base spare held fuel f.type ((cs.drop f.offset).take (P.cellsOf f.type)) = some x) → cs.length = o + Ty.sizes es →
      ∃ ds : List D, ds.length = es.length ∧ ∀ d j, (∀ i, i < es.length → d.fld (j + i) = ds.getD i (.i 0)) → Dens PN w AN (Ty.leavesL es d j) (cs.drop o) ∧ Ty.rngL es d j)
  · intro k t fuel cs x hc h
    simp only [tyChk] at hc
    split at hc
    · rename_i j hu
      have := LawfulBEq.eq_of_beq hc
      subst this
      obtain ⟨y, rfl, _, e2⟩ := DataW.trod_int hu h
      refine ⟨.i y, ?_, e2⟩
      simp only [Ty.leaves, lock_eq]
      exact den1 (.v _) rfl
    · cases hc
  · intro t fuel cs x hc h
    simp only [tyChk] at hc
    split at hc
    · rename_i hu
      obtain ⟨b, rfl, _⟩ := DataW.trod_bool hu h
      refine ⟨.b b, ?_, trivial⟩
      simp only [Ty.leaves, lock_eq]
      exact den1 (.v _) rfl
    · cases hc
  · intro t fuel cs x hc h
    simp only [tyChk] at hc
    split at hc
    · rename_i hu
      obtain ⟨b, rfl, _, e2⟩ := DataW.trod_string hu h
      refine ⟨.s b.data.toList, ?_, by
        show b.data.toList.length ≤ maxLen
        have : b.data.toList.length = b.size := by rw [Array.length_toList]; rfl
        rw [this]; exact e2⟩
      simp only [Ty.leaves, lock_eq, D.toS]
      have := Den.str (PL := PN) (w := w) (Av := AN) b.data.toList
      simp at this
      exact den1 this rfl
    · cases hc
  · intro T t fuel cs x hc h
    simp only [tyChk] at hc
    split at hc
    · rename_i e0 hu he
      simp only [Bool.and_eq_true] at hc
      have e1 := (nbeq _ _).1 hc.1
      have e2 := (nbeq _ _).1 hc.2
      subst e1
      obtain ⟨l, h1, h2⟩ := open_bytes hu he e2 h
      exact ⟨.s l, by simp only [Ty.leaves, lock_eq]; exact h2, h1⟩
    · cases hc
  · intro T k t fuel cs x hc h
    simp only [tyChk] at hc
    split at hc
    · rename_i e0 j hu he
      simp only [Bool.and_eq_true] at hc
      have e1 := (nbeq _ _).1 hc.1.1
      have e2 := (nbeq _ _).1 hc.1.2
      have e3 := LawfulBEq.eq_of_beq hc.2
      subst e1; subst e3
      obtain ⟨l, h1, h2, h3⟩ := open_intsD hu he e2 h
      exact ⟨.is l, by simp only [Ty.leaves, lock_eq]; exact h3, h1, h2⟩
    · cases hc
  · intro T e ih t fuel cs x hc h
    simp only [tyChk] at hc
    split at hc
    · rename_i e0 hu
      simp only [Bool.and_eq_true] at hc
      obtain ⟨⟨⟨c1, c2⟩, c3⟩, c4⟩ := hc
      have e1 := (nbeq _ _).1 c1
      have e2 := (nbeq _ _).1 c2
      have e3 := Nat.le_of_ble_eq_true c3
      subst e1
      rcases open_slice hu h with ⟨rfl, _⟩ | ⟨a, len, cap, m, n, D0, Pl, rfl, hb, hl, hm, hmm, _, hi⟩
      · refine ⟨.l [], ?_, by simp [Ty.rng, D.toL]⟩
        simp only [Ty.leaves, lock_eq, D.toL]
        exact den1 (nil_den rfl .nsl) rfl
      · have hle : len ≤ m := by rw [hmm]; split <;> omega
        have each : ∀ i, ∃ q : D × List Value, i < len → q.2.length = e.size ∧ (∀ j, j < e.size → w.cell? (a.add (i * e.size + j)) = q.2[j]?) ∧ Dens PN w AN (e.leaves q.1) q.2 ∧ e.rng q.1 := fun i => by
          by_cases hil : i < len
          · obtain ⟨cs', g1, g2⟩ := hi i (by omega)
            obtain ⟨_, g3, g4⟩ := World.cells?_some g1
            obtain ⟨d, g5, g6⟩ := ih _ n cs' _ c4 g2
            refine ⟨(d, cs'), fun _ => ⟨by rw [g3, e2], fun j hj => ?_, g5, g6⟩⟩
            have := g4 j (by omega)
            rw [add_add, e2] at this
            exact this
          · exact ⟨(.i 0, []), fun h' => absurd h' hil⟩
        obtain ⟨f, hf⟩ := Classical.axiomOfChoice each
        refine ⟨.l ((List.range len).map fun i => (f i).1), ?_, ?_, ?_⟩
        · simp only [Ty.leaves, lock_eq, D.toL]
          refine den1 (open_row (by simp [rlen]) hl (by show 0 < e.size; omega) fun i hi => ⟨(f i).2, (hf i hi).1, (hf i hi).2.1, ?_⟩) rfl
          have : getD ((List.range len).map fun i => (f i).1) i = (f i).1 := by simp [getD, hi]
          simp only [R.elem, lock_eq, this]
          exact (hf i hi).2.2.1
        · simp [D.toL]; omega
        · intro y hy
          simp only [D.toL] at hy
          obtain ⟨i, h1, rfl⟩ := List.mem_map.1 hy
          exact (hf i (List.mem_range.1 h1)).2.2.2
    · cases hc
  · intro es ih t fuel cs x hc h
    simp only [tyChk] at hc
    split at hc
    · rename_i fl hu
      simp only [Bool.and_eq_true] at hc
      have e1 := (nbeq _ _).1 hc.1
      obtain ⟨xs, n, _, _, hlen, hxl, hx⟩ := DataW.trod_struct hu h
      obtain ⟨ds, h1, h2⟩ := ih fl.toList 0 cs hc.2 (fun f hf => by
        obtain ⟨i, hi, he⟩ := List.getElem_of_mem hf
        have hi' : i < fl.size := by simpa using hi
        have := hx i f (by rw [Array.getElem?_eq_getElem hi']; simpa using he)
        exact ⟨n, xs[i]'(by omega), by rw [this, List.getElem?_eq_getElem (by omega)]⟩) (by rw [hlen, e1]; omega)
      obtain ⟨g1, g2⟩ := h2 (.l ds) 0 (fun i hi => by rw [D.fld_l, Nat.zero_add])
      exact ⟨.l ds, by simp only [Ty.leaves]; simpa using g1, g2⟩
    · cases hc
  · intro fl o cs hc hf hl
    cases fl with
    | nil => exact ⟨[], rfl, fun d j _ => ⟨by simp only [Ty.leavesL]; rw [List.drop_of_length_le (by simp [Ty.sizes] at hl; omega)]; exact Dens.nil, trivial⟩⟩
    | cons f fl => simp [tysChk] at hc
  · intro e es ih1 ih2 fl o cs hc hf hl
    cases fl with
    | nil => simp [tysChk] at hc
    | cons f fl =>
      simp only [tysChk, Bool.and_eq_true] at hc
      obtain ⟨⟨⟨c1, c2⟩, c3⟩, c4⟩ := hc
      have e1 := (nbeq _ _).1 c1
      have e2 := (nbeq _ _).1 c2
      obtain ⟨fuel, x, hx⟩ := hf f (List.mem_cons_self ..)
      obtain ⟨d1, g1, g2⟩ := ih1 _ _ _ _ c3 hx
      simp only [Ty.sizes] at hl
      obtain ⟨ds, g3, g4⟩ := ih2 fl (o + e.size) cs c4 (fun f hf' => hf f (List.mem_cons_of_mem _ hf')) (by omega)
      refine ⟨d1 :: ds, by simp [g3], fun d j hd => ?_⟩
      have hd0 : d.fld j = d1 := by simpa using hd 0 (by simp)
      obtain ⟨k1, k2⟩ := g4 d (j + 1) (fun i hi => by
        have := hd (i + 1) (by simpa using hi)
        rw [Nat.add_assoc, Nat.add_comm 1 i, this, List.getD_cons_succ])
      rw [e1, e2] at g1
      refine ⟨?_, ?_, k2⟩
      · simp only [Ty.leavesL, lock_eq, hd0]
        have : cs.drop o = (cs.drop o).take e.size ++ cs.drop (o + e.size) := by
          rw [← List.drop_drop, List.take_append_drop]
        rw [this]
        exact dens_app g1 k1
      · rw [hd0]; exact g2
end
end Go.Proofs.Ytmnloiadjaljdaa
end
section
/-
  Words, as plain Lean reads them.
-/
set_option linter.unusedVariables false
set_option linter.unusedSimpArgs false
namespace Go.Proofs.Ytmnloiadjaljdaa

theorem pieq {a b : Int} : (ieq a b = true) = (a = b) := by simp [ieq]
theorem pilt {a b : Int} : (ilt a b = true) = (a < b) := by simp [ilt]
theorem pile {a b : Int} : (ile a b = true) = (a ≤ b) := by simp [ile]
theorem pseq {a b : List UInt8} : (seq a b = true) = (a = b) := by simp [seq]
theorem pbeq2 {a b : Bool} : (beq2 a b = true) = (a = b) := by simp [beq2]
theorem pband {a b : Bool} : (band a b = true) = (a = true ∧ b = true) := by simp [band]

/-- A number of 64 bits. -/
def U (x : Int) : Prop := 0 ≤ x ∧ x < 18446744073709551616
theorem U.lo {x : Int} (h : U x) : 0 ≤ x := h.1
theorem U.hi {x : Int} (h : U x) : x < 18446744073709551616 := h.2
theorem pwu64 (x : Int) : IntKind.u64.wrap x = x % 18446744073709551616 := by simp [IntKind.wrap, IntKind.signed, IntKind.bits]
theorem pwu32 (x : Int) : IntKind.u32.wrap x = x % 4294967296 := by simp [IntKind.wrap, IntKind.signed, IntKind.bits]
theorem pwu16 (x : Int) : IntKind.u16.wrap x = x % 65536 := by simp [IntKind.wrap, IntKind.signed, IntKind.bits]
theorem pwu8 (x : Int) : IntKind.u8.wrap x = x % 256 := by simp [IntKind.wrap, IntKind.signed, IntKind.bits]
theorem pwi64 {x : Int} (h1 : -9223372036854775808 ≤ x) (h2 : x ≤ 9223372036854775807) : IntKind.i64.wrap x = x := by
  simp only [IntKind.wrap, IntKind.signed, IntKind.bits]
  simp
  omega
theorem pu64 {x : Int} (h1 : 0 ≤ x) (h2 : x < 18446744073709551616) : IntKind.u64.wrap x = x := by rw [pwu64]; omega
theorem pu32 {x : Int} (h1 : 0 ≤ x) (h2 : x < 4294967296) : IntKind.u32.wrap x = x := by rw [pwu32]; omega
theorem pu16 {x : Int} (h1 : 0 ≤ x) (h2 : x < 65536) : IntKind.u16.wrap x = x := by rw [pwu16]; omega
theorem pu8 {x : Int} (h1 : 0 ≤ x) (h2 : x < 256) : IntKind.u8.wrap x = x := by rw [pwu8]; omega
theorem pofN (n : Nat) : ofN n = (n : Int) := rfl
theorem ptoN (n : Nat) : toN (n : Int) = n := rfl
theorem ptoN' (x : Int) : toN x = x.toNat := rfl
theorem pxlen {α : Type} (l : List α) : xlen l = l.length := rfl
/-- The next place. -/
theorem pnext {n : Nat} (h : n < 9223372036854775807) : iadd .i64 (n : Int) 1 = ((n + 1 : Nat) : Int) := by
  simp only [iadd]
  rw [pwi64] <;> omega
theorem pgetI {l : List Int} {n : Nat} (h : n < l.length) : getI l n = l[n] := by simp [getI, h]
theorem pgetD {l : List D} {n : Nat} (h : n < l.length) : getD l n = l[n] := by simp [getD, h]
theorem pgetB {l : List UInt8} {n : Nat} (h : n < l.length) : getB l n = ((l[n].toNat : Nat) : Int) := by simp [getB, h]
theorem pcopy {α : Type} (l : List α) (x : α) : lspl (lrep l.length x) 0 (lsub l 0 (nmin (xlen (lrep l.length x)) (xlen l))) = l := by
  simp [lspl, lrep, lsub, nmin, xlen]
theorem pimax (a b : Int) : imax a b = max a b := by
  unfold imax
  by_cases h : b > a
  · rw [if_pos h]; omega
  · rw [if_neg h]; omega
theorem pimin (a b : Int) : imin a b = min a b := by
  unfold imin
  by_cases h : b < a
  · rw [if_pos h]; omega
  · rw [if_neg h]; omega
end Go.Proofs.Ytmnloiadjaljdaa
end
section
/-
  What the functions of package drr tell, in plain words.
-/
set_option linter.unusedVariables false
set_option linter.unusedSimpArgs false
namespace Go.Proofs.Ytmnloiadjaljdaa

def sadd (a b : Int) : Int := if a + b < 18446744073709551616 then a + b else 18446744073709551615
theorem sadd_U {a b : Int} (ha : U a) (hb : U b) : U (sadd a b) := by
  have := ha.lo; have := hb.lo
  unfold sadd U
  split <;> omega
theorem p_add {x y : Int} (hx : U x) (hy : U y) : F_sat_Add x y = some (sadd x y) := by
  have := hx.lo; have := hx.hi; have := hy.lo; have := hy.hi
  unfold F_sat_Add sadd
  simp only [pile, iadd, pwu64]
  split <;> split <;> first | rfl | (congr 1; omega) | (exfalso; omega)
/-- The next one's turn. -/
def turnF (t : Int) (n : Nat) : Int := if t + 1 < (n : Int) then t + 1 else 0
structure RingOk (q : List Int) (t : Int) (d : List Int) : Prop where
  t0 : 0 ≤ t
  tn : t < (q.length : Int)
  n : q.length ≤ 1000
  l : d.length = q.length
  q : ∀ x ∈ q, U x
  d : ∀ x ∈ d, U x
theorem p_on {q : List Int} {t : Int} {d l : List Int} {ad : Bool} (h : RingOk q t d) : F_drr_Ring_on t ad q l = some (turnF t q.length) := by
  have := h.t0; have := h.tn; have := h.n
  unfold F_drr_Ring_on turnF
  rw [if_pos (by simp only [ofN, xlen]; omega)]
  congr 1
  simp only [irem, iadd, ofN, xlen]
  rw [pwi64 (by omega) (by omega), Int.tmod_eq_emod_of_nonneg (by omega)]
  split
  · exact Int.emod_eq_of_lt (by omega) (by omega)
  · have : t + 1 = (q.length : Int) := by omega
    rw [this, Int.emod_self]
/-- A visit: may it go, whose turn, is it added, what is left? -/
def visL (q : List Int) (t : Int) (ad : Bool) (d : List Int) : Int := if ad = false then sadd (d.getD t.toNat 0) (q.getD t.toNat 0) else d.getD t.toNat 0
def visF (q : List Int) (t : Int) (ad : Bool) (d : List Int) (sz : Int) (may : Bool) : Bool × Int × Bool × List Int :=
  if sz = 0 ∨ may = false then (false, turnF t q.length, false, d.set t.toNat 0)
  else if visL q t ad d < sz then (false, turnF t q.length, false, d.set t.toNat (visL q t ad d)) else (true, t, true, d.set t.toNat (visL q t ad d - sz))
theorem getD_U {l : List Int} {n : Nat} (h : ∀ x ∈ l, U x) (hn : n < l.length) : U (l.getD n 0) := by
  have : l.getD n 0 = l[n] := by simp [hn]
  rw [this]
  exact h _ (List.getElem_mem hn)
theorem RingOk.on {q : List Int} {t : Int} {d : List Int} (h : RingOk q t d) {x : Int} (hx : U x) : RingOk q t (d.set t.toNat x) :=
  ⟨h.t0, h.tn, h.n, by simpa using h.l, h.q, fun y hy => by
    rcases List.mem_or_eq_of_mem_set hy with hy | rfl
    · exact h.d _ hy
    · exact hx⟩
theorem turnF_lt {t : Int} {n : Nat} (h0 : 0 ≤ t) (h : t < (n : Int)) : 0 ≤ turnF t n ∧ turnF t n < (n : Int) := by
  unfold turnF; split <;> omega
theorem visL_U {q : List Int} {t : Int} {d : List Int} {ad : Bool} (h : RingOk q t d) : U (visL q t ad d) := by
  have := h.t0; have := h.tn; have := h.l
  unfold visL
  split
  · exact sadd_U (getD_U h.d (by omega)) (getD_U h.q (by omega))
  · exact getD_U h.d (by omega)
theorem p_visit {q : List Int} {t : Int} {d : List Int} {ad may : Bool} {sz : Int} (h : RingOk q t d) (hs : U sz) : F_drr_Ring_visit sz may t ad q d = some (visF q t ad d sz may) := by
  have h0 := h.t0; have h1 := h.tn; have h2 := h.n; have h3 := h.l
  have hd : t.toNat < d.length := by omega
  have hq : t.toNat < q.length := by omega
  have hL := visL_U (ad := ad) h
  have z : U 0 := by unfold U; omega
  unfold F_drr_Ring_visit
  rw [if_pos (by simp only [ofN, xlen]; omega)]
  simp only [pieq, pilt, p_on (h.on z), p_on h]
  unfold visF
  by_cases e1 : sz = 0
  · rw [if_pos e1, if_pos (.inl e1)]; simp [setI, toN, p_on (h.on z)]
  · rw [if_neg e1]
    cases may with
    | false => simp [setI, toN, p_on (h.on z)]
    | true =>
      have e0 : ¬ (sz = 0 ∨ true = false) := by simp [e1]
      rw [if_neg e0]
      simp only [if_true]
      cases ad with
      | true =>
        have e2 : visL q t true d = getI d (toN t) := by unfold visL; rfl
        simp only [if_true]
        rw [e2]
        rw [e2] at hL
        have e5 : d.set t.toNat (getI d (toN t)) = d := by simp [getI, toN, hd]
        split
        · rw [e5]
        · simp only [setI, isub]
          rw [pu64 (by omega) (by have := hL.hi; have := hs.lo; omega)]
          rfl
      | false =>
        simp only [Bool.false_eq_true, if_false]
        have e2 : visL q t false d = sadd (getI d (toN t)) (getI q (toN t)) := by unfold visL; rfl
        rw [if_pos (by simp only [ofN, xlen]; omega)]
        have e6 : F_sat_Add (getI d (toN t)) (getI q (toN t)) = some (visL q t false d) := by rw [e2]; exact p_add (getD_U h.d hd) (getD_U h.q hq)
        have e3 : getI (setI d (toN t) (visL q t false d)) (toN t) = visL q t false d := by simp [getI, setI, toN, hd]
        have e4 := p_on (ad := true) (l := setI d (toN t) (visL q t false d)) (h.on hL)
        rw [e6]
        simp only [e3, e4]
        split
        · rfl
        · simp only [setI, isub]
          rw [pu64 (by omega) (by have := hL.hi; have := hs.lo; omega)]
          simp [toN]
end Go.Proofs.Ytmnloiadjaljdaa
end
section
/-
  What Next and the others of package drr tell, in plain words.
-/
set_option linter.unusedVariables false
set_option linter.unusedSimpArgs false
namespace Go.Proofs.Ytmnloiadjaljdaa

/-- What a view tells. -/
def vSz (v : D) : Int := (v.fld 0).toI
def vMay (v : D) : Bool := (v.fld 1).toB
/-- Visits, one behind the other. -/
def nextGo (q : List Int) (L : List D) : Nat → Int → Bool → List Int → Int × Int × Bool × List Int
  | 0, t, ad, d => (-1, t, ad, d)
  | n + 1, t, ad, d => match visF q t ad d (vSz (L.getD t.toNat (.i 0))) (vMay (L.getD t.toNat (.i 0))) with
    | (true, t', ad', d') => (t', t', ad', d')
    | (false, t', ad', d') => nextGo q L n t' ad' d'
def nextF (q : List Int) (L : List D) (t : Int) (ad : Bool) (d : List Int) : Int × Int × Bool × List Int :=
  if L.length = q.length then if L.length = 0 then (-1, t, ad, d) else nextGo q L (L.length + 1) t ad d else (-1, t, ad, d)
theorem visF_ok {q : List Int} {t : Int} {d : List Int} {ad : Bool} {sz : Int} {may : Bool} (h : RingOk q t d) (hs : U sz) : RingOk q (visF q t ad d sz may).2.1 (visF q t ad d sz may).2.2.2 := by
  have hL := visL_U (ad := ad) h
  have hT := turnF_lt h.t0 h.tn
  have z : U 0 := by unfold U; omega
  have go : ∀ x, U x → RingOk q (turnF t q.length) (d.set t.toNat x) := fun x hx => ⟨hT.1, hT.2, h.n, (h.on hx).l, h.q, (h.on hx).d⟩
  unfold visF
  split
  · exact go 0 z
  · split
    · exact go _ hL
    · exact h.on (by have := hL.lo; have := hL.hi; have := hs.lo; unfold U; omega)
theorem p_next {q : List Int} {L : List D} {t : Int} {d : List Int} {ad : Bool} (h : L.length = q.length → L.length ≠ 0 → RingOk q t d) (hv : ∀ x ∈ L, U (vSz x)) : F_drr_Ring_Next L t ad q d = some (nextF q L t ad d) := by
  unfold F_drr_Ring_Next nextF
  simp only [pieq, ofN, xlen]
  by_cases e1 : L.length = q.length
  · rw [if_pos (by omega), if_pos e1]
    by_cases e2 : L.length = 0
    · rw [if_pos (by omega), if_pos e2]
    · rw [if_neg (by omega), if_neg e2]
      have key : ∀ (n i : Nat) (t : Int) (ad : Bool) (d : List Int), RingOk q t d → i + n = L.length + 1 → iter (F_drr_Ring_Next_L1 L q) ((i : Int), t, ad, d) = some (nextGo q L n t ad d) := by
        intro n
        induction n with
        | zero =>
          intro i t ad d ok hi
          apply iter_inr
          unfold F_drr_Ring_Next_L1
          have := ok.n
          have e : iadd .i64 (ofN (xlen L)) 1 = ((L.length + 1 : Nat) : Int) := pnext (n := L.length) (by omega)
          dsimp only
          rw [if_neg (by rw [pilt, e]; omega)]
          rfl
        | succ n ih =>
          intro i t ad d ok hi
          have h0 := ok.t0; have h1 := ok.tn; have h2 := ok.n
          have e : iadd .i64 (ofN (xlen L)) 1 = ((L.length + 1 : Nat) : Int) := pnext (n := L.length) (by omega)
          have hl : t.toNat < L.length := by omega
          have hU : U (vSz (L.getD t.toNat (.i 0))) := by
            have : L.getD t.toNat (.i 0) = L[t.toNat] := by simp [hl]
            rw [this]; exact hv _ (List.getElem_mem hl)
          have hB : F_drr_Ring_Next_L1 L q ((i : Int), t, ad, d) = match visF q t ad d (vSz (L.getD t.toNat (.i 0))) (vMay (L.getD t.toNat (.i 0))) with
              | (true, t', ad', d') => some (.inr (t', t', ad', d'))
              | (false, t', ad', d') => some (.inl (((i + 1 : Nat) : Int), t', ad', d')) := by
            unfold F_drr_Ring_Next_L1
            dsimp only
            rw [if_pos (by rw [pilt, e]; omega), if_pos (by simp only [ofN, xlen]; omega)]
            have : F_drr_Ring_visit (D.toI (D.fld (getD L (toN t)) 0)) (D.toB (D.fld (getD L (toN t)) 1)) t ad q d = some (visF q t ad d (vSz (L.getD t.toNat (.i 0))) (vMay (L.getD t.toNat (.i 0)))) := p_visit ok hU
            rw [this]
            rcases visF q t ad d (vSz (L.getD t.toNat (.i 0))) (vMay (L.getD t.toNat (.i 0))) with ⟨b, t', ad', d'⟩
            cases b with
            | true => rfl
            | false => simp only [Bool.false_eq_true, if_false, pnext (show i < 9223372036854775807 by omega)]
          have hok := visF_ok (ad := ad) (may := vMay (L.getD t.toNat (.i 0))) ok hU
          unfold nextGo
          revert hB hok
          rcases visF q t ad d (vSz (L.getD t.toNat (.i 0))) (vMay (L.getD t.toNat (.i 0))) with ⟨b, t', ad', d'⟩
          cases b with
          | true => intro hB hok; exact iter_inr hB
          | false => intro hB hok; rw [iter_inl hB]; exact ih (i + 1) t' ad' d' hok (by omega)
      exact key (L.length + 1) 0 t ad d (h e1 e2) (by omega)
  · rw [if_neg (by omega), if_neg e1]
theorem p_copied {t : Int} {ad : Bool} {l : List Int} (h : l.length ≤ 1000) : F_drr_copied t ad l = some l := by
  unfold F_drr_copied
  rw [if_pos (by simp only [ofN, xlen]; refine ⟨by omega, by omega, by simp; omega, by omega⟩)]
  congr 1
  exact pcopy l 0
theorem p_clone {l : List Int} (h : l.length ≤ 1000) : cloneU64 l = some l := by
  unfold cloneU64
  rw [if_pos (by simp only [xlen]; simp; omega)]
theorem p_new {l : List Int} (h : l.length ≤ 1000) : F_drr_New l = some (l, List.replicate l.length 0) := by
  unfold F_drr_New
  rw [p_clone h]
  dsimp only
  rw [if_pos (by simp only [ofN, xlen]; refine ⟨by omega, by omega, by simp; omega, by omega⟩)]
  rfl
theorem p_state {t : Int} {ad : Bool} {q l : List Int} (h : l.length ≤ 1000) : F_drr_Ring_State t ad q l = some l := by
  unfold F_drr_Ring_State
  rw [p_copied h]
end Go.Proofs.Ytmnloiadjaljdaa
end
section
/-
  DrrGoes, in plain words: whose packet goes.
-/
set_option linter.unusedVariables false
set_option linter.unusedSimpArgs false
namespace Go.Proofs.Ytmnloiadjaljdaa

def ready (L : List D) (k : Nat) : Prop := vMay (L.getD k (.i 0)) = true ∧ vSz (L.getD k (.i 0)) ≠ 0
/-- Who goes is ready. -/
theorem next_ready {q : List Int} {L : List D} : ∀ (n : Nat) (t : Int) (ad : Bool) (d : List Int), RingOk q t d → L.length = q.length → (∀ x ∈ L, U (vSz x)) →
    (nextGo q L n t ad d).1 = -1 ∨ (0 ≤ (nextGo q L n t ad d).1 ∧ (nextGo q L n t ad d).1 < (L.length : Int) ∧ ready L (nextGo q L n t ad d).1.toNat)
  | 0, t, ad, d, h, hl, hv => .inl rfl
  | n + 1, t, ad, d, h, hl, hv => by
    have h0 := h.t0; have h1 := h.tn
    have hlt : t.toNat < L.length := by omega
    have hU : U (vSz (L.getD t.toNat (.i 0))) := by
      have : L.getD t.toNat (.i 0) = L[t.toNat] := by simp [hlt]
      rw [this]; exact hv _ (List.getElem_mem hlt)
    have hok := visF_ok (ad := ad) (may := vMay (L.getD t.toNat (.i 0))) h hU
    unfold nextGo
    by_cases hr : vSz (L.getD t.toNat (.i 0)) = 0 ∨ vMay (L.getD t.toNat (.i 0)) = false
    · have e : visF q t ad d (vSz (L.getD t.toNat (.i 0))) (vMay (L.getD t.toNat (.i 0))) = (false, turnF t q.length, false, d.set t.toNat 0) := by unfold visF; rw [if_pos hr]
      rw [e] at hok ⊢
      exact next_ready n _ _ _ hok hl hv
    · by_cases hs : visL q t ad d < vSz (L.getD t.toNat (.i 0))
      · have e : visF q t ad d (vSz (L.getD t.toNat (.i 0))) (vMay (L.getD t.toNat (.i 0))) = (false, turnF t q.length, false, d.set t.toNat (visL q t ad d)) := by unfold visF; rw [if_neg hr, if_pos hs]
        rw [e] at hok ⊢
        exact next_ready n _ _ _ hok hl hv
      · have e : visF q t ad d (vSz (L.getD t.toNat (.i 0))) (vMay (L.getD t.toNat (.i 0))) = (true, t, true, d.set t.toNat (visL q t ad d - vSz (L.getD t.toNat (.i 0)))) := by unfold visF; rw [if_neg hr, if_neg hs]
        rw [e]
        refine .inr ⟨h0, (by show t < (L.length : Int); omega), ?_, ?_⟩
        · simp only [not_or] at hr; simpa using hr.2
        · simp only [not_or] at hr; exact hr.1
/-- A ready class is met. -/
theorem next_goes {q : List Int} {L : List D} {k : Nat} (hk : k < L.length) (hr : ready L k) (hl : L.length = q.length) (hv : ∀ x ∈ L, U (vSz x)) (hq : ∀ x ∈ L, ∀ y ∈ q, vSz x ≤ y) :
    ∀ (n : Nat) (t : Int) (d : List Int), RingOk q t d → (if t ≤ (k : Int) then (k : Int) - t else k + q.length - t) < (n : Int) → 0 ≤ (nextGo q L n t false d).1
  | 0, t, d, h, hn => by
    have h0 := h.t0; have h1 := h.tn
    split at hn <;> omega
  | n + 1, t, d, h, hn => by
    have h0 := h.t0; have h1 := h.tn; have h2 := h.l
    have hlt : t.toNat < L.length := by omega
    have hg : L.getD t.toNat (.i 0) = L[t.toNat] := by simp [hlt]
    have hU : U (vSz (L.getD t.toNat (.i 0))) := by rw [hg]; exact hv _ (List.getElem_mem hlt)
    have hok := visF_ok (ad := false) (may := vMay (L.getD t.toNat (.i 0))) h hU
    have hT := turnF_lt h0 h1
    have step : t ≠ (k : Int) → (if turnF t q.length ≤ (k : Int) then (k : Int) - turnF t q.length else k + q.length - turnF t q.length) < (n : Int) := by
      intro hne
      unfold turnF at hT ⊢
      by_cases ha : t + 1 < (q.length : Int)
      · rw [if_pos ha] at hT ⊢
        split at hn <;> split <;> omega
      · rw [if_neg ha] at hT ⊢
        rw [if_neg (by omega)] at hn
        rw [if_pos (by omega)]
        omega
    unfold nextGo
    by_cases hr' : vSz (L.getD t.toNat (.i 0)) = 0 ∨ vMay (L.getD t.toNat (.i 0)) = false
    · have e : visF q t false d (vSz (L.getD t.toNat (.i 0))) (vMay (L.getD t.toNat (.i 0))) = (false, turnF t q.length, false, d.set t.toNat 0) := by unfold visF; rw [if_pos hr']
      rw [e] at hok ⊢
      refine next_goes hk hr hl hv hq n _ _ hok (step ?_)
      rintro rfl
      simp only [Int.toNat_natCast] at hr'
      rcases hr' with e | e
      · exact hr.2 e
      · rw [hr.1] at e; cases e
    · have hs : ¬ visL q t false d < vSz (L.getD t.toNat (.i 0)) := by
        have hq' : vSz (L.getD t.toNat (.i 0)) ≤ q.getD t.toNat 0 := by
          have ht : t.toNat < q.length := by omega
          have : q.getD t.toNat 0 = q[t.toNat] := by simp [ht]
          rw [hg, this]
          exact hq _ (List.getElem_mem hlt) _ (List.getElem_mem ht)
        have u1 := getD_U (n := t.toNat) h.d (by omega)
        have := u1.lo; have := hU.hi
        unfold visL sadd
        rw [if_pos rfl]
        split <;> omega
      have e : visF q t false d (vSz (L.getD t.toNat (.i 0))) (vMay (L.getD t.toNat (.i 0))) = (true, t, true, d.set t.toNat (visL q t false d - vSz (L.getD t.toNat (.i 0)))) := by unfold visF; rw [if_neg hr', if_neg hs]
      rw [e]
      exact h0
theorem next_ok {q : List Int} {L : List D} (hl : L.length = q.length) (hv : ∀ x ∈ L, U (vSz x)) : ∀ (n : Nat) (t : Int) (ad : Bool) (d : List Int), RingOk q t d → RingOk q (nextGo q L n t ad d).2.1 (nextGo q L n t ad d).2.2.2
  | 0, t, ad, d, h => h
  | n + 1, t, ad, d, h => by
    have h0 := h.t0; have h1 := h.tn
    have hlt : t.toNat < L.length := by omega
    have hU : U (vSz (L.getD t.toNat (.i 0))) := by
      have : L.getD t.toNat (.i 0) = L[t.toNat] := by simp [hlt]
      rw [this]; exact hv _ (List.getElem_mem hlt)
    have hok := visF_ok (ad := ad) (may := vMay (L.getD t.toNat (.i 0))) h hU
    unfold nextGo
    revert hok
    rcases visF q t ad d (vSz (L.getD t.toNat (.i 0))) (vMay (L.getD t.toNat (.i 0))) with ⟨b, t', ad', d'⟩
    intro hok
    cases b with
    | true => exact hok
    | false => exact next_ok hl hv n _ _ _ hok
/-- What Next answers. -/
theorem next_law {q : List Int} {L : List D} {t : Int} {ad : Bool} {d : List Int} (h : L.length ≠ 0 → RingOk q t d) (hl : L.length = q.length) (hv : ∀ x ∈ L, U (vSz x)) :
    ((nextF q L t ad d).1 = -1 ∨ (0 ≤ (nextF q L t ad d).1 ∧ (nextF q L t ad d).1 < (L.length : Int) ∧ ready L (nextF q L t ad d).1.toNat)) ∧ (L.length ≠ 0 → RingOk q (nextF q L t ad d).2.1 (nextF q L t ad d).2.2.2) ∧
    ((∀ x ∈ L, ∀ y ∈ q, vSz x ≤ y) → ∀ k, k < L.length → ready L k → 0 ≤ (nextF q L t ad d).1) := by
  unfold nextF
  rw [if_pos hl]
  by_cases h0 : L.length = 0
  · rw [if_pos h0]
    exact ⟨.inl rfl, fun h => absurd h0 h, fun _ k hk => by omega⟩
  · rw [if_neg h0]
    have hR := h h0
    refine ⟨next_ready _ _ _ _ hR hl hv, fun _ => next_ok hl hv _ _ _ _ hR, fun hq k hk hr => ?_⟩
    have t0 := hR.t0; have t1 := hR.tn
    have hlt : t.toNat < L.length := by omega
    have hU : U (vSz (L.getD t.toNat (.i 0))) := by
      have : L.getD t.toNat (.i 0) = L[t.toNat] := by simp [hlt]
      rw [this]; exact hv _ (List.getElem_mem hlt)
    have hok := visF_ok (ad := ad) (may := vMay (L.getD t.toNat (.i 0))) hR hU
    have dist : ∀ (t' : Int), 0 ≤ t' → t' < (q.length : Int) → (if t' ≤ (k : Int) then (k : Int) - t' else k + q.length - t') < (L.length : Int) := by
      intro t' a b
      split <;> omega
    unfold nextGo
    have hT := turnF_lt t0 t1
    by_cases hr' : vSz (L.getD t.toNat (.i 0)) = 0 ∨ vMay (L.getD t.toNat (.i 0)) = false
    · have e : visF q t ad d (vSz (L.getD t.toNat (.i 0))) (vMay (L.getD t.toNat (.i 0))) = (false, turnF t q.length, false, d.set t.toNat 0) := by unfold visF; rw [if_pos hr']
      rw [e] at hok ⊢
      exact next_goes hk hr hl hv hq _ _ _ hok (dist _ hT.1 hT.2)
    · by_cases hs : visL q t ad d < vSz (L.getD t.toNat (.i 0))
      · have e : visF q t ad d (vSz (L.getD t.toNat (.i 0))) (vMay (L.getD t.toNat (.i 0))) = (false, turnF t q.length, false, d.set t.toNat (visL q t ad d)) := by unfold visF; rw [if_neg hr', if_pos hs]
        rw [e] at hok ⊢
        exact next_goes hk hr hl hv hq _ _ _ hok (dist _ hT.1 hT.2)
      · have e : visF q t ad d (vSz (L.getD t.toNat (.i 0))) (vMay (L.getD t.toNat (.i 0))) = (true, t, true, d.set t.toNat (visL q t ad d - vSz (L.getD t.toNat (.i 0)))) := by unfold visF; rw [if_neg hr', if_neg hs]
        rw [e]
        exact t0
/-- The document's example. -/
theorem p_awake : F_tollbarlaw24_awake = some true := by
  have u1 : ∀ x ∈ ([(D.l [(D.i (10 : Int)), (D.b true)]), (D.l [(D.i (10 : Int)), (D.b true)])] : List D), U (vSz x) := by
    intro x hx; simp only [List.mem_cons, List.not_mem_nil, or_false, or_self] at hx; subst hx; unfold U; decide +kernel
  have u2 : ∀ x ∈ ([(D.l [(D.i (0 : Int)), (D.b false)]), (D.l [(D.i (5 : Int)), (D.b false)])] : List D), U (vSz x) := by
    intro x hx; simp only [List.mem_cons, List.not_mem_nil, or_false] at hx; rcases hx with rfl | rfl <;> (unfold U; decide +kernel)
  have uq : ∀ x ∈ ([10, 20] : List Int), U x := by
    intro x hx; simp only [List.mem_cons, List.not_mem_nil, or_false] at hx; rcases hx with rfl | rfl <;> (unfold U; omega)
  have uz : ∀ (a b : Int), U a → U b → ∀ x ∈ ([a, b] : List Int), U x := by
    intro a b ha hb x hx; simp only [List.mem_cons, List.not_mem_nil, or_false] at hx; rcases hx with rfl | rfl <;> assumption
  have z : U 0 := by unfold U; omega
  have t : U 10 := by unfold U; omega
  have k1 : RingOk [10, 20] 0 [0, 0] := ⟨by decide, by decide, by decide, rfl, uq, uz _ _ z z⟩
  have k2 : RingOk [10, 20] 1 [0, 10] := ⟨by decide, by decide, by decide, rfl, uq, uz _ _ z t⟩
  have k3 : RingOk [10, 20] 1 [0, 0] := ⟨by decide, by decide, by decide, rfl, uq, uz _ _ z z⟩
  unfold F_tollbarlaw24_awake
  rw [p_new (by decide), show List.replicate ([10, 20] : List Int).length (0 : Int) = [0, 0] from rfl]
  dsimp only
  rw [p_next (fun _ _ => k1) u1, show nextF [10, 20] ([(D.l [(D.i (10 : Int)), (D.b true)]), (D.l [(D.i (10 : Int)), (D.b true)])] : List D) 0 false [0, 0] = (0, 0, true, [0, 0]) by decide +kernel]
  dsimp only
  rw [p_next (fun _ _ => k1) u1, show nextF [10, 20] ([(D.l [(D.i (10 : Int)), (D.b true)]), (D.l [(D.i (10 : Int)), (D.b true)])] : List D) 0 true [0, 0] = (1, 1, true, [0, 10]) by decide +kernel]
  dsimp only
  rw [p_next (fun _ _ => k2) u1, show nextF [10, 20] ([(D.l [(D.i (10 : Int)), (D.b true)]), (D.l [(D.i (10 : Int)), (D.b true)])] : List D) 1 true [0, 10] = (1, 1, true, [0, 0]) by decide +kernel]
  dsimp only
  rw [p_next (fun _ _ => k3) u1, show nextF [10, 20] ([(D.l [(D.i (10 : Int)), (D.b true)]), (D.l [(D.i (10 : Int)), (D.b true)])] : List D) 1 true [0, 0] = (0, 0, true, [0, 0]) by decide +kernel]
  dsimp only
  rw [p_state (by decide)]
  simp only [pieq, if_true]
  rw [if_pos (by decide), p_next (fun _ _ => k1) u2, show nextF [10, 20] ([(D.l [(D.i (0 : Int)), (D.b false)]), (D.l [(D.i (5 : Int)), (D.b false)])] : List D) 0 true [0, 0] = (-1, 1, false, [0, 0]) by decide +kernel]
  simp only [if_true]
  have e1 : F_drr_Ring_Restore 0 true 1 false [0, 0] [10, 20] [0, 0] = some (.inr [0, 0]) := by
    unfold F_drr_Ring_Restore
    rw [if_pos (by decide), if_neg (by decide), if_neg (by decide), p_copied (by decide)]
  rw [e1]
  dsimp only
  have e2 : F_drr_Ring_Restore_2 0 false 0 true [10, 20] [0, 0] = some () := by
    unfold F_drr_Ring_Restore_2
    rw [if_neg (by decide)]
  rw [e2]

/-- A row of tests. -/
theorem iter_tests {T : Type} {B : Int → Option (Int ⊕ T)} {n : Nat} {bad good : T} (c : Nat → Bool) (h1 : ∀ j : Nat, j < n → B (j : Int) = if c j = true then some (.inr bad) else some (.inl ((j + 1 : Nat) : Int))) (h2 : B (n : Int) = some (.inr good)) :
    iter B 0 = some (if ∃ j, j < n ∧ c j = true then bad else good) := by
  have key : ∀ m i : Nat, i + m = n → (∀ j, j < i → c j = false) → iter B (i : Int) = some (if ∃ j, j < n ∧ c j = true then bad else good) := by
    intro m
    induction m with
    | zero =>
      intro i hi hc
      have : i = n := by omega
      subst this
      rw [iter_inr h2, if_neg (by rintro ⟨j, a, b⟩; rw [hc j a] at b; cases b)]
    | succ m ih =>
      intro i hi hc
      have h := h1 i (by omega)
      cases hb : c i with
      | true =>
        rw [hb, if_pos rfl] at h
        rw [iter_inr h, if_pos ⟨i, by omega, hb⟩]
      | false =>
        rw [hb, if_neg (by simp)] at h
        rw [iter_inl h]
        refine ih (i + 1) (by omega) fun j hj => ?_
        by_cases e : j = i
        · subst e; exact hb
        · exact hc j (by omega)
  exact key n 0 (by omega) (fun j h => by omega)
/-- Is one of the first so many ready? -/
def anyR (L : List D) : Nat → Bool
  | 0 => false
  | k + 1 => anyR L k || (vMay (L.getD k (.i 0)) && decide (0 < vSz (L.getD k (.i 0))))
theorem anyR_true {L : List D} (hv : ∀ x ∈ L, U (vSz x)) : ∀ k, k ≤ L.length → (anyR L k = true ↔ ∃ j, j < k ∧ ready L j)
  | 0, _ => by simp [anyR]
  | k + 1, hk => by
    have ih := anyR_true hv k (by omega)
    have hlt : k < L.length := by omega
    have hg : L.getD k (.i 0) = L[k] := by simp [hlt]
    have hU : U (vSz (L.getD k (.i 0))) := by rw [hg]; exact hv _ (List.getElem_mem hlt)
    have h0 := hU.lo
    simp only [anyR, Bool.or_eq_true, Bool.and_eq_true, decide_eq_true_eq, ih]
    constructor
    · rintro (⟨j, h1, h2⟩ | ⟨h1, h2⟩)
      · exact ⟨j, by omega, h2⟩
      · exact ⟨k, by omega, h1, by omega⟩
    · rintro ⟨j, h1, h2⟩
      by_cases e : j = k
      · subst e; exact .inr ⟨h2.1, by have := h2.2; omega⟩
      · exact .inl ⟨j, by omega, h2⟩
theorem goes_round {q : List Int} {r : List D} {i k : Nat} {t : Int} {ad b : Bool} {d : List Int} (hi : i < r.length) (hk : k < (r[i]).toL.length) (hq : q.length ≤ 20) (hn : k < 9223372036854775807) :
    F_tollbarlaw24_DrrGoes_L2 r (i : Int) q t ad q d (b, (k : Int)) = some (if ∃ j, j < q.length ∧ ilt (getI q j) (vSz ((r[i]).toL.getD k (.i 0))) = true then .inr (.inr true) else .inl (b || (vMay ((r[i]).toL.getD k (.i 0)) && decide (0 < vSz ((r[i]).toL.getD k (.i 0)))), ((k + 1 : Nat) : Int))) := by
  have hg : getD r (toN (i : Int)) = r[i] := pgetD (by exact hi)
  have c1 : (0 : Int) ≤ (k : Int) ∧ (k : Int) < ofN (xlen (r[i]).toL) := by simp only [ofN, xlen]; omega
  have nx := pnext hn
  have e3 : ∀ b', b' = true → iter (F_tollbarlaw24_DrrGoes_L3 q (k : Int) r (i : Int)) (0 : Int) = some (if ∃ j, j < q.length ∧ ilt (getI q j) (vSz ((r[i]).toL.getD k (.i 0))) = true then .inr (.inr true) else .inl (b', ((k + 1 : Nat) : Int))) := by
    rintro _ rfl
    refine iter_tests (fun j => ilt (getI q j) (vSz ((r[i]).toL.getD k (.i 0)))) (fun j hj => ?_) ?_
    · unfold F_tollbarlaw24_DrrGoes_L3
      dsimp only
      rw [hg, if_pos (by simp only [pilt, ofN, xlen]; omega), if_pos c1, if_pos (by simp only [ofN, xlen]; omega), pnext (by omega)]
      rfl
    · unfold F_tollbarlaw24_DrrGoes_L3
      dsimp only
      rw [if_neg (by simp only [pilt, ofN, xlen]; omega), nx]
  have e4 : iter (F_tollbarlaw24_DrrGoes_L4 q (k : Int) r (i : Int)) (0 : Int) = some (if ∃ j, j < q.length ∧ ilt (getI q j) (vSz ((r[i]).toL.getD k (.i 0))) = true then .inr (.inr true) else .inl (decide (0 < vSz ((r[i]).toL.getD k (.i 0))), ((k + 1 : Nat) : Int))) := by
    refine iter_tests (fun j => ilt (getI q j) (vSz ((r[i]).toL.getD k (.i 0)))) (fun j hj => ?_) ?_
    · unfold F_tollbarlaw24_DrrGoes_L4
      dsimp only
      rw [hg, if_pos (by simp only [pilt, ofN, xlen]; omega), if_pos c1, if_pos (by simp only [ofN, xlen]; omega), pnext (by omega)]
      rfl
    · unfold F_tollbarlaw24_DrrGoes_L4
      dsimp only
      rw [if_neg (by simp only [pilt, ofN, xlen]; omega), nx, hg]
      rfl
  have e5 : iter (F_tollbarlaw24_DrrGoes_L5 q (k : Int) r (i : Int)) (0 : Int) = some (if ∃ j, j < q.length ∧ ilt (getI q j) (vSz ((r[i]).toL.getD k (.i 0))) = true then .inr (.inr true) else .inl (false, ((k + 1 : Nat) : Int))) := by
    refine iter_tests (fun j => ilt (getI q j) (vSz ((r[i]).toL.getD k (.i 0)))) (fun j hj => ?_) ?_
    · unfold F_tollbarlaw24_DrrGoes_L5
      dsimp only
      rw [hg, if_pos (by simp only [pilt, ofN, xlen]; omega), if_pos c1, if_pos (by simp only [ofN, xlen]; omega), pnext (by omega)]
      rfl
    · unfold F_tollbarlaw24_DrrGoes_L5
      dsimp only
      rw [if_neg (by simp only [pilt, ofN, xlen]; omega), nx]
  unfold F_tollbarlaw24_DrrGoes_L2
  dsimp only
  rw [hg, if_pos (by simp only [pilt]; exact c1.2)]
  cases b with
  | true => rw [if_pos rfl, e3 true rfl]; rfl
  | false =>
    simp only [Bool.false_eq_true, if_false, if_pos c1, Bool.false_or]
    have em : (D.toB (D.fld (getD (D.toL r[i]) (toN (k : Int))) 1)) = vMay ((r[i]).toL.getD k (.i 0)) := rfl
    rw [em]
    cases hm : vMay ((r[i]).toL.getD k (.i 0)) with
    | true => rw [if_pos rfl, e4]; rfl
    | false => simp only [Bool.false_eq_true, if_false, e5, Bool.false_and]
theorem goes_law {q : List Int} {r : List D} (h1 : ∀ x ∈ q, U x) (h2 : ∀ x ∈ r, ∀ y ∈ x.toL, U (vSz y)) : F_tollbarlaw24_DrrGoes q r = some true := by
  unfold F_tollbarlaw24_DrrGoes
  rw [p_awake]
  simp only [if_true, pilt, ofN, xlen]
  split
  · rfl
  rename_i hq
  split
  · rfl
  rename_i hr
  rw [p_new (by omega)]
  dsimp only
  have hq' : q.length ≤ 20 := by omega
  have hr' : r.length ≤ 120 := by omega
  have start : q.length ≠ 0 → RingOk q 0 (List.replicate q.length 0) := fun h => ⟨by omega, by omega, by omega, by simp, h1, fun x hx => by
    rw [List.mem_replicate] at hx; rw [hx.2]; unfold U; omega⟩
  -- one step's views
  have key : ∀ (m i : Nat) (t : Int) (ad : Bool) (d : List Int), i + m = r.length → (q.length ≠ 0 → RingOk q t d) → iter (F_tollbarlaw24_DrrGoes_L1 r q q) ((i : Int), t, ad, d) = some true := by
    intro m
    induction m with
    | zero =>
      intro i t ad d hi hR
      apply iter_inr
      unfold F_tollbarlaw24_DrrGoes_L1
      dsimp only
      rw [if_neg (by simp only [pilt, ofN, xlen]; omega)]
    | succ m ih =>
      intro i t ad d hi hR
      have hlt : i < r.length := by omega
      have hg : getD r (toN (i : Int)) = r[i] := pgetD (by exact hlt)
      have hv : ∀ x ∈ (r[i]).toL, U (vSz x) := h2 _ (List.getElem_mem hlt)
      by_cases hl : (r[i]).toL.length = q.length
      · have hB : F_tollbarlaw24_DrrGoes_L1 r q q ((i : Int), t, ad, d) = iter (F_tollbarlaw24_DrrGoes_L2 r (i : Int) q t ad q d) (false, 0) := by
          unfold F_tollbarlaw24_DrrGoes_L1
          dsimp only
          rw [if_pos (by simp only [pilt, ofN, xlen]; omega), if_pos (by simp only [ofN, xlen]; omega), hg, if_pos (by simp only [pieq, ofN, xlen]; omega)]
        -- the inner loop
        have inner : ∀ (m2 k : Nat), k + m2 = (r[i]).toL.length → (∀ j, j < k → ∀ y ∈ q, vSz ((r[i]).toL.getD j (.i 0)) ≤ y) →
            iter (F_tollbarlaw24_DrrGoes_L2 r (i : Int) q t ad q d) (anyR (r[i]).toL k, (k : Int)) = some (.inr true) ∨
            ∃ t' ad' d', iter (F_tollbarlaw24_DrrGoes_L2 r (i : Int) q t ad q d) (anyR (r[i]).toL k, (k : Int)) = some (.inl (((i + 1 : Nat) : Int), t', ad', d')) ∧ (q.length ≠ 0 → RingOk q t' d') := by
          intro m2
          induction m2 with
          | zero =>
            intro k hk hsz
            have hk : k = (r[i]).toL.length := by omega
            subst hk
            have hsz' : ∀ x ∈ (r[i]).toL, ∀ y ∈ q, vSz x ≤ y := by
              intro x hx y hy
              obtain ⟨j, hj, rfl⟩ := List.getElem_of_mem hx
              have := hsz j hj y hy
              simpa [hj] using this
            obtain ⟨n1, n2, n3⟩ := next_law (t := t) (ad := ad) (d := d) (fun h => hR (by omega)) hl hv
            have n3 := n3 hsz'
            have hany := anyR_true hv (r[i]).toL.length (Nat.le_refl _)
            right
            refine ⟨(nextF q (r[i]).toL t ad d).2.1, (nextF q (r[i]).toL t ad d).2.2.1, (nextF q (r[i]).toL t ad d).2.2.2, iter_inr ?_, fun h => n2 (by omega)⟩
            unfold F_tollbarlaw24_DrrGoes_L2
            dsimp only
            rw [hg, if_neg (by simp only [pilt, ofN, xlen]; omega), p_next (fun _ h => hR (by omega)) hv]
            revert n1 n2 n3
            rcases nextF q (r[i]).toL t ad d with ⟨c, t', ad', d'⟩
            intro n1 n2 n3
            dsimp only at n1 n2 n3 ⊢
            have nx := pnext (show i < 9223372036854775807 by omega)
            rcases n1 with rfl | ⟨c0, c1, c2⟩
            · have ha : anyR (r[i]).toL (r[i]).toL.length = false := by
                cases hb : anyR (r[i]).toL (r[i]).toL.length with
                | false => rfl
                | true =>
                  obtain ⟨j, j1, j2⟩ := hany.1 hb
                  have := n3 j j1 j2
                  omega
              rw [ha, if_pos (by rw [pbeq2]; rfl), if_neg (by simp only [pile, ofN, xlen]; omega), if_neg (by simp only [pile]; omega), nx]
            · have ha : anyR (r[i]).toL (r[i]).toL.length = true := hany.2 ⟨c.toNat, by omega, c2⟩
              have hc : ofN (xlen (r[i]).toL) = ((r[i]).toL.length : Int) := rfl
              have g1 : ((getD (r[i]).toL (toN c)).fld 1).toB = true := c2.1
              have g2 : ¬ ((getD (r[i]).toL (toN c)).fld 0).toI = 0 := c2.2
              rw [ha, hc, if_pos (by rw [pbeq2]; exact (pile ▸ c0)), if_neg (by simp only [pile]; omega), if_pos (by rw [pile]; exact c0), if_pos ⟨c0, c1⟩, if_pos g1, if_pos ⟨c0, c1⟩, if_neg (by rw [pieq]; exact g2), nx]
          | succ m2 ih2 =>
            intro k hk hsz
            have hkl : k < (r[i]).toL.length := by omega
            have hR2 := goes_round (t := t) (ad := ad) (d := d) (b := anyR (r[i]).toL k) hlt hkl hq' (by omega)
            by_cases hex : ∃ j, j < q.length ∧ ilt (getI q j) (vSz ((r[i]).toL.getD k (.i 0))) = true
            · rw [if_pos hex] at hR2
              exact .inl (iter_inr hR2)
            · rw [if_neg hex] at hR2
              rw [iter_inl hR2]
              refine ih2 (k + 1) (by omega) fun j hj y hy => ?_
              by_cases e : j = k
              · subst e
                obtain ⟨z, hz, rfl⟩ := List.getElem_of_mem hy
                refine Int.not_lt.1 fun hlt2 => hex ⟨z, hz, ?_⟩
                rw [pilt, pgetI hz]
                exact hlt2
              · exact hsz j (by omega) y hy
        have h0 := inner (r[i]).toL.length 0 (by omega) (fun j hj => by omega)
        rcases h0 with h0 | ⟨t', ad', d', h0, h3⟩
        · exact iter_inr (hB.trans h0)
        · rw [iter_inl (hB.trans h0)]
          exact ih (i + 1) t' ad' d' (by omega) h3
      · have hB : F_tollbarlaw24_DrrGoes_L1 r q q ((i : Int), t, ad, d) = some (.inr true) := by
          unfold F_tollbarlaw24_DrrGoes_L1
          dsimp only
          rw [if_pos (by simp only [pilt, ofN, xlen]; omega), if_pos (by simp only [ofN, xlen]; omega), hg, if_neg (by simp only [pieq, ofN, xlen]; omega)]
        exact iter_inr hB
  exact key r.length 0 0 false _ (by omega) start
end Go.Proofs.Ytmnloiadjaljdaa
end
section
/-
  What is known of arguments: their numbers fit.
-/
set_option linter.unusedVariables false
set_option linter.unusedSimpArgs false
namespace Go.Proofs.Ytmnloiadjaljdaa
theorem wf_U {x : Int} (h : (Lit.int .u64 x).wf = true) : U x := by
  have : 0 ≤ x ∧ x ≤ 18446744073709551615 := by simpa [Lit.wf, IntKind.min, IntKind.max, IntKind.signed, IntKind.bits, Int.lt_add_one_iff, Int.le_sub_one_iff] using h
  unfold U; omega
theorem wf_u32 {x : Int} (h : (Lit.int .u32 x).wf = true) : 0 ≤ x ∧ x < 4294967296 := by
  have : 0 ≤ x ∧ x ≤ 4294967295 := by simpa [Lit.wf, IntKind.min, IntKind.max, IntKind.signed, IntKind.bits, Int.lt_add_one_iff, Int.le_sub_one_iff] using h
  omega
theorem wf_u16 {x : Int} (h : (Lit.int .u16 x).wf = true) : 0 ≤ x ∧ x < 65536 := by
  have : 0 ≤ x ∧ x ≤ 65535 := by simpa [Lit.wf, IntKind.min, IntKind.max, IntKind.signed, IntKind.bits, Int.lt_add_one_iff, Int.le_sub_one_iff] using h
  omega
theorem wf_u8 {x : Int} (h : (Lit.int .u8 x).wf = true) : 0 ≤ x ∧ x < 256 := by
  have : 0 ≤ x ∧ x ≤ 255 := by simpa [Lit.wf, IntKind.min, IntKind.max, IntKind.signed, IntKind.bits, Int.lt_add_one_iff, Int.le_sub_one_iff] using h
  omega
theorem wf_i64 {x : Int} (h : (Lit.int .i64 x).wf = true) : -9223372036854775808 ≤ x ∧ x ≤ 9223372036854775807 := by
  simpa [Lit.wf, IntKind.min, IntKind.max, IntKind.signed, IntKind.bits, Int.lt_add_one_iff, Int.le_sub_one_iff] using h
end Go.Proofs.Ytmnloiadjaljdaa
end
section
/-
  DrrFair, in plain words: two classes that are always ready get on alike.
-/
set_option linter.unusedVariables false
set_option linter.unusedSimpArgs false
namespace Go.Proofs.Ytmnloiadjaljdaa

/-- What is known of the first two classes: what went, and what is left. -/
structure FI (q0 q1 S0 S1 : Int) (t : Int) (ad : Bool) (d : List Int) : Prop where
  a0 : 0 ≤ d.getD 0 0
  a1 : 0 ≤ d.getD 1 0
  k : ∃ N0 N1 : Int, d.getD 0 0 = q0 * N0 - S0 ∧ d.getD 1 0 = q1 * N1 - S1 ∧
    ((t = 0 ∧ ad = true ∧ N0 = N1 + 1 ∧ d.getD 0 0 < 1500 + q0 ∧ d.getD 1 0 < 1500) ∨ (t = 0 ∧ ad = false ∧ N0 = N1 ∧ d.getD 0 0 < 1500 ∧ d.getD 1 0 < 1500) ∨
     (t = 1 ∧ ad = true ∧ N0 = N1 ∧ d.getD 0 0 < 1500 ∧ d.getD 1 0 < 1500 + q1) ∨ (t = 1 ∧ ad = false ∧ N0 = N1 + 1 ∧ d.getD 0 0 < 1500 ∧ d.getD 1 0 < 1500) ∨
     (2 ≤ t ∧ N0 = N1 ∧ d.getD 0 0 < 1500 ∧ d.getD 1 0 < 1500))
/-- How far apart they may be. -/
def FB (q0 q1 S0 S1 : Int) : Prop := -(1500 * q1) < q1 * S0 - q0 * S1 ∧ q1 * S0 - q0 * S1 < q0 * q1 + 1500 * q0
theorem FI.bound {q0 q1 S0 S1 t : Int} {ad : Bool} {d : List Int} (h : FI q0 q1 S0 S1 t ad d) (h0 : 1500 ≤ q0) (h1 : 1500 ≤ q1) : FB q0 q1 S0 S1 := by
  obtain ⟨N0, N1, e0, e1, hc⟩ := h.k
  have b0 := h.a0; have b1 := h.a1
  generalize d.getD 0 0 = x at *
  generalize d.getD 1 0 = y at *
  have eS0 : S0 = q0 * N0 - x := by omega
  have eS1 : S1 = q1 * N1 - y := by omega
  have key : q1 * S0 - q0 * S1 = q0 * q1 * (N0 - N1) - q1 * x + q0 * y := by
    rw [eS0, eS1]
    simp only [Int.mul_sub, ← Int.mul_assoc]
    rw [Int.mul_comm q1 q0]
    omega
  have p1 : 0 ≤ q1 * x := Int.mul_nonneg (by omega) b0
  have p2 : 0 ≤ q0 * y := Int.mul_nonneg (by omega) b1
  have p3 : ∀ a : Int, x < a → q1 * x < q1 * a := fun a ha => Int.mul_lt_mul_of_pos_left ha (by omega)
  have p4 : ∀ a : Int, y < a → q0 * y < q0 * a := fun a ha => Int.mul_lt_mul_of_pos_left ha (by omega)
  unfold FB
  rw [key]
  have c1 : q1 * (1500 + q0) = 1500 * q1 + q0 * q1 := by rw [Int.mul_add, Int.mul_comm q1 1500, Int.mul_comm q1 q0]
  have c2 : q0 * (1500 + q1) = 1500 * q0 + q0 * q1 := by rw [Int.mul_add, Int.mul_comm q0 1500]
  have c3 : q1 * 1500 = 1500 * q1 := Int.mul_comm _ _
  have c4 : q0 * 1500 = 1500 * q0 := Int.mul_comm _ _
  have c5 : 0 ≤ q0 * q1 := Int.mul_nonneg (by omega) (by omega)
  rcases hc with ⟨_, _, rfl, u, v⟩ | ⟨_, _, rfl, u, v⟩ | ⟨_, _, rfl, u, v⟩ | ⟨_, _, rfl, u, v⟩ | ⟨_, rfl, u, v⟩
  · have := p3 _ u; have := p4 _ v
    rw [show N1 + 1 - N1 = (1 : Int) by omega, Int.mul_one]; omega
  · have := p3 _ u; have := p4 _ v
    rw [show N0 - N0 = (0 : Int) by omega, Int.mul_zero]; omega
  · have := p3 _ u; have := p4 _ v
    rw [show N0 - N0 = (0 : Int) by omega, Int.mul_zero]; omega
  · have := p3 _ u; have := p4 _ v
    rw [show N1 + 1 - N1 = (1 : Int) by omega, Int.mul_one]; omega
  · have := p3 _ u; have := p4 _ v
    rw [show N0 - N0 = (0 : Int) by omega, Int.mul_zero]; omega
theorem getD_set0 {d : List Int} {n m : Nat} {x : Int} (h : n < d.length) : (d.set n x).getD m 0 = if m = n then x else d.getD m 0 := by
  by_cases e : m = n
  · subst e; simp [h]
  · rw [if_neg e]
    simp [List.getElem?_set, Ne.symm e]
/-- Views of which the first two are ready, and none is great. -/
structure FV (q : List Int) (L : List D) : Prop where
  l : L.length = q.length
  n : 2 ≤ q.length
  v : ∀ x ∈ L, 0 ≤ vSz x ∧ vSz x ≤ 1500
  q : ∀ x ∈ q, 1500 ≤ x ∧ x < 67036
  r0 : vMay (L.getD 0 (.i 0)) = true ∧ 0 < vSz (L.getD 0 (.i 0))
  r1 : vMay (L.getD 1 (.i 0)) = true ∧ 0 < vSz (L.getD 1 (.i 0))
theorem FV.u {q : List Int} {L : List D} (h : FV q L) : ∀ x ∈ L, U (vSz x) := fun x hx => by have := h.v x hx; unfold U; omega
/-- A visit keeps it. -/
theorem FI.visit {q : List Int} {L : List D} {S0 S1 t : Int} {ad : Bool} {d : List Int} (hV : FV q L) (hR : RingOk q t d) (h : FI (q.getD 0 0) (q.getD 1 0) S0 S1 t ad d) :
    ∀ b t' ad' d', visF q t ad d (vSz (L.getD t.toNat (.i 0))) (vMay (L.getD t.toNat (.i 0))) = (b, t', ad', d') →
      FI (q.getD 0 0) (q.getD 1 0) (S0 + if b = true ∧ t = 0 then vSz (L.getD 0 (.i 0)) else 0) (S1 + if b = true ∧ t = 1 then vSz (L.getD 1 (.i 0)) else 0) t' ad' d' ∧ (b = true → t' = t) := by
  intro b t' ad' d' hv
  have t0 := hR.t0; have tn := hR.tn; have hl := hR.l; have n2 := hV.n
  have hq0 : 1500 ≤ q.getD 0 0 ∧ q.getD 0 0 < 67036 := by
    have : q.getD 0 0 = q[0] := by simp [show 0 < q.length by omega]
    rw [this]; exact hV.q _ (List.getElem_mem _)
  have hq1 : 1500 ≤ q.getD 1 0 ∧ q.getD 1 0 < 67036 := by
    have : q.getD 1 0 = q[1] := by simp [show 1 < q.length by omega]
    rw [this]; exact hV.q _ (List.getElem_mem _)
  have s0 : vSz (L.getD 0 (.i 0)) ≤ 1500 := by
    have hh : 0 < L.length := by have := hV.l; omega
    have : L.getD 0 (.i 0) = L[0] := by simp [hh]
    rw [this]; exact (hV.v _ (List.getElem_mem _)).2
  have s1 : vSz (L.getD 1 (.i 0)) ≤ 1500 := by
    have hh : 1 < L.length := by have := hV.l; omega
    have : L.getD 1 (.i 0) = L[1] := by simp [hh]
    rw [this]; exact (hV.v _ (List.getElem_mem _)).2
  obtain ⟨N0, N1, e0, e1, hc⟩ := h.k
  have b0 := h.a0; have b1 := h.a1
  have hT : turnF t q.length = if t + 1 < (q.length : Int) then t + 1 else 0 := rfl
  by_cases c0 : t = 0
  · subst c0
    have hf : (ad = true → N0 = N1 + 1 ∧ d.getD 0 0 < 1500 + q.getD 0 0) ∧ (ad = false → N0 = N1 ∧ d.getD 0 0 < 1500) ∧ d.getD 1 0 < 1500 := by
      rcases hc with ⟨_, h1, h2, h3, h4⟩ | ⟨_, h1, h2, h3, h4⟩ | ⟨h, _⟩ | ⟨h, _⟩ | ⟨h, _⟩
      · exact ⟨fun _ => ⟨h2, h3⟩, fun h => (by rw [h1] at h; cases h), h4⟩
      · exact ⟨fun h => (by rw [h1] at h; cases h), fun _ => ⟨h2, h3⟩, h4⟩
      all_goals omega
    clear hc
    obtain ⟨f1, f2, f3⟩ := hf
    unfold visF at hv
    simp only [show (0 : Int).toNat = 0 from rfl] at hv
    rw [if_neg (by rw [hV.r0.1]; have := hV.r0.2; rintro (h | h)
                   · omega
                   · cases h)] at hv
    have hL : visL q 0 ad d = d.getD 0 0 + (if ad = false then q.getD 0 0 else 0) ∧ visL q 0 ad d < 1500 + q.getD 0 0 := by
      clear e0 e1
      unfold visL sadd
      rw [show (0 : Int).toNat = 0 from rfl]
      cases ad with
      | true => have := f1 rfl; simp only [Bool.true_eq_false, if_false]; omega
      | false => have := f2 rfl; simp only [if_true]; rw [if_pos (by omega)]; omega
    have hd : 0 < d.length := by omega
    by_cases hs : visL q 0 ad d < vSz (L.getD 0 (.i 0))
    · rw [if_pos hs] at hv
      simp only [Prod.mk.injEq] at hv
      obtain ⟨rfl, rfl, rfl, rfl⟩ := hv
      rw [if_neg (by simp), if_neg (by simp), Int.add_zero, Int.add_zero, hT, if_pos (by omega)]
      refine ⟨⟨?_, ?_, N0 + (if ad = false then 1 else 0), N1, ?_, ?_, ?_⟩, by simp⟩
      · rw [getD_set0 hd, if_pos rfl, hL.1]; split <;> omega
      · rw [getD_set0 hd, if_neg (by omega)]; exact b1
      · rw [getD_set0 hd, if_pos rfl, hL.1, e0]
        cases ad with
        | true => simp only [Bool.true_eq_false, if_false, Int.add_zero]; (try omega)
        | false => simp only [if_true, Int.mul_add, Int.mul_one]; (try omega)
      · rw [getD_set0 hd, if_neg (by omega)]; exact e1
      · refine .inr (.inr (.inr (.inl ⟨by omega, rfl, ?_, ?_, ?_⟩)))
        · cases ad with
          | true => have := f1 rfl; simp; omega
          | false => have := f2 rfl; simp; omega
        · rw [getD_set0 hd, if_pos rfl]; omega
        · rw [getD_set0 hd, if_neg (by omega)]; omega
    · rw [if_neg hs] at hv
      simp only [Prod.mk.injEq] at hv
      obtain ⟨rfl, rfl, rfl, rfl⟩ := hv
      rw [if_pos (by simp), if_neg (by simp), Int.add_zero]
      refine ⟨⟨?_, ?_, N0 + (if ad = false then 1 else 0), N1, ?_, ?_, ?_⟩, by simp⟩
      · rw [getD_set0 hd, if_pos rfl]; omega
      · rw [getD_set0 hd, if_neg (by omega)]; exact b1
      · rw [getD_set0 hd, if_pos rfl, hL.1, e0]
        cases ad with
        | true => simp only [Bool.true_eq_false, if_false, Int.add_zero]; (try omega)
        | false => simp only [if_true, Int.mul_add, Int.mul_one]; (try omega)
      · rw [getD_set0 hd, if_neg (by omega)]; exact e1
      · refine .inl ⟨rfl, rfl, ?_, ?_, ?_⟩
        · cases ad with
          | true => have := f1 rfl; simp; omega
          | false => have := f2 rfl; simp; omega
        · rw [getD_set0 hd, if_pos rfl]; have := hV.r0.2; omega
        · rw [getD_set0 hd, if_neg (by omega)]; omega
  · by_cases c1 : t = 1
    · subst c1
      have hf : (ad = true → N0 = N1 ∧ d.getD 1 0 < 1500 + q.getD 1 0) ∧ (ad = false → N0 = N1 + 1 ∧ d.getD 1 0 < 1500) ∧ d.getD 0 0 < 1500 := by
        rcases hc with ⟨h, _⟩ | ⟨h, _⟩ | ⟨_, h1, h2, h3, h4⟩ | ⟨_, h1, h2, h3, h4⟩ | ⟨h, _⟩
        · omega
        · omega
        · exact ⟨fun _ => ⟨h2, h4⟩, fun h => (by rw [h1] at h; cases h), h3⟩
        · exact ⟨fun h => (by rw [h1] at h; cases h), fun _ => ⟨h2, h4⟩, h3⟩
        · omega
      clear hc
      obtain ⟨f1, f2, f3⟩ := hf
      unfold visF at hv
      simp only [show (1 : Int).toNat = 1 from rfl] at hv
      rw [if_neg (by rw [hV.r1.1]; have := hV.r1.2; rintro (h | h)
                     · omega
                     · cases h)] at hv
      have hL : visL q 1 ad d = d.getD 1 0 + (if ad = false then q.getD 1 0 else 0) ∧ visL q 1 ad d < 1500 + q.getD 1 0 := by
        clear e0 e1
        unfold visL sadd
        rw [show (1 : Int).toNat = 1 from rfl]
        cases ad with
        | true => have := f1 rfl; simp only [Bool.true_eq_false, if_false]; omega
        | false => have := f2 rfl; simp only [if_true]; rw [if_pos (by omega)]; omega
      have hd : 1 < d.length := by omega
      by_cases hs : visL q 1 ad d < vSz (L.getD 1 (.i 0))
      · rw [if_pos hs] at hv
        simp only [Prod.mk.injEq] at hv
        obtain ⟨rfl, rfl, rfl, rfl⟩ := hv
        rw [if_neg (by simp), if_neg (by simp), Int.add_zero, Int.add_zero, hT]
        refine ⟨⟨?_, ?_, N0, N1 + (if ad = false then 1 else 0), ?_, ?_, ?_⟩, by simp⟩
        · rw [getD_set0 hd, if_neg (by omega)]; exact b0
        · rw [getD_set0 hd, if_pos rfl, hL.1]; split <;> omega
        · rw [getD_set0 hd, if_neg (by omega)]; exact e0
        · rw [getD_set0 hd, if_pos rfl, hL.1, e1]
          cases ad with
          | true => simp only [Bool.true_eq_false, if_false, Int.add_zero]; (try omega)
          | false => simp only [if_true, Int.mul_add, Int.mul_one]; (try omega)
        · have g0 : (d.set 1 (visL q 1 ad d)).getD 0 0 < 1500 := by
            rw [getD_set0 hd, if_neg (by omega)]; omega
          have g1 : (d.set 1 (visL q 1 ad d)).getD 1 0 < 1500 := by
            rw [getD_set0 hd, if_pos rfl]; omega
          have gN : N0 = N1 + (if ad = false then 1 else 0) := by
            cases ad with
            | true => have := f1 rfl; simp; omega
            | false => have := f2 rfl; simp; omega
          split
          · exact .inr (.inr (.inr (.inr ⟨by omega, gN, g0, g1⟩)))
          · exact .inr (.inl ⟨rfl, rfl, gN, g0, g1⟩)
      · rw [if_neg hs] at hv
        simp only [Prod.mk.injEq] at hv
        obtain ⟨rfl, rfl, rfl, rfl⟩ := hv
        rw [if_neg (by simp), if_pos (by simp), Int.add_zero]
        refine ⟨⟨?_, ?_, N0, N1 + (if ad = false then 1 else 0), ?_, ?_, ?_⟩, by simp⟩
        · rw [getD_set0 hd, if_neg (by omega)]; exact b0
        · rw [getD_set0 hd, if_pos rfl]; omega
        · rw [getD_set0 hd, if_neg (by omega)]; exact e0
        · rw [getD_set0 hd, if_pos rfl, hL.1, e1]
          cases ad with
          | true => simp only [Bool.true_eq_false, if_false, Int.add_zero]; (try omega)
          | false => simp only [if_true, Int.mul_add, Int.mul_one]; (try omega)
        · refine .inr (.inr (.inl ⟨rfl, rfl, ?_, ?_, ?_⟩))
          · cases ad with
          | true => have := f1 rfl; simp; omega
          | false => have := f2 rfl; simp; omega
          · rw [getD_set0 hd, if_neg (by omega)]; omega
          · rw [getD_set0 hd, if_pos rfl]; have := hV.r1.2; omega
    · have ht2 : 2 ≤ t := by omega
      have hd : t.toNat < d.length := by omega
      have g0 : ∀ x : Int, (d.set t.toNat x).getD 0 0 = d.getD 0 0 := fun x => by rw [getD_set0 hd, if_neg (by omega)]
      have g1 : ∀ x : Int, (d.set t.toNat x).getD 1 0 = d.getD 1 0 := fun x => by rw [getD_set0 hd, if_neg (by omega)]
      have hN : N0 = N1 ∧ d.getD 0 0 < 1500 ∧ d.getD 1 0 < 1500 := by omega
      have hc0 : (if b = true ∧ t = 0 then vSz (L.getD 0 (.i 0)) else 0) = 0 := if_neg (by omega)
      have hc1 : (if b = true ∧ t = 1 then vSz (L.getD 1 (.i 0)) else 0) = 0 := if_neg (by omega)
      rw [hc0, hc1, Int.add_zero, Int.add_zero]
      have nxt : ∀ x : Int, FI (q.getD 0 0) (q.getD 1 0) S0 S1 (turnF t q.length) false (d.set t.toNat x) := by
        intro x
        refine ⟨by rw [g0]; exact b0, by rw [g1]; exact b1, N0, N1, by rw [g0]; exact e0, by rw [g1]; exact e1, ?_⟩
        rw [g0, g1, hT]
        split
        · exact .inr (.inr (.inr (.inr ⟨by omega, hN⟩)))
        · exact .inr (.inl ⟨rfl, rfl, hN⟩)
      unfold visF at hv
      split at hv
      · simp only [Prod.mk.injEq] at hv
        obtain ⟨rfl, rfl, rfl, rfl⟩ := hv
        exact ⟨nxt _, by simp⟩
      · split at hv
        · simp only [Prod.mk.injEq] at hv
          obtain ⟨rfl, rfl, rfl, rfl⟩ := hv
          exact ⟨nxt _, by simp⟩
        · simp only [Prod.mk.injEq] at hv
          obtain ⟨rfl, rfl, rfl, rfl⟩ := hv
          refine ⟨⟨by rw [g0]; exact b0, by rw [g1]; exact b1, N0, N1, by rw [g0]; exact e0, by rw [g1]; exact e1, ?_⟩, fun _ => rfl⟩
          rw [g0, g1]
          exact .inr (.inr (.inr (.inr ⟨ht2, hN⟩)))
/-- All visits keep it. -/
theorem FI.go {q : List Int} {L : List D} (hV : FV q L) : ∀ (n : Nat) (S0 S1 t : Int) (ad : Bool) (d : List Int), RingOk q t d → FI (q.getD 0 0) (q.getD 1 0) S0 S1 t ad d →
    FI (q.getD 0 0) (q.getD 1 0) (S0 + if (nextGo q L n t ad d).1 = 0 then vSz (L.getD 0 (.i 0)) else 0) (S1 + if (nextGo q L n t ad d).1 = 1 then vSz (L.getD 1 (.i 0)) else 0) (nextGo q L n t ad d).2.1 (nextGo q L n t ad d).2.2.1 (nextGo q L n t ad d).2.2.2
  | 0, S0, S1, t, ad, d, hR, h => by
    have e : (nextGo q L 0 t ad d).1 = -1 := rfl
    rw [if_neg (by rw [e]; omega), if_neg (by rw [e]; omega), Int.add_zero, Int.add_zero]
    exact h
  | n + 1, S0, S1, t, ad, d, hR, h => by
    have t0 := hR.t0; have tn := hR.tn; have hl := hV.l
    have hlt : t.toNat < L.length := by omega
    have hU : U (vSz (L.getD t.toNat (.i 0))) := by
      have : L.getD t.toNat (.i 0) = L[t.toNat] := by simp [hlt]
      rw [this]; exact hV.u _ (List.getElem_mem hlt)
    have hok := visF_ok (ad := ad) (may := vMay (L.getD t.toNat (.i 0))) hR hU
    have hvis := h.visit hV hR
    unfold nextGo
    revert hok hvis
    rcases visF q t ad d (vSz (L.getD t.toNat (.i 0))) (vMay (L.getD t.toNat (.i 0))) with ⟨b, t', ad', d'⟩
    intro hok hvis
    have hvis := hvis b t' ad' d' rfl
    cases b with
    | true =>
      obtain ⟨h1, h2⟩ := hvis
      have h2 := h2 rfl
      subst h2
      simpa using h1
    | false =>
      obtain ⟨h1, h2⟩ := hvis
      have h1 : FI (q.getD 0 0) (q.getD 1 0) S0 S1 t' ad' d' := by simpa using h1
      exact FI.go hV n S0 S1 t' ad' d' hok h1
end Go.Proofs.Ytmnloiadjaljdaa
end
section
/-
  DrrFair, in plain words: the law.
-/
set_option linter.unusedVariables false
set_option linter.unusedSimpArgs false
namespace Go.Proofs.Ytmnloiadjaljdaa

/-- What went of a class, among the first so many. -/
def sm (c : Int) (w b : List Int) : Nat → Int
  | 0 => 0
  | i + 1 => sm c w b i + if w.getD i 0 = c then b.getD i 0 else 0
theorem sm_app (c x y : Int) {w b : List Int} (h : w.length = b.length) : ∀ i, i ≤ w.length → sm c (w ++ [x]) (b ++ [y]) i = sm c w b i
  | 0, _ => rfl
  | i + 1, hi => by
    simp only [sm]
    rw [sm_app c x y h i (by omega)]
    have e1 : (w ++ [x]).getD i 0 = w.getD i 0 := by simp [List.getElem?_append_left (show i < w.length by omega)]
    have e2 : (b ++ [y]).getD i 0 = b.getD i 0 := by simp [List.getElem?_append_left (show i < b.length by omega)]
    rw [e1, e2]
theorem sm_last (c x y : Int) {w b : List Int} (h : w.length = b.length) : sm c (w ++ [x]) (b ++ [y]) (w.length + 1) = sm c w b w.length + if x = c then y else 0 := by
  simp only [sm]
  rw [sm_app c x y h w.length (Nat.le_refl _)]
  have e1 : (w ++ [x]).getD w.length 0 = x := by simp
  have e2 : (b ++ [y]).getD w.length 0 = y := by rw [h]; simp
  rw [e1, e2]
theorem sm_le (c : Int) {w b : List Int} (hb : ∀ x ∈ b, 0 ≤ x ∧ x ≤ 1500) : ∀ i, 0 ≤ sm c w b i ∧ sm c w b i ≤ 1500 * (i : Int)
  | 0 => by simp [sm]
  | i + 1 => by
    have ih := sm_le c (w := w) hb i
    have hx : 0 ≤ b.getD i 0 ∧ b.getD i 0 ≤ 1500 := by
      by_cases h : i < b.length
      · have : b.getD i 0 = b[i] := by simp [h]
        rw [this]; exact hb _ (List.getElem_mem h)
      · have : b.getD i 0 = 0 := by simp [List.getElem?_eq_none (show b.length ≤ i by omega)]
        rw [this]; omega
    simp only [sm]
    split <;> omega
theorem sm_mono (c : Int) {w b : List Int} (hb : ∀ x ∈ b, 0 ≤ x ∧ x ≤ 1500) (i : Nat) : ∀ n, sm c w b i ≤ sm c w b (i + n)
  | 0 => Int.le_refl _
  | n + 1 => by
    have ih := sm_mono c (w := w) hb i n
    have h1 := sm_le c (w := w) hb (i + n)
    have hx : 0 ≤ b.getD (i + n) 0 := by
      by_cases h : i + n < b.length
      · have : b.getD (i + n) 0 = b[i + n] := by simp [h]
        rw [this]; exact (hb _ (List.getElem_mem h)).1
      · have : b.getD (i + n) 0 = 0 := by simp [List.getElem?_eq_none (show b.length ≤ i + n by omega)]
        rw [this]; omega
    rw [← Nat.add_assoc]
    simp only [sm]
    split <;> omega

theorem getI_setI {l : List Int} {k : Nat} (h : k < l.length) (v : Int) : getI (setI l (toN (k : Int)) v) (toN (k : Int)) = v := by simp [getI, setI, toN, h]
theorem xlen_setI (l : List Int) (k : Nat) (v : Int) : xlen (setI l k v) = xlen l := by simp [xlen, setI]
/-- A view more. -/
theorem fair_round {q : List Int} {r1 r2 : List D} {t : Int} {ad : Bool} {m1 l8 l6 l7 l10 : List Int} {r6 : List D} {i k : Nat} (hk : k < q.length) (hl : l10.length = q.length) (hi : i < r1.length) (hi2 : i < r2.length) (hn : q.length ≤ 5) (h6 : r6.length = k)
    (hb : ∀ x ∈ l10, 0 ≤ x ∧ x ≤ 1500) (hz : ∀ x ∈ (r1[i]).toIs, 0 ≤ x ∧ x < 65536) :
    ∃ v o, F_tollbarlaw24_DrrFair_L3 q (i : Int) r1 r2 t ad m1 l8 l6 l7 ((k : Int), l10, r6) = some (.inl (((k + 1 : Nat) : Int), l10.set k v, r6 ++ [.l [.i v, .b o]])) ∧ 1 ≤ v ∧ v ≤ 1500 ∧ (k < 2 → o = true) := by
  have hk10 : k < l10.length := by omega
  have hg1 : getD r1 (toN (i : Int)) = r1[i] := pgetD (by exact hi)
  have hg2 : getD r2 (toN (i : Int)) = r2[i] := pgetD (by exact hi2)
  have nx := pnext (show k < 9223372036854775807 by omega)
  have ci1 : (0 : Int) ≤ (i : Int) ∧ (i : Int) < ofN (xlen r1) := by simp only [ofN, xlen]; omega
  have ci2 : (0 : Int) ≤ (i : Int) ∧ (i : Int) < ofN (xlen r2) := by simp only [ofN, xlen]; omega
  have ck : (0 : Int) ≤ (k : Int) ∧ (k : Int) < ofN (xlen l10) := by simp only [ofN, xlen]; omega
  have ckq : ilt (k : Int) (ofN (xlen q)) = true := by simp only [pilt, ofN, xlen]; omega
  have cset : ∀ v : Int, (0 : Int) ≤ (k : Int) ∧ (k : Int) < ofN (xlen (setI l10 (toN (k : Int)) v)) := fun v => by rw [xlen_setI]; exact ck
  have mem : ∀ x : D, (((xlen r6 : Nat) : Int) + ((xlen ([x] : List D) : Nat) : Int)) * ((16 : Nat) : Int) ≤ 140737488355328 := fun x => by simp [xlen]; omega
  have e10 : getI l10 (toN (k : Int)) = l10[k] := pgetI (by exact hk10)
  have hx := hb _ (List.getElem_mem hk10)
  have self : l10.set k l10[k] = l10 := by simp
  have hset : ∀ v : Int, setI l10 (toN (k : Int)) v = l10.set k v := fun v => rfl
  have hk2 : (ilt (k : Int) 2 = true) = (k < 2) := by rw [pilt]; simp only [eq_iff_iff]; omega
  -- the size, by whether there is one
  by_cases h0 : l10[k] = 0
  · by_cases hs : k < (r1[i]).toIs.length
    · have cs : ilt (k : Int) (ofN (xlen (r1[i]).toIs)) = true := by simp only [pilt, ofN, xlen]; omega
      have cs2 : (0 : Int) ≤ (k : Int) ∧ (k : Int) < ofN (xlen (r1[i]).toIs) := by simp only [ofN, xlen]; omega
      have es : getI (r1[i]).toIs (toN (k : Int)) = (r1[i]).toIs[k] := pgetI (by exact hs)
      have hsz := hz _ (List.getElem_mem hs)
      have ev : iadd .u64 (irem (iconv .u64 (getI (r1[i]).toIs (toN (k : Int)))) 1500) 1 = (r1[i]).toIs[k] % 1500 + 1 := by
        rw [es]
        simp only [iadd, irem, iconv]
        rw [pu64 hsz.1 (by omega), Int.tmod_eq_emod_of_nonneg hsz.1, pu64 (by omega) (by omega)]
      by_cases h2 : k < 2
      · refine ⟨(r1[i]).toIs[k] % 1500 + 1, true, ?_, by omega, by omega, fun _ => rfl⟩
        unfold F_tollbarlaw24_DrrFair_L3
        dsimp only
        rw [if_pos ckq, if_pos ck, if_pos (by rw [pieq, e10]; exact h0), if_pos ci1, hg1, if_pos cs, if_pos ci1, if_pos cs2, if_pos ck, ev, if_pos (cset _), if_neg (by rw [pieq, getI_setI hk10]; omega), if_pos (by rw [hk2]; exact h2), if_pos (cset _), if_pos (mem _), getI_setI hk10, nx]
        rfl
      · by_cases ho : k < (r2[i]).toL.length
        · have co : ilt (k : Int) (ofN (xlen (r2[i]).toL)) = true := by simp only [pilt, ofN, xlen]; omega
          have co2 : (0 : Int) ≤ (k : Int) ∧ (k : Int) < ofN (xlen (r2[i]).toL) := by simp only [ofN, xlen]; omega
          refine ⟨(r1[i]).toIs[k] % 1500 + 1, (getD (r2[i]).toL (toN (k : Int))).toB, ?_, by omega, by omega, fun h => absurd h h2⟩
          unfold F_tollbarlaw24_DrrFair_L3
          dsimp only
          rw [if_pos ckq, if_pos ck, if_pos (by rw [pieq, e10]; exact h0), if_pos ci1, hg1, hg2, if_pos cs, if_pos ci1, if_pos cs2, if_pos ck, ev, if_pos (cset _), if_neg (by rw [pieq, getI_setI hk10]; omega), if_neg (by rw [hk2]; exact h2), if_pos ci2, if_pos co, if_pos ci2, if_pos co2, if_pos (cset _), if_pos (mem _), getI_setI hk10, nx]
          rfl
        · have co : ¬ ilt (k : Int) (ofN (xlen (r2[i]).toL)) = true := by simp only [pilt, ofN, xlen]; omega
          refine ⟨(r1[i]).toIs[k] % 1500 + 1, false, ?_, by omega, by omega, fun h => absurd h h2⟩
          unfold F_tollbarlaw24_DrrFair_L3
          dsimp only
          rw [if_pos ckq, if_pos ck, if_pos (by rw [pieq, e10]; exact h0), if_pos ci1, hg1, hg2, if_pos cs, if_pos ci1, if_pos cs2, if_pos ck, ev, if_pos (cset _), if_neg (by rw [pieq, getI_setI hk10]; omega), if_neg (by rw [hk2]; exact h2), if_pos ci2, if_neg co, if_pos (cset _), if_pos (mem _), getI_setI hk10, nx]
          rfl
    · have cs : ¬ ilt (k : Int) (ofN (xlen (r1[i]).toIs)) = true := by simp only [pilt, ofN, xlen]; omega
      by_cases h2 : k < 2
      · refine ⟨700, true, ?_, by omega, by omega, fun _ => rfl⟩
        unfold F_tollbarlaw24_DrrFair_L3
        dsimp only
        rw [if_pos ckq, if_pos ck, if_pos (by rw [pieq, e10]; exact h0), if_pos ci1, hg1, if_neg cs, if_pos ck, if_pos (by rw [pieq, e10]; exact h0), if_pos ck, if_pos (by rw [hk2]; exact h2), if_pos (cset _), if_pos (mem _), getI_setI hk10, nx]
        rfl
      · by_cases ho : k < (r2[i]).toL.length
        · have co : ilt (k : Int) (ofN (xlen (r2[i]).toL)) = true := by simp only [pilt, ofN, xlen]; omega
          have co2 : (0 : Int) ≤ (k : Int) ∧ (k : Int) < ofN (xlen (r2[i]).toL) := by simp only [ofN, xlen]; omega
          refine ⟨700, (getD (r2[i]).toL (toN (k : Int))).toB, ?_, by omega, by omega, fun h => absurd h h2⟩
          unfold F_tollbarlaw24_DrrFair_L3
          dsimp only
          rw [if_pos ckq, if_pos ck, if_pos (by rw [pieq, e10]; exact h0), if_pos ci1, hg1, hg2, if_neg cs, if_pos ck, if_pos (by rw [pieq, e10]; exact h0), if_pos ck, if_neg (by rw [hk2]; exact h2), if_pos ci2, if_pos co, if_pos ci2, if_pos co2, if_pos (cset _), if_pos (mem _), getI_setI hk10, nx]
          rfl
        · have co : ¬ ilt (k : Int) (ofN (xlen (r2[i]).toL)) = true := by simp only [pilt, ofN, xlen]; omega
          refine ⟨700, false, ?_, by omega, by omega, fun h => absurd h h2⟩
          unfold F_tollbarlaw24_DrrFair_L3
          dsimp only
          rw [if_pos ckq, if_pos ck, if_pos (by rw [pieq, e10]; exact h0), if_pos ci1, hg1, hg2, if_neg cs, if_pos ck, if_pos (by rw [pieq, e10]; exact h0), if_pos ck, if_neg (by rw [hk2]; exact h2), if_pos ci2, if_neg co, if_pos (cset _), if_pos (mem _), getI_setI hk10, nx]
          rfl
  · by_cases h2 : k < 2
    · refine ⟨l10[k], true, ?_, by omega, by omega, fun _ => rfl⟩
      unfold F_tollbarlaw24_DrrFair_L3
      dsimp only
      rw [if_pos ckq, if_pos ck, if_neg (by rw [pieq, e10]; exact h0), if_pos ck, if_neg (by rw [pieq, e10]; exact h0), if_pos (by rw [hk2]; exact h2), if_pos ck, if_pos (mem _), e10, nx, self]
      rfl
    · by_cases ho : k < (r2[i]).toL.length
      · have co : ilt (k : Int) (ofN (xlen (r2[i]).toL)) = true := by simp only [pilt, ofN, xlen]; omega
        have co2 : (0 : Int) ≤ (k : Int) ∧ (k : Int) < ofN (xlen (r2[i]).toL) := by simp only [ofN, xlen]; omega
        refine ⟨l10[k], (getD (r2[i]).toL (toN (k : Int))).toB, ?_, by omega, by omega, fun h => absurd h h2⟩
        unfold F_tollbarlaw24_DrrFair_L3
        dsimp only
        rw [if_pos ckq, if_pos ck, if_neg (by rw [pieq, e10]; exact h0), if_pos ck, if_neg (by rw [pieq, e10]; exact h0), if_neg (by rw [hk2]; exact h2), hg2, if_pos ci2, if_pos co, if_pos ci2, if_pos co2, if_pos ck, if_pos (mem _), e10, nx, self]
        rfl
      · have co : ¬ ilt (k : Int) (ofN (xlen (r2[i]).toL)) = true := by simp only [pilt, ofN, xlen]; omega
        refine ⟨l10[k], false, ?_, by omega, by omega, fun h => absurd h h2⟩
        unfold F_tollbarlaw24_DrrFair_L3
        dsimp only
        rw [if_pos ckq, if_pos ck, if_neg (by rw [pieq, e10]; exact h0), if_pos ck, if_neg (by rw [pieq, e10]; exact h0), if_neg (by rw [hk2]; exact h2), hg2, if_pos ci2, if_neg co, if_pos ck, if_pos (mem _), e10, nx, self]
        rfl
end Go.Proofs.Ytmnloiadjaljdaa
end
section
/-
  DrrFair, in plain words: the law, its loops.
-/
set_option linter.unusedVariables false
set_option linter.unusedSimpArgs false
namespace Go.Proofs.Ytmnloiadjaljdaa

theorem fair_test {q0 q1 a b : Int} (h0 : 1500 ≤ q0 ∧ q0 < 67036) (h1 : 1500 ≤ q1 ∧ q1 < 67036) (ha : 0 ≤ a ∧ a ≤ 90000) (hb : 0 ≤ b ∧ b ≤ 90000) (hd : a * q1 - b * q0 < q0 * q1 + 1500 * (q0 + q1)) (he : b * q0 - a * q1 < q0 * q1 + 1500 * (q0 + q1)) :
    ¬ ile (iadd .u64 (imul .u64 q0 q1) (imul .u64 1500 (iadd .u64 q0 q1))) (isub .u64 (imax (imul .u64 a q1) (imul .u64 b q0)) (imin (imul .u64 a q1) (imul .u64 b q0))) = true := by
  have b1 : 0 ≤ a * q1 ∧ a * q1 ≤ 90000 * 67036 := ⟨Int.mul_nonneg ha.1 (by omega), Int.mul_le_mul ha.2 (by omega) (by omega) (by omega)⟩
  have b2 : 0 ≤ b * q0 ∧ b * q0 ≤ 90000 * 67036 := ⟨Int.mul_nonneg hb.1 (by omega), Int.mul_le_mul hb.2 (by omega) (by omega) (by omega)⟩
  have b3 : 0 ≤ q0 * q1 ∧ q0 * q1 ≤ 67036 * 67036 := ⟨Int.mul_nonneg (by omega) (by omega), Int.mul_le_mul (by omega) (by omega) (by omega) (by omega)⟩
  have e1 : imul .u64 a q1 = a * q1 := pu64 b1.1 (by omega)
  have e2 : imul .u64 b q0 = b * q0 := pu64 b2.1 (by omega)
  have e3 : imul .u64 q0 q1 = q0 * q1 := pu64 b3.1 (by omega)
  have e4 : iadd .u64 q0 q1 = q0 + q1 := pu64 (by omega) (by omega)
  have e5 : imul .u64 1500 (q0 + q1) = 1500 * (q0 + q1) := pu64 (by omega) (by omega)
  rw [e1, e2, e3, e4, e5, pimax, pimin]
  generalize a * q1 = x at *
  generalize b * q0 = y at *
  generalize q0 * q1 = z at *
  have e6 : iadd .u64 z (1500 * (q0 + q1)) = z + 1500 * (q0 + q1) := pu64 (by omega) (by omega)
  have e7 : isub .u64 (max x y) (min x y) = max x y - min x y := pu64 (by omega) (by omega)
  rw [e6, e7, pile]
  omega
/-- What is known of all that went. -/
structure FW (q w b : List Int) : Prop where
  l : w.length = b.length
  n : w.length ≤ 60
  z : ∀ x ∈ b, 0 ≤ x ∧ x ≤ 1500
  f : ∀ j, j ≤ w.length → FB (q.getD 0 0) (q.getD 1 0) (sm 0 w b j) (sm 1 w b j)
theorem fair_win {q w b : List Int} (h : FW q w b) (n2 : 2 ≤ q.length) (hq : ∀ x ∈ q, 1500 ≤ x ∧ x < 67036) {fr : Nat} : ∀ (m i : Nat), fr ≤ i → i + m = w.length →
    iter (F_tollbarlaw24_DrrFair_L5 w b q (fr : Int)) (sm 0 w b i - sm 0 w b fr, sm 1 w b i - sm 1 w b fr, (i : Int)) = some (.inl ((fr + 1 : Nat) : Int)) := by
  have hn := h.n
  have hq0 : 1500 ≤ q.getD 0 0 ∧ q.getD 0 0 < 67036 := by
    have : q.getD 0 0 = q[0] := by simp [show 0 < q.length by omega]
    rw [this]; exact hq _ (List.getElem_mem _)
  have hq1 : 1500 ≤ q.getD 1 0 ∧ q.getD 1 0 < 67036 := by
    have : q.getD 1 0 = q[1] := by simp [show 1 < q.length by omega]
    rw [this]; exact hq _ (List.getElem_mem _)
  intro m
  induction m with
  | zero =>
    intro i hf hi
    apply iter_inr
    unfold F_tollbarlaw24_DrrFair_L5
    dsimp only
    rw [if_neg (by simp only [pilt, ofN, xlen]; omega), pnext (by omega)]
  | succ m ih =>
    intro i hf hi
    have c1 : (0 : Int) ≤ (i : Int) ∧ (i : Int) < ofN (xlen w) := by simp only [ofN, xlen]; omega
    have c2 : (0 : Int) ≤ (i : Int) ∧ (i : Int) < ofN (xlen b) := by have := h.l; simp only [ofN, xlen]; omega
    have cl : ilt (i : Int) (ofN (xlen w)) = true := by rw [pilt]; exact c1.2
    have g0 : (0 : Int) ≤ 0 ∧ (0 : Int) < ofN (xlen q) := by simp only [ofN, xlen]; omega
    have g1 : (0 : Int) ≤ 1 ∧ (1 : Int) < ofN (xlen q) := by simp only [ofN, xlen]; omega
    have ew : getI w (toN (i : Int)) = w.getD i 0 := rfl
    have eb : getI b (toN (i : Int)) = b.getD i 0 := rfl
    have e0 : getI q (toN 0) = q.getD 0 0 := rfl
    have e1 : getI q (toN 1) = q.getD 1 0 := rfl
    have s0 := sm_le 0 (w := w) h.z i
    have s1 := sm_le 1 (w := w) h.z i
    have s0' := sm_le 0 (w := w) h.z (i + 1)
    have s1' := sm_le 1 (w := w) h.z (i + 1)
    have m0 := sm_mono 0 (w := w) h.z fr (i - fr)
    have m1 := sm_mono 1 (w := w) h.z fr (i - fr)
    have m0' := sm_mono 0 (w := w) h.z fr (i + 1 - fr)
    have m1' := sm_mono 1 (w := w) h.z fr (i + 1 - fr)
    rw [show fr + (i - fr) = i by omega] at m0 m1
    rw [show fr + (i + 1 - fr) = i + 1 by omega] at m0' m1'
    have t0 := sm_le 0 (w := w) h.z fr
    have t1 := sm_le 1 (w := w) h.z fr
    have hbi : 0 ≤ b.getD i 0 ∧ b.getD i 0 ≤ 1500 := by
      have hh : i < b.length := by have := h.l; omega
      have : b.getD i 0 = b[i] := by simp [hh]
      rw [this]; exact h.z _ (List.getElem_mem hh)
    have r0 : sm 0 w b (i + 1) = sm 0 w b i + if w.getD i 0 = 0 then b.getD i 0 else 0 := rfl
    have r1 : sm 1 w b (i + 1) = sm 1 w b i + if w.getD i 0 = 1 then b.getD i 0 else 0 := rfl
    have f1 := h.f fr (by omega)
    have f2 := h.f (i + 1) (by omega)
    have test := fair_test (a := sm 0 w b (i + 1) - sm 0 w b fr) (b := sm 1 w b (i + 1) - sm 1 w b fr) hq0 hq1 (by omega) (by omega)
      (by
        unfold FB at f1 f2
        rw [Int.sub_mul, Int.sub_mul, Int.mul_comm (sm 0 w b (i + 1)), Int.mul_comm (sm 0 w b fr), Int.mul_comm (sm 1 w b (i + 1)), Int.mul_comm (sm 1 w b fr)]
        omega)
      (by
        unfold FB at f1 f2
        rw [Int.sub_mul, Int.sub_mul, Int.mul_comm (sm 0 w b (i + 1)), Int.mul_comm (sm 0 w b fr), Int.mul_comm (sm 1 w b (i + 1)), Int.mul_comm (sm 1 w b fr)]
        omega)
    rw [iter_inl (y := (sm 0 w b (i + 1) - sm 0 w b fr, sm 1 w b (i + 1) - sm 1 w b fr, ((i + 1 : Nat) : Int)))]
    · exact ih (i + 1) (by omega) (by omega)
    · have nx := pnext (show i < 9223372036854775807 by omega)
      unfold F_tollbarlaw24_DrrFair_L5
      dsimp only
      rw [if_pos cl, if_pos c1]
      by_cases h0 : w.getD i 0 = 0
      · have ea : iadd .u64 (sm 0 w b i - sm 0 w b fr) (b.getD i 0) = sm 0 w b (i + 1) - sm 0 w b fr := by
          rw [r0, if_pos h0]; simp only [iadd]; rw [pu64 (by omega) (by omega)]; omega
        have eb' : sm 1 w b i = sm 1 w b (i + 1) := by rw [r1, if_neg (by omega), Int.add_zero]
        rw [if_pos (by rw [pieq, ew]; exact h0), if_pos c2, if_pos c1, if_neg (by rw [pieq, ew]; omega), if_pos g1, if_pos g0, if_pos g0, if_pos g1, if_pos g0, if_pos g1, eb, e0, e1, ea, eb', if_neg test, nx]
      · by_cases h1 : w.getD i 0 = 1
        · have ea : iadd .u64 (sm 1 w b i - sm 1 w b fr) (b.getD i 0) = sm 1 w b (i + 1) - sm 1 w b fr := by
            rw [r1, if_pos h1]; simp only [iadd]; rw [pu64 (by omega) (by omega)]; omega
          have eb' : sm 0 w b i = sm 0 w b (i + 1) := by rw [r0, if_neg (by omega), Int.add_zero]
          rw [if_neg (by rw [pieq, ew]; exact h0), if_pos c1, if_pos (by rw [pieq, ew]; exact h1), if_pos c2, if_pos g1, if_pos g0, if_pos g0, if_pos g1, if_pos g0, if_pos g1, eb, e0, e1, ea, eb', if_neg test, nx]
        · have ea : sm 0 w b i = sm 0 w b (i + 1) := by rw [r0, if_neg h0, Int.add_zero]
          have eb' : sm 1 w b i = sm 1 w b (i + 1) := by rw [r1, if_neg h1, Int.add_zero]
          rw [if_neg (by rw [pieq, ew]; exact h0), if_pos c1, if_neg (by rw [pieq, ew]; exact h1), if_pos g1, if_pos g0, if_pos g0, if_pos g1, if_pos g0, if_pos g1, e0, e1, ea, eb', if_neg test, nx]
theorem fair_wins {q w b : List Int} (h : FW q w b) (n2 : 2 ≤ q.length) (hq : ∀ x ∈ q, 1500 ≤ x ∧ x < 67036) : ∀ (m i : Nat), i + m = w.length → iter (F_tollbarlaw24_DrrFair_L4 w b q) (i : Int) = some true := by
  have hn := h.n
  intro m
  induction m with
  | zero =>
    intro i hi
    apply iter_inr
    unfold F_tollbarlaw24_DrrFair_L4
    dsimp only
    rw [if_neg (by simp only [pilt, ofN, xlen]; omega)]
  | succ m ih =>
    intro i hi
    rw [iter_inl (y := ((i + 1 : Nat) : Int))]
    · exact ih (i + 1) (by omega)
    · unfold F_tollbarlaw24_DrrFair_L4
      dsimp only
      rw [if_pos (by simp only [pilt, ofN, xlen]; omega)]
      have := fair_win h n2 hq (fr := i) (m + 1) i (Nat.le_refl _) hi
      rw [Int.sub_self, Int.sub_self] at this
      exact this
end Go.Proofs.Ytmnloiadjaljdaa
end
section
/-
  DrrFair, in plain words: step by step.
-/
set_option linter.unusedVariables false
set_option linter.unusedSimpArgs false
namespace Go.Proofs.Ytmnloiadjaljdaa

/-- All views of a step. -/
theorem fair_views {q : List Int} {r1 r2 : List D} {t : Int} {ad : Bool} {m1 l8 l6 l7 : List Int} {i : Nat} (hi : i < r1.length) (hi2 : i < r2.length) (hn : q.length ≤ 5) (hz : ∀ x ∈ (r1[i]).toIs, 0 ≤ x ∧ x < 65536) :
    ∀ (m k : Nat) (l10 : List Int) (r6 : List D), k + m = q.length → l10.length = q.length → r6.length = k → (∀ x ∈ l10, 0 ≤ x ∧ x ≤ 1500) →
      (∀ j, j < k → ∃ o, r6.getD j (.i 0) = .l [.i (l10.getD j 0), .b o] ∧ 1 ≤ l10.getD j 0 ∧ l10.getD j 0 ≤ 1500 ∧ (j < 2 → o = true)) →
      ∃ l r, l.length = q.length ∧ r.length = q.length ∧ (∀ x ∈ l, 0 ≤ x ∧ x ≤ 1500) ∧
        (∀ j, j < q.length → ∃ o, r.getD j (.i 0) = .l [.i (l.getD j 0), .b o] ∧ 1 ≤ l.getD j 0 ∧ l.getD j 0 ≤ 1500 ∧ (j < 2 → o = true)) ∧
        iter (F_tollbarlaw24_DrrFair_L3 q (i : Int) r1 r2 t ad m1 l8 l6 l7) ((k : Int), l10, r6) = iter (F_tollbarlaw24_DrrFair_L3 q (i : Int) r1 r2 t ad m1 l8 l6 l7) (((q.length : Nat) : Int), l, r) := by
  intro m
  induction m with
  | zero =>
    intro k l10 r6 hk h1 h2 h3 h4
    have : k = q.length := by omega
    subst this
    exact ⟨l10, r6, h1, h2, h3, h4, rfl⟩
  | succ m ih =>
    intro k l10 r6 hk h1 h2 h3 h4
    obtain ⟨v, o, e, v1, v2, v3⟩ := fair_round (t := t) (ad := ad) (m1 := m1) (l8 := l8) (l6 := l6) (l7 := l7) (show k < q.length by omega) h1 hi hi2 hn h2 h3 hz
    rw [iter_inl e]
    refine ih (k + 1) _ _ (by omega) (by simpa using h1) (by simp [h2]) ?_ ?_
    · intro x hx
      rcases List.mem_or_eq_of_mem_set hx with hx | rfl
      · exact h3 _ hx
      · omega
    · intro j hj
      by_cases e2 : j = k
      · subst e2
        refine ⟨o, ?_, ?_, ?_, v3⟩
        · rw [getD_set0 (by omega), if_pos rfl]
          have : (r6 ++ [D.l [D.i v, D.b o]]).getD j (.i 0) = .l [.i v, .b o] := by simp [h2]
          exact this
        · rw [getD_set0 (by omega), if_pos rfl]; exact v1
        · rw [getD_set0 (by omega), if_pos rfl]; exact v2
      · obtain ⟨o', g1, g2, g3, g4⟩ := h4 j (by omega)
        refine ⟨o', ?_, ?_, ?_, g4⟩
        · rw [getD_set0 (by omega), if_neg e2]
          have : (r6 ++ [D.l [D.i v, D.b o]]).getD j (.i 0) = r6.getD j (.i 0) := by simp [List.getElem?_append_left (show j < r6.length by omega)]
          rw [this]; exact g1
        · rw [getD_set0 (by omega), if_neg e2]; exact g2
        · rw [getD_set0 (by omega), if_neg e2]; exact g3
theorem fair_steps {q : List Int} {r1 r2 : List D} (n2 : 2 ≤ q.length) (hn : q.length ≤ 5) (hq : ∀ x ∈ q, 1500 ≤ x ∧ x < 67036) (h60 : r1.length ≤ 60) (h12 : r1.length ≤ r2.length) (hz : ∀ x ∈ r1, ∀ y ∈ x.toIs, 0 ≤ y ∧ y < 65536) :
    ∀ (m i : Nat) (t : Int) (ad : Bool) (hd w b d : List Int), i + m = r1.length → hd.length = q.length → (∀ x ∈ hd, 0 ≤ x ∧ x ≤ 1500) → w.length = i → FW q w b → RingOk q t d → FI (q.getD 0 0) (q.getD 1 0) (sm 0 w b i) (sm 1 w b i) t ad d →
      iter (F_tollbarlaw24_DrrFair_L2 r1 q r2 q) ((i : Int), t, ad, hd, w, b, d) = some true := by
  have hq0 : 1500 ≤ q.getD 0 0 ∧ q.getD 0 0 < 67036 := by
    have : q.getD 0 0 = q[0] := by simp [show 0 < q.length by omega]
    rw [this]; exact hq _ (List.getElem_mem _)
  have hq1 : 1500 ≤ q.getD 1 0 ∧ q.getD 1 0 < 67036 := by
    have : q.getD 1 0 = q[1] := by simp [show 1 < q.length by omega]
    rw [this]; exact hq _ (List.getElem_mem _)
  intro m
  induction m with
  | zero =>
    intro i t ad hd w b d hi h1 h2 h3 h4 h5 h6
    apply iter_inr
    unfold F_tollbarlaw24_DrrFair_L2
    dsimp only
    have := fair_wins h4 n2 hq w.length 0 (by omega)
    rw [show ((0 : Nat) : Int) = 0 from rfl] at this
    rw [if_neg (by simp only [pilt, ofN, xlen]; omega), this]
    rfl
  | succ m ih =>
    intro i t ad hd w b d hi h1 h2 h3 h4 h5 h6
    have hlt : i < r1.length := by omega
    have hB : F_tollbarlaw24_DrrFair_L2 r1 q r2 q ((i : Int), t, ad, hd, w, b, d) = iter (F_tollbarlaw24_DrrFair_L3 q (i : Int) r1 r2 t ad q d w b) (0, hd, []) := by
      unfold F_tollbarlaw24_DrrFair_L2
      dsimp only
      rw [if_pos (by simp only [pilt, ofN, xlen]; omega)]
    obtain ⟨l, r, l1, l2, l3, l4, l5⟩ := fair_views (r2 := r2) (t := t) (ad := ad) (m1 := q) (l8 := d) (l6 := w) (l7 := b) hlt (by omega) hn (hz _ (List.getElem_mem hlt)) q.length 0 hd [] (by omega) h1 rfl h2 (fun j hj => by omega)
    rw [show ((0 : Nat) : Int) = 0 from rfl] at l5
    have hview : ∀ j, j < r.length → vSz (r.getD j (.i 0)) = l.getD j 0 ∧ 1 ≤ l.getD j 0 ∧ l.getD j 0 ≤ 1500 ∧ (j < 2 → vMay (r.getD j (.i 0)) = true) := by
      intro j hj
      obtain ⟨o, g1, g2, g3, g4⟩ := l4 j (by omega)
      rw [g1]
      exact ⟨rfl, g2, g3, fun h => g4 h⟩
    have hV : FV q r := by
      refine ⟨l2, n2, ?_, hq, ?_, ?_⟩
      · intro x hx
        obtain ⟨j, hj, rfl⟩ := List.getElem_of_mem hx
        have := hview j hj
        have e : r.getD j (.i 0) = r[j] := by simp [hj]
        rw [e] at this
        omega
      · have := hview 0 (by omega); exact ⟨this.2.2.2 (by omega), by omega⟩
      · have := hview 1 (by omega); exact ⟨this.2.2.2 (by omega), by omega⟩
    obtain ⟨n3, n4, n5⟩ := next_law (t := t) (ad := ad) (d := d) (fun _ => h5) l2 hV.u
    have n5 := n5 (fun x hx y hy => by have := (hV.v x hx).2; have := (hq y hy).1; omega) 0 (by omega) ⟨hV.r0.1, by have := hV.r0.2; omega⟩
    have n4 := n4 (by omega)
    have eN : nextF q r t ad d = nextGo q r (r.length + 1) t ad d := by unfold nextF; rw [if_pos l2, if_neg (by omega)]
    have hFI := h6.go hV (r.length + 1) _ _ _ _ _ h5
    rw [← eN] at hFI
    have hnx := p_next (q := q) (L := r) (t := t) (d := d) (ad := ad) (fun _ _ => h5) hV.u
    revert n3 n4 n5 hFI hnx
    rcases nextF q r t ad d with ⟨c, t', ad', d'⟩
    intro n3 n5 n4 hFI hnx
    dsimp only at n3 n4 n5 hFI
    have hc : 0 ≤ c ∧ c < (q.length : Int) := by rcases n3 with h | h <;> omega
    obtain ⟨k, rfl⟩ : ∃ k : Nat, c = (k : Int) := ⟨c.toNat, by omega⟩
    have hk : k < l.length := by omega
    have hw := h4.l
    have hkv := hview k (by omega)
    have hL3 : F_tollbarlaw24_DrrFair_L3 q (i : Int) r1 r2 t ad q d w b (((q.length : Nat) : Int), l, r) = some (.inr (.inl (((i + 1 : Nat) : Int), t', ad', l.set k 0, w ++ [(k : Int)], b ++ [l.getD k 0], d'))) := by
      have ck : (0 : Int) ≤ (k : Int) ∧ (k : Int) < ofN (xlen l) := by simp only [ofN, xlen]; omega
      have e : getI l (toN (k : Int)) = l.getD k 0 := rfl
      unfold F_tollbarlaw24_DrrFair_L3
      dsimp only
      rw [if_neg (by simp only [pilt, ofN, xlen]; omega), hnx]
      dsimp only
      rw [if_neg (by rw [pilt]; omega), if_neg (by simp only [pile, ofN, xlen]; omega), if_pos (by simp [xlen]; omega), if_pos ck, if_pos (by simp [xlen]; omega), if_pos ck, pnext (by omega), e]
      rfl
    have hdone : iter (F_tollbarlaw24_DrrFair_L3 q (i : Int) r1 r2 t ad q d w b) (0, hd, []) = some (.inl (((i + 1 : Nat) : Int), t', ad', l.set k 0, w ++ [(k : Int)], b ++ [l.getD k 0], d')) := by
      rw [l5]; exact iter_inr hL3
    rw [iter_inl (hB.trans hdone)]
    have v0 := (hview 0 (by omega)).1
    have v1 := (hview 1 (by omega)).1
    have e0 : sm 0 (w ++ [(k : Int)]) (b ++ [l.getD k 0]) (i + 1) = sm 0 w b i + if (k : Int) = 0 then vSz (r.getD 0 (.i 0)) else 0 := by
      rw [← h3, sm_last 0 _ _ hw]
      congr 1
      by_cases h : (k : Int) = 0
      · rw [if_pos h, if_pos h, v0]; have : k = 0 := by omega
        rw [this]
      · rw [if_neg h, if_neg h]
    have e1 : sm 1 (w ++ [(k : Int)]) (b ++ [l.getD k 0]) (i + 1) = sm 1 w b i + if (k : Int) = 1 then vSz (r.getD 1 (.i 0)) else 0 := by
      rw [← h3, sm_last 1 _ _ hw]
      congr 1
      by_cases h : (k : Int) = 1
      · rw [if_pos h, if_pos h, v1]; have : k = 1 := by omega
        rw [this]
      · rw [if_neg h, if_neg h]
    rw [← e0, ← e1] at hFI
    refine ih (i + 1) t' ad' _ _ _ d' (by omega) (by simpa using l1) ?_ (by simp [h3]) ⟨by simp [hw], by simp; omega, ?_, ?_⟩ n4 hFI
    · intro x hx
      rcases List.mem_or_eq_of_mem_set hx with hx | rfl
      · exact l3 _ hx
      · omega
    · intro x hx
      rcases List.mem_append.1 hx with hx | hx
      · exact h4.z _ hx
      · rw [List.mem_singleton.1 hx]; omega
    · intro j hj
      by_cases hj2 : j ≤ w.length
      · rw [sm_app 0 _ _ hw j hj2, sm_app 1 _ _ hw j hj2]
        exact h4.f j hj2
      · have : j = i + 1 := by simp at hj; omega
        subst this
        exact hFI.bound hq0.1 hq1.1
theorem fair_law {qs : List Int} {r1 r2 : List D} (h1 : ∀ x ∈ qs, 0 ≤ x ∧ x < 65536) (hz : ∀ x ∈ r1, ∀ y ∈ x.toIs, 0 ≤ y ∧ y < 65536) : F_tollbarlaw24_DrrFair qs r1 r2 = some true := by
  unfold F_tollbarlaw24_DrrFair
  rw [p_awake]
  dsimp only
  rw [if_pos rfl]
  by_cases c1 : qs.length < 2
  · rw [if_pos (by simp only [pilt, ofN, xlen]; omega)]
  rw [if_neg (by simp only [pilt, ofN, xlen]; omega)]
  by_cases c2 : 5 < qs.length
  · rw [if_pos (by simp only [pilt, ofN, xlen]; omega)]
  rw [if_neg (by simp only [pilt, ofN, xlen]; omega)]
  by_cases c3 : 60 < r1.length
  · rw [if_pos (by simp only [pilt, ofN, xlen]; omega)]
  rw [if_neg (by simp only [pilt, ofN, xlen]; omega)]
  by_cases c4 : r2.length < r1.length
  · rw [if_pos (by simp only [pilt, ofN, xlen]; omega)]
  rw [if_neg (by simp only [pilt, ofN, xlen]; omega)]
  have key : ∀ (m k : Nat) (q : List Int), k + m = qs.length → q.length = k → (∀ x ∈ q, 1500 ≤ x ∧ x < 67036) → iter (F_tollbarlaw24_DrrFair_L1 qs r1 r2) ((k : Int), q) = some true := by
    intro m
    induction m with
    | zero =>
      intro k q hk h2 h3
      apply iter_inr
      unfold F_tollbarlaw24_DrrFair_L1
      dsimp only
      rw [if_neg (by simp only [pilt, ofN, xlen]; omega), p_new (by omega)]
      dsimp only
      rw [if_pos (by simp only [ofN, xlen]; refine ⟨by omega, by omega, by simp; omega, by omega⟩)]
      have hU : ∀ x ∈ q, U x := fun x hx => by have := h3 x hx; unfold U; omega
      have zero : ∀ x ∈ List.replicate q.length (0 : Int), x = 0 := fun x hx => (List.mem_replicate.1 hx).2
      have zg : ∀ j, (List.replicate q.length (0 : Int)).getD j 0 = 0 := by
        intro j
        by_cases h : j < q.length
        · simp [h]
        · simp [List.getElem?_eq_none (show (List.replicate q.length (0 : Int)).length ≤ j by simp; omega)]
      have e : lrep (toN (ofN (xlen q))) (0 : Int) = List.replicate q.length 0 := rfl
      have := fair_steps (q := q) (r1 := r1) (r2 := r2) (by omega) (by omega) h3 (by omega) (by omega) hz r1.length 0 0 false (List.replicate q.length 0) [] [] (List.replicate q.length 0) (by omega) (by simp) (fun x hx => by rw [zero x hx]; omega) rfl
        ⟨rfl, by simp, by simp, fun j hj => by
          have : j = 0 := by simpa using hj
          subst this
          simp only [sm]
          unfold FB
          have a : 1500 ≤ q.getD 0 0 := by
            have : q.getD 0 0 = q[0] := by simp [show 0 < q.length by omega]
            rw [this]; exact (h3 _ (List.getElem_mem _)).1
          have b : 1500 ≤ q.getD 1 0 := by
            have : q.getD 1 0 = q[1] := by simp [show 1 < q.length by omega]
            rw [this]; exact (h3 _ (List.getElem_mem _)).1
          have c : 0 ≤ q.getD 0 0 * q.getD 1 0 := Int.mul_nonneg (by omega) (by omega)
          rw [Int.mul_zero, Int.mul_zero]
          omega⟩
        ⟨by omega, by omega, by omega, by simp, hU, fun x hx => by rw [zero x hx]; unfold U; omega⟩
        ⟨by rw [zg]; omega, by rw [zg]; omega, 0, 0, by rw [zg]; simp [sm], by rw [zg]; simp [sm], .inr (.inl ⟨rfl, rfl, rfl, by rw [zg]; omega, by rw [zg]; omega⟩)⟩
      rw [show ((0 : Nat) : Int) = 0 from rfl] at this
      rw [e, this]
      rfl
    | succ m ih =>
      intro k q hk h2 h3
      have hlt : k < qs.length := by omega
      have hx := h1 _ (List.getElem_mem hlt)
      have ev : iadd .u64 1500 (iconv .u64 (getI qs (toN (k : Int)))) = 1500 + qs[k] := by
        have : getI qs (toN (k : Int)) = qs[k] := pgetI (by exact hlt)
        rw [this]
        simp only [iadd, iconv]
        rw [pu64 hx.1 (by omega), pu64 (by omega) (by omega)]
      rw [iter_inl (y := (((k + 1 : Nat) : Int), q ++ [1500 + qs[k]]))]
      · refine ih (k + 1) _ (by omega) (by simp [h2]) fun x hx2 => ?_
        rcases List.mem_append.1 hx2 with h | h
        · exact h3 _ h
        · rw [List.mem_singleton.1 h]; omega
      · unfold F_tollbarlaw24_DrrFair_L1
        dsimp only
        rw [if_pos (by simp only [pilt, ofN, xlen]; omega), if_pos (by simp only [ofN, xlen]; omega), if_pos (by simp [xlen]; omega), ev, pnext (by omega)]
        rfl
  exact key qs.length 0 [] (by omega) rfl (by simp)
theorem p_DrrFair (l : List Int) (r : List D) (r2 : List D) (h1 : (Ty.ints 36 .u16).rng (.is l)) (h2 : (Ty.row 33 (.ints 36 .u16)).rng (.l r)) (h3 : (Ty.row 38 (.row 4 .bool)).rng (.l r2)) : F_tollbarlaw24_DrrFair l r r2 = some true := by
  simp only [Ty.rng, Ty.rngL, D.toL, D.toIs] at h1 h2
  exact fair_law (fun x hx => wf_u16 (h1.2 x hx)) (fun x hx y hy => wf_u16 ((h2.2 x hx).2 y hy))
end Go.Proofs.Ytmnloiadjaljdaa
end
