/-
  Texts that the row of this claim stands on, one behind the other.
-/
import Derived.Deep.Slices
import Derived.ChangeArms
import Derived.Test.YtolfegaldhhmkaaKOctetBack1
import Derived.Test.YtolfegaldhhmkaaKOctetBack2
import Derived.Test.YtolfegaldhhmkaaKOctetBack3
section
/-
  A walk that reckons: arguments of any shape, opened.
-/
set_option linter.unusedVariables false
set_option linter.unusedSimpArgs false
namespace Go.Proofs.Ytolfegaldhhmkaa
open Go.RowKit Go.ChangeShapes Go.WideShapes Go.Deep

mutual
/-- What is known of data that came in: its numbers fit. -/
def Ty.rng : Ty → D → Prop
  | .int k, d => (Lit.int k d.toI).wf = true
  | .bool, _ => True
  | .str, d => d.toS.length ≤ maxLen
  | .bytes _, d => d.toS.length ≤ maxLen
  | .ints _ k, d => d.toIs.length ≤ maxLen ∧ ∀ x ∈ d.toIs, (Lit.int k x).wf = true
  | .row _ e, d => d.toL.length ≤ maxLen ∧ ∀ x ∈ d.toL, e.rng x
  | .st fs, d => Ty.rngL fs d 0
def Ty.rngL : List Ty → D → Nat → Prop
  | [], _, _ => True
  | t :: ts, d, j => t.rng (d.fld j) ∧ Ty.rngL ts d (j + 1)
end

mutual
/-- Is a type of the program of this kind? -/
def tyChk (P : Program) : Ty → TypeId → Bool
  | .int k, t => match P.underlying t with | some (.int j) => j == k | _ => false
  | .bool, t => match P.underlying t with | some .bool => true | _ => false
  | .str, t => match P.underlying t with | some .string => true | _ => false
  | .bytes T, t => match P.underlying t, P.underlying T with | some (.slice e), some (.int .u8) => Nat.beq e T && Nat.beq (P.cellsOf T) 1 | _, _ => false
  | .ints T k, t => match P.underlying t, P.underlying T with | some (.slice e), some (.int j) => Nat.beq e T && Nat.beq (P.cellsOf T) 1 && j == k | _, _ => false
  | .row T e, t => match P.underlying t with | some (.slice e') => Nat.beq e' T && Nat.beq (P.cellsOf T) e.size && Nat.ble 1 e.size && tyChk P e T | _ => false
  | .st es, t => match P.underlying t with | some (.struct fl) => Nat.beq (P.cellsOf t) (Ty.sizes es) && tysChk P es fl.toList 0 | _ => false
def tysChk (P : Program) : List Ty → List Field → Nat → Bool
  | [], [], _ => true
  | e :: es, f :: fl, o => Nat.beq f.offset o && Nat.beq (P.cellsOf f.type) e.size && tyChk P e f.type && tysChk P es fl (o + e.size)
  | _, _, _ => false
end

section
variable {H : Type} {enc : TypeId × Value → H} {P : Program} {w : World} {base : Nat} {spare : Nat → Bool} {held : Bool}
def PN : Nat → Option Pl := fun _ => none
def AN : Nat → Prop := fun _ => False
/-- A row whose elements are opened. -/
theorem open_row {r : R} {a : Addr} {len cap : Nat} (hr : rlen r = len) (hl : len ≤ cap) (hsz : 0 < r.sz) (hrow : ∀ i, i < len → ∃ cs, cs.length = r.sz ∧ (∀ j, j < r.sz → w.cell? (a.add (i * r.sz + j)) = cs[j]?) ∧ Dens PN w AN (r.elem i) cs) :
    Den PN w AN (.rsl r) (.slice (some a) len cap) := by
  subst hr
  have : ∀ i, ∃ cs : List Value, i < rlen r → cs.length = r.sz ∧ (∀ j, j < r.sz → w.cell? (a.add (i * r.sz + j)) = cs[j]?) ∧ Dens PN w AN (r.elem i) cs := fun i => by
    by_cases h : i < rlen r
    · obtain ⟨cs, h⟩ := hrow i h; exact ⟨cs, fun _ => h⟩
    · exact ⟨[], fun h' => absurd h' h⟩
  obtain ⟨f, hf⟩ := Classical.axiomOfChoice this
  refine .rsl r (some a) cap (fun i j => ((f i)[j]?).getD undef) hl ?_ ?_ ?_
  · intro h0
    obtain ⟨h1, h2, h3⟩ := hf 0 h0
    have hc := h2 0 hsz
    rw [Nat.zero_mul, Nat.zero_add, List.getElem?_eq_getElem (by omega)] at hc
    refine ⟨a, rfl, ?_, fun h => h⟩
    have := World.block_lt_of_cell? w _ hc
    rwa [add_block] at this
  · intro i j ad e hi hj
    injection e with e; subst e
    obtain ⟨h1, h2, h3⟩ := hf i hi
    have hjl : j < (f i).length := by omega
    rw [add_add, h2 j hj, List.getElem?_eq_getElem hjl]
    have hle : (r.elem i).length = (f i).length := h3.1.symm
    exact ⟨rfl, by simpa using (h3.2 j (by omega) hjl).2⟩
  · intro i j hi hj
    obtain ⟨h1, h2, h3⟩ := hf i hi
    have hjl : j < (f i).length := by rw [h3.1]; exact hj
    have := (h3.2 j hj hjl).1
    simpa [List.getElem?_eq_getElem hjl] using this

theorem den1 {v : SV} {c : Value} (h : Den PN w AN v c) (h1 : c.oneCell' = true) : Dens PN w AN [v] [c] := Dens.cons h h1 Dens.nil
/-- Bytes that came in. -/
theorem open_bytes {t T : TypeId} (hu : P.underlying t = some (.slice T)) (he : P.underlying T = some (.int .u8)) (hc : P.cellsOf T = 1) {fuel : Nat} {cs : List Value} {x : DataW H × List MemPlace} (h : DataW.trod enc P w base spare held fuel t cs = some x) :
    ∃ l : List UInt8, l.length ≤ maxLen ∧ Dens PN w AN [.rsl (.bs T l)] cs := by
  rcases open_slice1 hu hc h with ⟨rfl, _⟩ | ⟨a, len, cap, m, n, V, D, Pl, rfl, hb, hl, hm, hmm, _, hi⟩
  · exact ⟨[], by simp, den1 (nil_den rfl .nsl) rfl⟩
  · have hle : len ≤ m := by rw [hmm]; split <;> omega
    have each : ∀ i, ∃ b : UInt8, i < len → w.cell? (a.add i) = some (.int .u8 b.toNat) := fun i => by
      by_cases h : i < len
      · obtain ⟨h1, h2⟩ := hi i (by omega)
        obtain ⟨y, e1, _, e2⟩ := DataW.trod_int he h2
        injection e1 with e1 _
        have hy : 0 ≤ y ∧ y ≤ 255 := by simpa [Lit.wf, IntKind.min, IntKind.max, IntKind.signed, IntKind.bits, Int.lt_add_one_iff, Int.le_sub_one_iff] using e2
        refine ⟨UInt8.ofNat y.toNat, fun _ => ?_⟩
        rw [h1, e1]
        have : ((UInt8.ofNat y.toNat).toNat : Int) = y := by simp; omega
        rw [this]
      · exact ⟨0, fun h' => absurd h' h⟩
    obtain ⟨f, hf⟩ := Classical.axiomOfChoice each
    refine ⟨(List.range len).map f, by simp; omega, den1 (open_row (by simp [rlen]) hl (by show 0 < 1; omega) fun i hi => ⟨[.int .u8 (f i).toNat], rfl, ?_, ?_⟩) rfl⟩
    · intro j hj
      have : j = 0 := by simp [R.sz] at hj; exact hj
      subst this
      simp only [R.sz, Nat.mul_one, Nat.add_zero]
      rw [hf i hi]
      rfl
    · have : getB ((List.range len).map f) i = ((f i).toNat : Int) := by simp [getB, hi]
      simp only [R.elem, lock_eq, this]
      exact den1 (.v _) rfl
/-- Whole numbers that came in. -/
theorem open_intsD {t T : TypeId} {k : IntKind} (hu : P.underlying t = some (.slice T)) (he : P.underlying T = some (.int k)) (hc : P.cellsOf T = 1) {fuel : Nat} {cs : List Value} {x : DataW H × List MemPlace} (h : DataW.trod enc P w base spare held fuel t cs = some x) :
    ∃ l : List Int, l.length ≤ maxLen ∧ (∀ y ∈ l, (Lit.int k y).wf = true) ∧ Dens PN w AN [.rsl (.ints T k l)] cs := by
  rcases open_slice1 hu hc h with ⟨rfl, _⟩ | ⟨a, len, cap, m, n, V, D, Pl, rfl, hb, hl, hm, hmm, _, hi⟩
  · exact ⟨[], by simp, by simp, den1 (nil_den rfl .nsl) rfl⟩
  · have hle : len ≤ m := by rw [hmm]; split <;> omega
    have each : ∀ i, ∃ b : Int, i < len → w.cell? (a.add i) = some (.int k b) ∧ (Lit.int k b).wf = true := fun i => by
      by_cases h : i < len
      · obtain ⟨h1, h2⟩ := hi i (by omega)
        obtain ⟨y, e1, _, e2⟩ := DataW.trod_int he h2
        injection e1 with e1 _
        exact ⟨y, fun _ => ⟨by rw [h1, e1], e2⟩⟩
      · exact ⟨0, fun h' => absurd h' h⟩
    obtain ⟨f, hf⟩ := Classical.axiomOfChoice each
    refine ⟨(List.range len).map f, by simp; omega, ?_, den1 (open_row (by simp [rlen]) hl (by show 0 < 1; omega) fun i hi => ⟨[.int k (f i)], rfl, ?_, ?_⟩) rfl⟩
    · intro y hy
      obtain ⟨i, h1, rfl⟩ := List.mem_map.1 hy
      exact (hf i (List.mem_range.1 h1)).2
    · intro j hj
      have : j = 0 := by simp [R.sz] at hj; exact hj
      subst this
      simp only [R.sz, Nat.mul_one, Nat.add_zero]
      rw [(hf i hi).1]
      rfl
    · have : getI ((List.range len).map f) i = f i := by simp [getI, hi]
      simp only [R.elem, lock_eq, this]
      exact den1 (.v _) rfl
theorem dens_app {a b : List SV} {c d : List Value} (h : Dens PN w AN a c) (k : Dens PN w AN b d) : Dens PN w AN (a ++ b) (c ++ d) := by
  refine ⟨by simp [h.1, k.1], fun j h1 h2 => ?_⟩
  by_cases hj : j < a.length
  · have hc : j < c.length := by rw [h.1]; exact hj
    rw [List.getElem_append_left hj, List.getElem_append_left hc]
    exact h.2 j hj hc
  · have hc : ¬ j < c.length := by rw [h.1]; exact hj
    rw [List.getElem_append_right (by omega), List.getElem_append_right (by omega)]
    have e := h.1
    have := k.2 (j - a.length) (by simp at h1; omega) (by simp at h2; omega)
    simpa [e] using this
theorem D.fld_l (l : List D) (j : Nat) : (D.l l).fld j = l.getD j (.i 0) := rfl
theorem open_ty : ∀ (e : Ty) (t : TypeId) (fuel : Nat) (cs : List Value) (x : DataW H × List MemPlace), tyChk P e t = true → DataW.trod enc P w base spare held fuel t cs = some x → ∃ d : D, Dens PN w AN (e.leaves d) cs ∧ e.rng d := by
  intro e
  apply Ty.rec (motive_1 := fun e => ∀ (t : TypeId) (fuel : Nat) (cs : List Value) (x : DataW H × List MemPlace), tyChk P e t = true → DataW.trod enc P w base spare held fuel t cs = some x → ∃ d : D, Dens PN w AN (e.leaves d) cs ∧ e.rng d)
    (motive_2 := fun es => ∀ (fl : List Field) (o : Nat) (cs : List Value), tysChk P es fl o = true → (∀ f ∈ fl, ∃ fuel x, DataW.trod enc P w base spare held fuel f.type ((cs.drop f.offset).take (P.cellsOf f.type)) = some x) → cs.length = o + Ty.sizes es →
      ∃ ds : List D, ds.length = es.length ∧ ∀ d j, (∀ i, i < es.length → d.fld (j + i) = ds.getD i (.i 0)) → Dens PN w AN (Ty.leavesL es d j) (cs.drop o) ∧ Ty.rngL es d j)
  · intro k t fuel cs x hc h
    simp only [tyChk] at hc
    split at hc
    · rename_i j hu
      have := LawfulBEq.eq_of_beq hc
      subst this
      obtain ⟨y, rfl, _, e2⟩ := DataW.trod_int hu h
      refine ⟨.i y, ?_, e2⟩
      simp only [Ty.leaves, lock_eq]
      exact den1 (.v _) rfl
    · cases hc
  · intro t fuel cs x hc h
    simp only [tyChk] at hc
    split at hc
    · rename_i hu
      obtain ⟨b, rfl, _⟩ := DataW.trod_bool hu h
      refine ⟨.b b, ?_, trivial⟩
      simp only [Ty.leaves, lock_eq]
      exact den1 (.v _) rfl
    · cases hc
  · intro t fuel cs x hc h
    simp only [tyChk] at hc
    split at hc
    · rename_i hu
      obtain ⟨b, rfl, _, e2⟩ := DataW.trod_string hu h
      refine ⟨.s b.data.toList, ?_, by
        show b.data.toList.length ≤ maxLen
        have : b.data.toList.length = b.size := by rw [Array.length_toList]; rfl
        rw [this]; exact e2⟩
      simp only [Ty.leaves, lock_eq, D.toS]
      have := Den.str (PL := PN) (w := w) (Av := AN) b.data.toList
      simp at this
      exact den1 this rfl
    · cases hc
  · intro T t fuel cs x hc h
    simp only [tyChk] at hc
    split at hc
    · rename_i e0 hu he
      simp only [Bool.and_eq_true] at hc
      have e1 := (nbeq _ _).1 hc.1
      have e2 := (nbeq _ _).1 hc.2
      subst e1
      obtain ⟨l, h1, h2⟩ := open_bytes hu he e2 h
      exact ⟨.s l, by simp only [Ty.leaves, lock_eq]; exact h2, h1⟩
    · cases hc
  · intro T k t fuel cs x hc h
    simp only [tyChk] at hc
    split at hc
    · rename_i e0 j hu he
      simp only [Bool.and_eq_true] at hc
      have e1 := (nbeq _ _).1 hc.1.1
      have e2 := (nbeq _ _).1 hc.1.2
      have e3 := LawfulBEq.eq_of_beq hc.2
      subst e1; subst e3
      obtain ⟨l, h1, h2, h3⟩ := open_intsD hu he e2 h
      exact ⟨.is l, by simp only [Ty.leaves, lock_eq]; exact h3, h1, h2⟩
    · cases hc
  · intro T e ih t fuel cs x hc h
    simp only [tyChk] at hc
    split at hc
    · rename_i e0 hu
      simp only [Bool.and_eq_true] at hc
      obtain ⟨⟨⟨c1, c2⟩, c3⟩, c4⟩ := hc
      have e1 := (nbeq _ _).1 c1
      have e2 := (nbeq _ _).1 c2
      have e3 := Nat.le_of_ble_eq_true c3
      subst e1
      rcases open_slice hu h with ⟨rfl, _⟩ | ⟨a, len, cap, m, n, D0, Pl, rfl, hb, hl, hm, hmm, _, hi⟩
      · refine ⟨.l [], ?_, by simp [Ty.rng, D.toL]⟩
        simp only [Ty.leaves, lock_eq, D.toL]
        exact den1 (nil_den rfl .nsl) rfl
      · have hle : len ≤ m := by rw [hmm]; split <;> omega
        have each : ∀ i, ∃ q : D × List Value, i < len → q.2.length = e.size ∧ (∀ j, j < e.size → w.cell? (a.add (i * e.size + j)) = q.2[j]?) ∧ Dens PN w AN (e.leaves q.1) q.2 ∧ e.rng q.1 := fun i => by
          by_cases hil : i < len
          · obtain ⟨cs', g1, g2⟩ := hi i (by omega)
            obtain ⟨_, g3, g4⟩ := World.cells?_some g1
            obtain ⟨d, g5, g6⟩ := ih _ n cs' _ c4 g2
            refine ⟨(d, cs'), fun _ => ⟨by rw [g3, e2], fun j hj => ?_, g5, g6⟩⟩
            have := g4 j (by omega)
            rw [add_add, e2] at this
            exact this
          · exact ⟨(.i 0, []), fun h' => absurd h' hil⟩
        obtain ⟨f, hf⟩ := Classical.axiomOfChoice each
        refine ⟨.l ((List.range len).map fun i => (f i).1), ?_, ?_, ?_⟩
        · simp only [Ty.leaves, lock_eq, D.toL]
          refine den1 (open_row (by simp [rlen]) hl (by show 0 < e.size; omega) fun i hi => ⟨(f i).2, (hf i hi).1, (hf i hi).2.1, ?_⟩) rfl
          have : getD ((List.range len).map fun i => (f i).1) i = (f i).1 := by simp [getD, hi]
          simp only [R.elem, lock_eq, this]
          exact (hf i hi).2.2.1
        · simp [D.toL]; omega
        · intro y hy
          simp only [D.toL] at hy
          obtain ⟨i, h1, rfl⟩ := List.mem_map.1 hy
          exact (hf i (List.mem_range.1 h1)).2.2.2
    · cases hc
  · intro es ih t fuel cs x hc h
    simp only [tyChk] at hc
    split at hc
    · rename_i fl hu
      simp only [Bool.and_eq_true] at hc
      have e1 := (nbeq _ _).1 hc.1
      obtain ⟨xs, n, _, _, hlen, hxl, hx⟩ := DataW.trod_struct hu h
      obtain ⟨ds, h1, h2⟩ := ih fl.toList 0 cs hc.2 (fun f hf => by
        obtain ⟨i, hi, he⟩ := List.getElem_of_mem hf
        have hi' : i < fl.size := by simpa using hi
        have := hx i f (by rw [Array.getElem?_eq_getElem hi']; simpa using he)
        exact ⟨n, xs[i]'(by omega), by rw [this, List.getElem?_eq_getElem (by omega)]⟩) (by rw [hlen, e1]; omega)
      obtain ⟨g1, g2⟩ := h2 (.l ds) 0 (fun i hi => by rw [D.fld_l, Nat.zero_add])
      exact ⟨.l ds, by simp only [Ty.leaves]; simpa using g1, g2⟩
    · cases hc
  · intro fl o cs hc hf hl
    cases fl with
    | nil => exact ⟨[], rfl, fun d j _ => ⟨by simp only [Ty.leavesL]; rw [List.drop_of_length_le (by simp [Ty.sizes] at hl; omega)]; exact Dens.nil, trivial⟩⟩
    | cons f fl => simp [tysChk] at hc
  · intro e es ih1 ih2 fl o cs hc hf hl
    cases fl with
    | nil => simp [tysChk] at hc
    | cons f fl =>
      simp only [tysChk, Bool.and_eq_true] at hc
      obtain ⟨⟨⟨c1, c2⟩, c3⟩, c4⟩ := hc
      have e1 := (nbeq _ _).1 c1
      have e2 := (nbeq _ _).1 c2
      obtain ⟨fuel, x, hx⟩ := hf f (List.mem_cons_self ..)
      obtain ⟨d1, g1, g2⟩ := ih1 _ _ _ _ c3 hx
      simp only [Ty.sizes] at hl
      obtain ⟨ds, g3, g4⟩ := ih2 fl (o + e.size) cs c4 (fun f hf' => hf f (List.mem_cons_of_mem _ hf')) (by omega)
      refine ⟨d1 :: ds, by simp [g3], fun d j hd => ?_⟩
      have hd0 : d.fld j = d1 := by simpa using hd 0 (by simp)
      obtain ⟨k1, k2⟩ := g4 d (j + 1) (fun i hi => by
        have := hd (i + 1) (by simpa using hi)
        rw [Nat.add_assoc, Nat.add_comm 1 i, this, List.getD_cons_succ])
      rw [e1, e2] at g1
      refine ⟨?_, ?_, k2⟩
      · simp only [Ty.leavesL, lock_eq, hd0]
        have : cs.drop o = (cs.drop o).take e.size ++ cs.drop (o + e.size) := by
          rw [← List.drop_drop, List.take_append_drop]
        rw [this]
        exact dens_app g1 k1
      · rw [hd0]; exact g2
end
end Go.Proofs.Ytolfegaldhhmkaa
end
section
/-
  Words, as plain Lean reads them.
-/
set_option linter.unusedVariables false
set_option linter.unusedSimpArgs false
namespace Go.Proofs.Ytolfegaldhhmkaa

theorem pieq {a b : Int} : (ieq a b = true) = (a = b) := by simp [ieq]
theorem pilt {a b : Int} : (ilt a b = true) = (a < b) := by simp [ilt]
theorem pile {a b : Int} : (ile a b = true) = (a ≤ b) := by simp [ile]
theorem pseq {a b : List UInt8} : (seq a b = true) = (a = b) := by simp [seq]
theorem pbeq2 {a b : Bool} : (beq2 a b = true) = (a = b) := by simp [beq2]
theorem pband {a b : Bool} : (band a b = true) = (a = true ∧ b = true) := by simp [band]

/-- A number of 64 bits. -/
def U (x : Int) : Prop := 0 ≤ x ∧ x < 18446744073709551616
theorem U.lo {x : Int} (h : U x) : 0 ≤ x := h.1
theorem U.hi {x : Int} (h : U x) : x < 18446744073709551616 := h.2
theorem pwu64 (x : Int) : IntKind.u64.wrap x = x % 18446744073709551616 := by simp [IntKind.wrap, IntKind.signed, IntKind.bits]
theorem pwu32 (x : Int) : IntKind.u32.wrap x = x % 4294967296 := by simp [IntKind.wrap, IntKind.signed, IntKind.bits]
theorem pwu16 (x : Int) : IntKind.u16.wrap x = x % 65536 := by simp [IntKind.wrap, IntKind.signed, IntKind.bits]
theorem pwu8 (x : Int) : IntKind.u8.wrap x = x % 256 := by simp [IntKind.wrap, IntKind.signed, IntKind.bits]
theorem pwi64 {x : Int} (h1 : -9223372036854775808 ≤ x) (h2 : x ≤ 9223372036854775807) : IntKind.i64.wrap x = x := by
  simp only [IntKind.wrap, IntKind.signed, IntKind.bits]
  simp
  omega
theorem pu64 {x : Int} (h1 : 0 ≤ x) (h2 : x < 18446744073709551616) : IntKind.u64.wrap x = x := by rw [pwu64]; omega
theorem pu32 {x : Int} (h1 : 0 ≤ x) (h2 : x < 4294967296) : IntKind.u32.wrap x = x := by rw [pwu32]; omega
theorem pu16 {x : Int} (h1 : 0 ≤ x) (h2 : x < 65536) : IntKind.u16.wrap x = x := by rw [pwu16]; omega
theorem pu8 {x : Int} (h1 : 0 ≤ x) (h2 : x < 256) : IntKind.u8.wrap x = x := by rw [pwu8]; omega
theorem pofN (n : Nat) : ofN n = (n : Int) := rfl
theorem ptoN (n : Nat) : toN (n : Int) = n := rfl
theorem ptoN' (x : Int) : toN x = x.toNat := rfl
theorem pxlen {α : Type} (l : List α) : xlen l = l.length := rfl
/-- The next place. -/
theorem pnext {n : Nat} (h : n < 9223372036854775807) : iadd .i64 (n : Int) 1 = ((n + 1 : Nat) : Int) := by
  simp only [iadd]
  rw [pwi64] <;> omega
theorem pgetI {l : List Int} {n : Nat} (h : n < l.length) : getI l n = l[n] := by simp [getI, h]
theorem pgetD {l : List D} {n : Nat} (h : n < l.length) : getD l n = l[n] := by simp [getD, h]
theorem pgetB {l : List UInt8} {n : Nat} (h : n < l.length) : getB l n = ((l[n].toNat : Nat) : Int) := by simp [getB, h]
theorem pcopy {α : Type} (l : List α) (x : α) : lspl (lrep l.length x) 0 (lsub l 0 (nmin (xlen (lrep l.length x)) (xlen l))) = l := by
  simp [lspl, lrep, lsub, nmin, xlen]
theorem pimax (a b : Int) : imax a b = max a b := by
  unfold imax
  by_cases h : b > a
  · rw [if_pos h]; omega
  · rw [if_neg h]; omega
theorem pimin (a b : Int) : imin a b = min a b := by
  unfold imin
  by_cases h : b < a
  · rw [if_pos h]; omega
  · rw [if_neg h]; omega
end Go.Proofs.Ytolfegaldhhmkaa
end
section
/-
  What the functions of package octet tell, in plain words: numbers.
-/
set_option linter.unusedVariables false
set_option linter.unusedSimpArgs false
namespace Go.Proofs.Ytolfegaldhhmkaa

theorem pshr {x : Int} {n : Nat} (h : n < 64) : ishr .u64 x (n : Int) = x / 2 ^ n := by
  simp only [ishr, IntKind.bits]
  have : min (n : Int).toNat 64 = n := by simp; omega
  rw [this, Int.fdiv_eq_ediv_of_nonneg _ (Int.le_of_lt (Int.pow_pos (by omega)))]
theorem pshl8 {x : Int} (h0 : 0 ≤ x) (h : x < 72057594037927936) : ishl .u64 x 8 = x * 256 := by
  simp only [ishl, IntKind.bits]
  rw [show min (8 : Int).toNat 64 = 8 from rfl, show (2 : Int) ^ 8 = 256 from rfl, pu64 (by omega) (by omega)]
theorem por8 {x c : Int} (h0 : 0 ≤ x) (h : x < 72057594037927936) (hc : 0 ≤ c) (hc2 : c < 256) : ior .u64 (x * 256) c = x * 256 + c := by
  obtain ⟨a, rfl⟩ := Int.eq_ofNat_of_zero_le h0
  obtain ⟨b, rfl⟩ := Int.eq_ofNat_of_zero_le hc
  show IntKind.u64.wrap (((BitVec.ofInt 64 ((a : Int) * 256) ||| BitVec.ofInt 64 (b : Int)).toNat : Nat) : Int) = _
  have e1 : BitVec.ofInt 64 ((a : Int) * 256) = BitVec.ofNat 64 (a * 256) := by
    rw [show ((a : Int) * 256) = ((a * 256 : Nat) : Int) by omega]; exact BitVec.ofInt_natCast 64 _
  have e2 : BitVec.ofInt 64 (b : Int) = BitVec.ofNat 64 b := BitVec.ofInt_natCast 64 _
  rw [e1, e2, BitVec.toNat_or, BitVec.toNat_ofNat, BitVec.toNat_ofNat, Nat.mod_eq_of_lt (by omega), Nat.mod_eq_of_lt (by omega)]
  have e3 : a * 256 ||| b = a * 256 + b := by
    have := Nat.shiftLeft_add_eq_or_of_lt (i := 8) (b := b) (by omega) a
    rw [Nat.shiftLeft_eq] at this
    exact this.symm
  rw [e3, pu64 (by omega) (by omega)]
  omega

/-- The number of bytes, the greatest first. -/
def valB (s : List UInt8) : Nat := s.foldl (fun x c => x * 256 + c.toNat) 0
theorem valB_snoc (s : List UInt8) (c : UInt8) : valB (s ++ [c]) = valB s * 256 + c.toNat := by simp [valB]
theorem valB_take {s : List UInt8} {i : Nat} (h : i < s.length) : valB (s.take (i + 1)) = valB (s.take i) * 256 + s[i].toNat := by
  rw [List.take_succ_eq_append_getElem h, valB_snoc]
theorem valB_mono {s : List UInt8} : ∀ (n i : Nat), i + n ≤ s.length → valB (s.take i) ≤ valB (s.take (i + n))
  | 0, i, h => Nat.le_refl _
  | n + 1, i, h => by
    have ih := valB_mono (s := s) n i (by omega)
    rw [← Nat.add_assoc, valB_take (by omega)]
    omega
theorem p_value (s : List UInt8) (hl : s.length ≤ 1000000) : F_octet_Value s = some (if valB s < 18446744073709551616 then ((valB s : Int), true) else (0, false)) := by
  unfold F_octet_Value
  have key : ∀ (m i : Nat), i + m = s.length → valB (s.take i) < 18446744073709551616 → iter (F_octet_Value_L1 s) ((valB (s.take i) : Int), (i : Int)) = some (if valB s < 18446744073709551616 then ((valB s : Int), true) else (0, false)) := by
    intro m
    induction m with
    | zero =>
      intro i hi hv
      have : s.take i = s := List.take_of_length_le (by omega)
      rw [this] at hv ⊢
      apply iter_inr
      unfold F_octet_Value_L1
      dsimp only
      rw [if_neg (by simp only [pilt, ofN, xlen]; omega), if_pos hv]
    | succ m ih =>
      intro i hi hv
      have hlt : i < s.length := by omega
      have es : ishr .u64 (valB (s.take i) : Int) 56 = ((valB (s.take i) / 72057594037927936 : Nat) : Int) := by
        have := pshr (x := (valB (s.take i) : Int)) (n := 56) (by omega)
        rw [show ((56 : Nat) : Int) = 56 from rfl] at this
        rw [this]
        omega
      have eg : getB s (toN (i : Int)) = ((s[i].toNat : Nat) : Int) := pgetB (by exact hlt)
      have hc : s[i].toNat < 256 := s[i].toNat_lt
      by_cases hb : 72057594037927936 ≤ valB (s.take i)
      · apply iter_inr
        unfold F_octet_Value_L1
        dsimp only
        rw [if_pos (by simp only [pilt, ofN, xlen]; omega), if_pos (by simp only [ofN, xlen]; omega), if_pos (by omega), es, if_pos (by rw [pilt]; omega)]
        have h1 := valB_take hlt
        have h2 := valB_mono (s := s) (s.length - (i + 1)) (i + 1) (by omega)
        rw [show i + 1 + (s.length - (i + 1)) = s.length by omega, List.take_of_length_le (Nat.le_refl _)] at h2
        rw [if_neg (by omega)]
      · rw [iter_inl (y := ((valB (s.take (i + 1)) : Int), ((i + 1 : Nat) : Int)))]
        · refine ih (i + 1) (by omega) ?_
          rw [valB_take hlt]; omega
        · unfold F_octet_Value_L1
          dsimp only
          have ec : iconv .u64 ((s[i].toNat : Nat) : Int) = ((s[i].toNat : Nat) : Int) := by simp only [iconv]; rw [pu64 (by omega) (by omega)]
          rw [if_pos (by simp only [pilt, ofN, xlen]; omega), if_pos (by simp only [ofN, xlen]; omega), if_pos (by omega), es, if_neg (by rw [pilt]; omega), if_pos (by omega), pshl8 (by omega) (by omega), eg, ec, por8 (by omega) (by omega) (by omega) (by omega), pnext (by omega), valB_take hlt]
          congr 3
  exact key s.length 0 (by omega) (by simp [valB])

/-- Without its noughts ahead. -/
theorem valB_nought (s : List UInt8) : valB (0 :: s) = valB s := by simp [valB]
theorem valB_lt : ∀ (s : List UInt8), valB s < 256 ^ s.length := by
  intro s
  have key : ∀ (s : List UInt8) (x : Nat), s.foldl (fun x c => x * 256 + c.toNat) x < (x + 1) * 256 ^ s.length := by
    intro s
    induction s with
    | nil => intro x; simp
    | cons c s ih =>
      intro x
      have := ih (x * 256 + c.toNat)
      have hc : c.toNat < 256 := c.toNat_lt
      simp only [List.foldl_cons, List.length_cons, Nat.pow_succ]
      refine Nat.lt_of_lt_of_le this ?_
      rw [Nat.mul_comm (256 ^ s.length) 256, ← Nat.mul_assoc]
      exact Nat.mul_le_mul_right _ (by omega)
  simpa [valB] using key s 0
theorem valB_ge {c : UInt8} {s : List UInt8} (h : c ≠ 0) : 256 ^ s.length ≤ valB (c :: s) := by
  have key : ∀ (s : List UInt8) (x : Nat), x * 256 ^ s.length ≤ s.foldl (fun x c => x * 256 + c.toNat) x := by
    intro s
    induction s with
    | nil => intro x; simp
    | cons c s ih =>
      intro x
      have := ih (x * 256 + c.toNat)
      simp only [List.foldl_cons, List.length_cons, Nat.pow_succ]
      refine Nat.le_trans ?_ this
      rw [Nat.mul_comm (256 ^ s.length) 256, ← Nat.mul_assoc]
      exact Nat.mul_le_mul_right _ (by omega)
  have hc : 1 ≤ c.toNat := by
    have : c.toNat ≠ 0 := fun e => h (UInt8.toNat_inj.1 (by simpa using e))
    omega
  have := key s (0 * 256 + c.toNat)
  refine Nat.le_trans ?_ this
  rw [Nat.zero_mul, Nat.zero_add]
  exact Nat.le_mul_of_pos_left _ hc
theorem p_rvalue_loop {s : List UInt8} (hl : s.length ≤ 8) {T : Type} {B : Int × Int → Option ((Int × Int) ⊕ T)} {r : Int → T}
    (h1 : ∀ (x : Int) (i : Nat), i < s.length → B (x, (i : Int)) = some (.inl (iadd .u64 (imul .u64 256 x) (iconv .u64 (getB s (toN (i : Int)))), ((i + 1 : Nat) : Int)))) (h2 : ∀ x : Int, B (x, (s.length : Int)) = some (.inr (r x))) :
    iter B (0, 0) = some (r (valB s)) := by
  have b8 : ∀ i, i ≤ s.length → valB (s.take i) < 256 ^ i := fun i hi => by
    have := valB_lt (s.take i)
    rw [List.length_take, Nat.min_eq_left hi] at this
    exact this
  have key : ∀ (m i : Nat), i + m = s.length → iter B ((valB (s.take i) : Int), (i : Int)) = some (r (valB s)) := by
    intro m
    induction m with
    | zero =>
      intro i hi
      have : i = s.length := by omega
      subst this
      rw [List.take_of_length_le (Nat.le_refl _)]
      exact iter_inr (h2 _)
    | succ m ih =>
      intro i hi
      have hlt : i < s.length := by omega
      have eg : getB s (toN (i : Int)) = ((s[i].toNat : Nat) : Int) := pgetB (by exact hlt)
      have hc : s[i].toNat < 256 := s[i].toNat_lt
      have hb := b8 i (by omega)
      have hp : 256 ^ i ≤ 256 ^ 7 := Nat.pow_le_pow_right (by omega) (by omega)
      have hp7 : (256 : Nat) ^ 7 = 72057594037927936 := by decide
      have e := h1 (valB (s.take i)) i hlt
      have ev : iadd .u64 (imul .u64 256 (valB (s.take i) : Int)) (iconv .u64 (getB s (toN (i : Int)))) = ((valB (s.take (i + 1)) : Nat) : Int) := by
        rw [eg, valB_take hlt]
        simp only [iadd, imul, iconv]
        rw [pu64 (x := 256 * (valB (s.take i) : Int)) (by omega) (by omega), pu64 (x := ((s[i].toNat : Nat) : Int)) (by omega) (by omega), pu64 (by omega) (by omega)]
        omega
      rw [ev] at e
      rw [iter_inl e]
      exact ih (i + 1) (by omega)
  have := key s.length 0 (by omega)
  simpa [valB] using this
theorem p_rvalue : ∀ (s : List UInt8), s.length ≤ 1000000 → F_tollbarref01_Value s = some (if valB s < 18446744073709551616 then ((valB s : Int), true) else (0, false))
  | [], hl => by
    unfold F_tollbarref01_Value
    apply iter_inr
    unfold F_tollbarref01_Value_L1
    dsimp only
    rw [if_pos (by rw [pseq]), if_neg (by simp only [pilt, ofN, xlen, List.length_nil]; omega), p_rvalue_loop (s := []) (by simp) (r := fun x => (x, true)) (fun x i hi => by simp at hi) (fun x => by
      unfold F_tollbarref01_Value_L3
      dsimp only
      rw [if_neg (by simp only [pilt, ofN, xlen, List.length_nil]; omega)])]
    rfl
  | c :: s, hl => by
    unfold F_tollbarref01_Value
    have hl' : s.length ≤ 1000000 := by simp at hl; omega
    have hlen : xlen (c :: s) = s.length + 1 := by simp [xlen]
    have eg : getB (c :: s) (toN 0) = ((c.toNat : Nat) : Int) := by simp [getB, toN]
    by_cases h0 : c = 0
    · subst h0
      rw [iter_inl (y := s), valB_nought]
      · exact p_rvalue s hl'
      · unfold F_tollbarref01_Value_L1
        dsimp only
        rw [if_neg (by rw [pseq]; simp), if_pos (by rw [hlen]; simp only [ofN]; omega), if_pos (by rw [eg, pieq]; rfl), if_pos (by rw [hlen]; simp only [ofN]; omega)]
        simp [lsub, ndec, toN, xlen]
    · have hc : c.toNat ≠ 0 := fun e => h0 (UInt8.toNat_inj.1 (by simpa using e))
      have hge := valB_ge (s := s) h0
      apply iter_inr
      unfold F_tollbarref01_Value_L1
      dsimp only
      rw [if_neg (by rw [pseq]; simp), if_pos (by rw [hlen]; simp only [ofN]; omega), if_neg (by rw [eg, pieq]; omega)]
      by_cases h8 : s.length + 1 ≤ 8
      · have hlt := valB_lt (c :: s)
        have hp : 256 ^ (c :: s).length ≤ 256 ^ 8 := Nat.pow_le_pow_right (by omega) (by simp; omega)
        have hp8 : (256 : Nat) ^ 8 = 18446744073709551616 := by decide
        rw [if_neg (by rw [hlen, pilt]; simp only [ofN]; omega), p_rvalue_loop (s := c :: s) (by simp; omega) (r := fun x => (x, true)) (fun x i hi => by
          unfold F_tollbarref01_Value_L2
          dsimp only
          rw [if_pos (by simp only [pilt, ofN, xlen]; omega), if_pos (by simp only [ofN, xlen]; omega), pnext (by simp at hi; omega)]) (fun x => by
          unfold F_tollbarref01_Value_L2
          dsimp only
          rw [if_neg (by simp only [pilt, ofN, xlen]; omega)]), if_pos (by omega)]
        rfl
      · have hp : 256 ^ 8 ≤ 256 ^ s.length := Nat.pow_le_pow_right (by omega) (by omega)
        have hp8 : (256 : Nat) ^ 8 = 18446744073709551616 := by decide
        rw [if_pos (by rw [hlen, pilt]; simp only [ofN]; omega), if_neg (by omega)]
end Go.Proofs.Ytolfegaldhhmkaa
end
section
/-
  What the functions of package octet tell, in plain words: windows.
-/
set_option linter.unusedVariables false
set_option linter.unusedSimpArgs false
namespace Go.Proofs.Ytolfegaldhhmkaa

/-- So many bytes read: these, what is left, and what went wrong first. -/
def wB (n : Int) (w : List UInt8) (e : Int) : List UInt8 × List UInt8 × Int :=
  if e ≠ 0 then ([], w, e) else if n < 0 then ([], w, 1) else if (w.length : Int) < n then ([], w, 10) else (w.take n.toNat, w.drop n.toNat, 0)
/-- A number of so many bytes. -/
def wN (n : Int) (w : List UInt8) (e : Int) : Int × List UInt8 × Int :=
  if e ≠ 0 then (0, w, e) else if n < 1 ∨ 8 < n then (0, w, 1) else ((valB (wB n w e).1 : Int), (wB n w e).2.1, (wB n w e).2.2)
def wE (w : List UInt8) (e : Int) : Int := if e = 0 ∧ w ≠ [] then 11 else e
theorem wB_len {n : Int} {w : List UInt8} {e : Int} : (wB n w e).1.length ≤ w.length ∧ (wB n w e).2.1.length ≤ w.length := by
  unfold wB
  split
  · exact ⟨by simp, Nat.le_refl _⟩
  · split
    · exact ⟨by simp, Nat.le_refl _⟩
    · split
      · exact ⟨by simp, Nat.le_refl _⟩
      · exact ⟨by simp [List.length_take]; omega, by simp⟩
theorem wB_len8 {n : Int} {w : List UInt8} {e : Int} (h : n ≤ 8) : (wB n w e).1.length ≤ 8 := by
  unfold wB
  split
  · simp
  · split
    · simp
    · split
      · simp
      · simp [List.length_take]; omega
theorem valB8 {s : List UInt8} (h : s.length ≤ 8) : valB s < 18446744073709551616 := by
  have h1 := valB_lt s
  have h2 : 256 ^ s.length ≤ 256 ^ 8 := Nat.pow_le_pow_right (by omega) h
  have h3 : (256 : Nat) ^ 8 = 18446744073709551616 := by decide
  omega
/-- Where a window stands in its row. -/
structure WS (s : List UInt8) (n1 n2 : Nat) (w : List UInt8) : Prop where
  h : n1 + n2 ≤ s.length
  w : lsub s n1 n2 = w
theorem WS.len {s : List UInt8} {n1 n2 : Nat} {w : List UInt8} (h : WS s n1 n2 w) : w.length = n2 := by
  have := h.h
  rw [← h.w]
  simp [lsub]
  omega
theorem WS.all (s : List UInt8) : WS s 0 s.length s := ⟨by omega, by simp [lsub]⟩
theorem WS.cut {s : List UInt8} {n1 n2 : Nat} {w : List UInt8} (h : WS s n1 n2 w) {k : Nat} (hk : k ≤ n2) : WS s (n1 + k) (n2 - k) (w.drop k) := by
  have := h.h
  refine ⟨by omega, ?_⟩
  rw [← h.w]
  simp only [lsub]
  rw [List.drop_take, List.drop_drop]
theorem p_fail2 {x e : Int} {n1 n2 : Nat} {s : List UInt8} : F_octet_Window_fail_2 x n1 n2 e s = some (if e = 0 then x else e) := by
  unfold F_octet_Window_fail_2
  by_cases h : e = 0
  · rw [if_pos (by rw [pieq]; exact h), if_pos h]
  · rw [if_neg (by rw [pieq]; exact h), if_neg h]
theorem p_fail {x e : Int} {s : List UInt8} : F_octet_Window_fail x e s = some (if e = 0 then x else e) := by
  unfold F_octet_Window_fail
  by_cases h : e = 0
  · rw [if_pos (by rw [pieq]; exact h), if_pos h]
  · rw [if_neg (by rw [pieq]; exact h), if_neg h]
/-- What is copied out of a window. -/
theorem copy_take {w : List UInt8} {n : Nat} (h : n ≤ w.length) : lspl (@lrep UInt8 n 0) 0 (lsub w 0 (nmin (xlen (@lrep UInt8 n 0)) (xlen w))) = w.take n := by
  have : min n w.length = n := by omega
  simp [lspl, lrep, lsub, nmin, xlen, this]
theorem p_bytes2 {n e : Int} {s w : List UInt8} {n1 n2 : Nat} (hW : WS s n1 n2 w) (hs : s.length ≤ 1000000) : ∃ k1 k2, F_octet_Window_Bytes_2 n n1 n2 e s = some (k1, k2, (wB n w e).2.2, (wB n w e).1) ∧ WS s k1 k2 (wB n w e).2.1 := by
  have hl := hW.len
  have hh := hW.h
  unfold F_octet_Window_Bytes_2 wB
  by_cases e0 : e = 0
  · subst e0
    rw [if_neg (show ¬ (0 : Int) ≠ 0 by simp)]
    by_cases h1 : n < 0
    · rw [if_pos h1]
      refine ⟨n1, n2, ?_, hW⟩
      rw [if_pos (by rw [pilt]; exact h1), p_fail2, if_pos rfl]
      dsimp only
      rw [if_neg (by rw [pieq]; omega)]
    · rw [if_neg h1]
      by_cases h2 : (w.length : Int) < n
      · rw [if_pos h2]
        refine ⟨n1, n2, ?_, hW⟩
        rw [if_neg (by rw [pilt]; exact h1), if_pos (by rw [pilt]; simp only [ofN]; omega), p_fail2, if_pos rfl]
        dsimp only
        rw [if_neg (by rw [pieq]; omega)]
      · rw [if_neg h2]
        obtain ⟨k, rfl⟩ : ∃ k : Nat, n = (k : Int) := ⟨n.toNat, by omega⟩
        have hk : k ≤ w.length := by omega
        have em : nmin (xlen (@lrep UInt8 (toN (k : Int)) 0)) (xlen (lsub s n1 n2)) = k := by
          rw [hW.w]; simp [nmin, xlen, lrep, toN]; omega
        refine ⟨n1 + k, n2 - k, ?_, hW.cut (by omega)⟩
        rw [if_neg (by rw [pilt]; exact h1), if_neg (by rw [pilt]; simp only [ofN]; omega), if_pos (by rw [pieq]), if_pos ⟨by omega, by omega, by simp; omega, by omega⟩, em, if_pos (by simp only [ofN]; omega)]
        have ec := copy_take hk
        have em2 : nmin (xlen (@lrep UInt8 k 0)) (xlen w) = k := by simp [nmin, xlen, lrep]; omega
        rw [em2] at ec
        rw [hW.w]
        show some (n1 + k, n2 - k, (0 : Int), lspl (@lrep UInt8 k 0) 0 (lsub w 0 k)) = _
        rw [ec]
        rfl
  · rw [if_pos e0]
    refine ⟨n1, n2, ?_, hW⟩
    by_cases h1 : n < 0
    · rw [if_pos (by rw [pilt]; exact h1), p_fail2, if_neg e0]
      dsimp only
      rw [if_neg (by rw [pieq]; exact e0)]
    · rw [if_neg (by rw [pilt]; exact h1)]
      by_cases h2 : (n2 : Int) < n
      · rw [if_pos (by rw [pilt]; exact h2), p_fail2, if_neg e0]
        dsimp only
        rw [if_neg (by rw [pieq]; exact e0)]
      · rw [if_neg (by rw [pilt]; exact h2), if_neg (by rw [pieq]; exact e0)]
theorem p_bytes1 {n e : Int} {s : List UInt8} (hs : s.length ≤ 1000000) : ∃ k1 k2, F_octet_Window_Bytes n e s = some (k1, k2, (wB n s e).2.2, (wB n s e).1) ∧ WS s k1 k2 (wB n s e).2.1 := by
  have hW := WS.all s
  unfold F_octet_Window_Bytes wB
  have hx : xlen s = s.length := rfl
  by_cases e0 : e = 0
  · subst e0
    rw [if_neg (show ¬ (0 : Int) ≠ 0 by simp)]
    by_cases h1 : n < 0
    · rw [if_pos h1]
      refine ⟨0, s.length, ?_, hW⟩
      rw [if_pos (by rw [pilt]; exact h1), p_fail, if_pos rfl]
      dsimp only
      rw [if_neg (by rw [pieq]; omega), hx]
    · rw [if_neg h1]
      by_cases h2 : (s.length : Int) < n
      · rw [if_pos h2]
        refine ⟨0, s.length, ?_, hW⟩
        rw [if_neg (by rw [pilt]; exact h1), if_pos (by rw [pilt]; simp only [ofN, xlen]; omega), p_fail, if_pos rfl]
        dsimp only
        rw [if_neg (by rw [pieq]; omega), hx]
      · rw [if_neg h2]
        obtain ⟨k, rfl⟩ : ∃ k : Nat, n = (k : Int) := ⟨n.toNat, by omega⟩
        have hk : k ≤ s.length := by omega
        have em : nmin (xlen (@lrep UInt8 (toN (k : Int)) 0)) (xlen s) = k := by simp [nmin, xlen, lrep, toN]; omega
        refine ⟨0 + k, s.length - k, ?_, hW.cut hk⟩
        rw [if_neg (by rw [pilt]; exact h1), if_neg (by rw [pilt]; simp only [ofN, xlen]; omega), if_pos (by rw [pieq]), if_pos ⟨by omega, by omega, by simp; omega, by omega⟩, em, if_pos (by simp only [ofN, xlen]; omega)]
        have ec := copy_take hk
        have em2 : nmin (xlen (@lrep UInt8 k 0)) (xlen s) = k := by simp [nmin, xlen, lrep]; omega
        rw [em2] at ec
        show some (k, s.length - k, (0 : Int), lspl (@lrep UInt8 k 0) 0 (lsub s 0 k)) = _
        rw [ec, Nat.zero_add]
        rfl
  · rw [if_pos e0]
    refine ⟨0, s.length, ?_, hW⟩
    by_cases h1 : n < 0
    · rw [if_pos (by rw [pilt]; exact h1), p_fail, if_neg e0]
      dsimp only
      rw [if_neg (by rw [pieq]; exact e0), hx]
    · rw [if_neg (by rw [pilt]; exact h1)]
      by_cases h2 : (s.length : Int) < n
      · rw [if_pos (by rw [pilt]; exact h2), p_fail, if_neg e0]
        dsimp only
        rw [if_neg (by rw [pieq]; exact e0), hx]
      · rw [if_neg (by rw [pilt]; exact h2), if_neg (by rw [pieq]; exact e0), hx]
theorem p_num2 {n e : Int} {s w : List UInt8} {n1 n2 : Nat} (hW : WS s n1 n2 w) (hs : s.length ≤ 1000000) : ∃ k1 k2, F_octet_Window_Num_2 n n1 n2 e s = some ((wN n w e).1, k1, k2, (wN n w e).2.2) ∧ WS s k1 k2 (wN n w e).2.1 := by
  unfold F_octet_Window_Num_2 wN
  by_cases h1 : n < 1
  · refine ⟨n1, n2, ?_, ?_⟩
    · rw [if_pos (by rw [pilt]; exact h1), p_fail2]
      by_cases e0 : e = 0
      · rw [if_pos e0, if_neg (by simp [e0]), if_pos (.inl h1)]
      · rw [if_neg e0, if_pos e0]
    · by_cases e0 : e = 0
      · rw [if_neg (by simp [e0]), if_pos (.inl h1)]; exact hW
      · rw [if_pos e0]; exact hW
  · by_cases h8 : 8 < n
    · refine ⟨n1, n2, ?_, ?_⟩
      · rw [if_neg (by rw [pilt]; exact h1), if_pos (by rw [pilt]; exact h8), p_fail2]
        by_cases e0 : e = 0
        · rw [if_pos e0, if_neg (by simp [e0]), if_pos (.inr h8)]
        · rw [if_neg e0, if_pos e0]
      · by_cases e0 : e = 0
        · rw [if_neg (by simp [e0]), if_pos (.inr h8)]; exact hW
        · rw [if_pos e0]; exact hW
    · obtain ⟨k1, k2, eb, hk⟩ := p_bytes2 (n := n) (e := e) hW hs
      have hlen := wB_len8 (w := w) (e := e) (n := n) (by omega)
      have hv := valB8 hlen
      rw [if_neg (by rw [pilt]; exact h1), if_neg (by rw [pilt]; exact h8), eb]
      dsimp only
      rw [p_value _ (by omega), if_pos hv]
      dsimp only
      by_cases e0 : e = 0
      · rw [if_neg (show ¬ e ≠ 0 by simp [e0]), if_neg (by omega)]
        exact ⟨k1, k2, rfl, hk⟩
      · rw [if_pos e0]
        have e1 : wB n w e = ([], w, e) := by unfold wB; rw [if_pos e0]
        rw [e1] at hk ⊢
        exact ⟨k1, k2, rfl, hk⟩
theorem p_num1 {n e : Int} {s : List UInt8} (hs : s.length ≤ 1000000) : ∃ k1 k2, F_octet_Window_Num n e s = some ((wN n s e).1, k1, k2, (wN n s e).2.2) ∧ WS s k1 k2 (wN n s e).2.1 := by
  have hW := WS.all s
  have hx : xlen s = s.length := rfl
  unfold F_octet_Window_Num wN
  by_cases h1 : n < 1
  · refine ⟨0, s.length, ?_, ?_⟩
    · rw [if_pos (by rw [pilt]; exact h1), p_fail]
      by_cases e0 : e = 0
      · rw [if_pos e0, if_neg (by simp [e0]), if_pos (.inl h1), hx]
      · rw [if_neg e0, if_pos e0, hx]
    · by_cases e0 : e = 0
      · rw [if_neg (by simp [e0]), if_pos (.inl h1)]; exact hW
      · rw [if_pos e0]; exact hW
  · by_cases h8 : 8 < n
    · refine ⟨0, s.length, ?_, ?_⟩
      · rw [if_neg (by rw [pilt]; exact h1), if_pos (by rw [pilt]; exact h8), p_fail]
        by_cases e0 : e = 0
        · rw [if_pos e0, if_neg (by simp [e0]), if_pos (.inr h8), hx]
        · rw [if_neg e0, if_pos e0, hx]
      · by_cases e0 : e = 0
        · rw [if_neg (by simp [e0]), if_pos (.inr h8)]; exact hW
        · rw [if_pos e0]; exact hW
    · obtain ⟨k1, k2, eb, hk⟩ := p_bytes1 (n := n) (e := e) hs
      have hlen := wB_len8 (w := s) (e := e) (n := n) (by omega)
      have hv := valB8 hlen
      rw [if_neg (by rw [pilt]; exact h1), if_neg (by rw [pilt]; exact h8), eb]
      dsimp only
      rw [p_value _ (by omega), if_pos hv]
      dsimp only
      by_cases e0 : e = 0
      · rw [if_neg (show ¬ e ≠ 0 by simp [e0]), if_neg (by omega)]
        exact ⟨k1, k2, rfl, hk⟩
      · rw [if_pos e0]
        have e1 : wB n s e = ([], s, e) := by unfold wB; rw [if_pos e0]
        rw [e1] at hk ⊢
        exact ⟨k1, k2, rfl, hk⟩
theorem p_rbytes {n e : Int} {w : List UInt8} : F_tollbarref01_W_Bytes n w e = some ((wB n w e).1, (wB n w e).2.1, (wB n w e).2.2) := by
  have c1 : (ieq 1 0 = true) = False := by rw [pieq]; simp
  have c10 : (ieq 10 0 = true) = False := by rw [pieq]; simp
  have hx : ofN (xlen w) = (w.length : Int) := rfl
  unfold F_tollbarref01_W_Bytes wB
  by_cases e0 : e = 0
  · subst e0
    rw [if_neg (show ¬ (0 : Int) ≠ 0 by simp), if_pos (by rw [pieq])]
    by_cases h1 : n < 0
    · rw [if_pos h1, if_pos (by rw [pilt]; exact h1), if_neg (by rw [c1]; simp), if_neg (by rw [c1]; simp)]
    · rw [if_neg h1, if_neg (by rw [pilt]; exact h1), if_pos (by rw [pieq])]
      by_cases h2 : (w.length : Int) < n
      · rw [if_pos h2, if_pos (by rw [pilt]; exact h2), if_neg (by rw [c10]; simp)]
      · rw [if_neg h2, if_neg (by rw [pilt]; exact h2), if_pos (by rw [pieq]), if_pos (by rw [hx]; omega), if_pos (by rw [hx]; omega)]
        simp only [lsub, ndec, toN, xlen, List.drop_zero]
        rw [List.take_of_length_le (l := List.drop n.toNat w) (by simp)]
  · have c0 : ¬ ieq e 0 = true := by rw [pieq]; exact e0
    rw [if_pos e0, if_neg c0, if_neg c0, if_neg c0]
theorem p_rnum {n e : Int} {w : List UInt8} : F_tollbarref01_W_Num n w e = some (wN n w e) := by
  have c1 : (ieq 1 0 = true) = False := by rw [pieq]; simp
  unfold F_tollbarref01_W_Num wN
  by_cases e0 : e = 0
  · subst e0
    rw [if_neg (show ¬ (0 : Int) ≠ 0 by simp), if_pos (by rw [pieq])]
    by_cases h1 : n < 1
    · rw [if_pos (by rw [pilt]; exact h1), if_neg (by rw [c1]; simp), if_pos (Or.inl h1)]
    · rw [if_neg (by rw [pilt]; exact h1)]
      by_cases h8 : 8 < n
      · rw [if_pos (by rw [pilt]; exact h8), if_neg (by rw [c1]; simp), if_pos (Or.inr h8)]
      · have hlen := wB_len8 (w := w) (e := 0) (n := n) (by omega)
        rw [if_neg (by rw [pilt]; exact h8), if_pos (by rw [pieq]), p_rbytes]
        dsimp only
        rw [p_rvalue _ (by omega), if_pos (valB8 hlen), if_neg (by omega)]
  · have c0 : ¬ ieq e 0 = true := by rw [pieq]; exact e0
    rw [if_pos e0, if_neg c0, if_neg c0]
theorem p_rend {e : Int} {w : List UInt8} : F_tollbarref01_W_End w e = some (wE w e) := by
  unfold F_tollbarref01_W_End wE
  by_cases e0 : e = 0
  · rw [if_pos (by rw [pieq]; exact e0)]
    by_cases h : w = []
    · rw [if_pos (by rw [pseq]; exact h), if_neg (by simp [h])]
    · rw [if_neg (by rw [pseq]; exact h), if_pos ⟨e0, h⟩]
  · rw [if_neg (by rw [pieq]; exact e0), if_neg (by simp [e0])]
theorem p_end {e : Int} {s w : List UInt8} {n1 n2 : Nat} (hW : WS s n1 n2 w) : F_octet_Window_End n1 n2 e s = some (wE w e) := by
  have hl := hW.len
  have he : F_octet_Window_Err n1 n2 e s = some () := rfl
  unfold F_octet_Window_End wE
  rw [he]
  dsimp only
  by_cases e0 : e = 0
  · rw [if_pos (by rw [pieq]; exact e0)]
    by_cases h : w = []
    · have : n2 = 0 := by rw [← hl, h]; rfl
      rw [if_pos (by rw [pieq]; simp only [ofN]; omega), if_neg (by simp [h])]
    · have : 0 < n2 := by rw [← hl]; exact List.length_pos_iff.2 h
      rw [if_neg (by rw [pieq]; simp only [ofN]; omega), if_pos ⟨e0, h⟩]
  · rw [if_neg (by rw [pieq]; exact e0), if_neg (by simp [e0])]
end Go.Proofs.Ytolfegaldhhmkaa
end
section
/-
  What is known of arguments: their numbers fit.
-/
set_option linter.unusedVariables false
set_option linter.unusedSimpArgs false
namespace Go.Proofs.Ytolfegaldhhmkaa
theorem wf_U {x : Int} (h : (Lit.int .u64 x).wf = true) : U x := by
  have : 0 ≤ x ∧ x ≤ 18446744073709551615 := by simpa [Lit.wf, IntKind.min, IntKind.max, IntKind.signed, IntKind.bits, Int.lt_add_one_iff, Int.le_sub_one_iff] using h
  unfold U; omega
theorem wf_u32 {x : Int} (h : (Lit.int .u32 x).wf = true) : 0 ≤ x ∧ x < 4294967296 := by
  have : 0 ≤ x ∧ x ≤ 4294967295 := by simpa [Lit.wf, IntKind.min, IntKind.max, IntKind.signed, IntKind.bits, Int.lt_add_one_iff, Int.le_sub_one_iff] using h
  omega
theorem wf_u16 {x : Int} (h : (Lit.int .u16 x).wf = true) : 0 ≤ x ∧ x < 65536 := by
  have : 0 ≤ x ∧ x ≤ 65535 := by simpa [Lit.wf, IntKind.min, IntKind.max, IntKind.signed, IntKind.bits, Int.lt_add_one_iff, Int.le_sub_one_iff] using h
  omega
theorem wf_u8 {x : Int} (h : (Lit.int .u8 x).wf = true) : 0 ≤ x ∧ x < 256 := by
  have : 0 ≤ x ∧ x ≤ 255 := by simpa [Lit.wf, IntKind.min, IntKind.max, IntKind.signed, IntKind.bits, Int.lt_add_one_iff, Int.le_sub_one_iff] using h
  omega
theorem wf_i64 {x : Int} (h : (Lit.int .i64 x).wf = true) : -9223372036854775808 ≤ x ∧ x ≤ 9223372036854775807 := by
  simpa [Lit.wf, IntKind.min, IntKind.max, IntKind.signed, IntKind.bits, Int.lt_add_one_iff, Int.le_sub_one_iff] using h
end Go.Proofs.Ytolfegaldhhmkaa
end
section
/-
  What the functions of package octet tell, in plain words: bytes of numbers; the document's example; OctetReads.
-/
set_option linter.unusedVariables false
set_option linter.unusedSimpArgs false
namespace Go.Proofs.Ytolfegaldhhmkaa

/-- The last so many bytes of a number, the greatest first. -/
def bigB (x : Nat) : Nat → List UInt8
  | 0 => []
  | n + 1 => UInt8.ofNat (x / 256 ^ n % 256) :: bigB x n
theorem bigB_len (x : Nat) : ∀ n, (bigB x n).length = n
  | 0 => rfl
  | n + 1 => by simp [bigB, bigB_len x n]
theorem p_byte {x : Nat} {i : Nat} (hx : x < 18446744073709551616) (hi : i < 8) : iconv .u8 (ishr .u64 (x : Int) (imul .i64 8 (i : Int))) = ((x / 256 ^ i % 256 : Nat) : Int) := by
  have e1 : imul .i64 8 (i : Int) = ((8 * i : Nat) : Int) := by
    simp only [imul]; rw [pwi64 (by omega) (by omega)]; omega
  rw [e1, pshr (by omega)]
  have e2 : (x : Int) / 2 ^ (8 * i) = ((x / 256 ^ i : Nat) : Int) := by
    have : (256 : Nat) ^ i = 2 ^ (8 * i) := by rw [Nat.pow_mul]
    rw [this]
    have h2 : ((2 ^ (8 * i) : Nat) : Int) = (2 : Int) ^ (8 * i) := by simp
    rw [← h2]
    exact (Int.natCast_ediv x (2 ^ (8 * i))).symm
  rw [e2]
  simp only [iconv]
  rw [pwu8]
  omega
theorem p_big {x : Nat} (hx : x < 18446744073709551616) (n : Nat) (h : n ≤ 8) : F_octet_Big (x : Int) (n : Int) = some (bigB x n) := by
  unfold F_octet_Big
  by_cases h1 : n < 1
  · have : n = 0 := by omega
    subst this
    rw [if_pos (by rw [pilt]; omega)]
    rfl
  rw [if_neg (by rw [pilt]; omega), if_neg (by rw [pilt]; omega)]
  have key : ∀ (k : Nat) (acc : List UInt8), k ≤ 8 → acc.length + k ≤ 8 → iter (F_octet_Big_L1 (x : Int)) ((k : Int) - 1, acc) = some (acc ++ bigB x k) := by
    intro k
    induction k with
    | zero =>
      intro acc _ _
      apply iter_inr
      unfold F_octet_Big_L1
      dsimp only
      rw [if_neg (by rw [pile]; omega)]
      simp [bigB]
    | succ k ih =>
      intro acc hk ha
      have hb := p_byte hx (show k < 8 by omega)
      have e0 : ((k + 1 : Nat) : Int) - 1 = (k : Int) := by omega
      have e1 : imul .i64 8 (k : Int) = ((8 * k : Nat) : Int) := by
        simp only [imul]; rw [pwi64 (by omega) (by omega)]; omega
      have hlt : x / 256 ^ k % 256 < 256 := Nat.mod_lt _ (by omega)
      have e2 : isub .i64 (k : Int) 1 = (k : Int) - 1 := by simp only [isub]; rw [pwi64 (by omega) (by omega)]
      rw [e0, iter_inl (y := ((k : Int) - 1, acc ++ [UInt8.ofNat (x / 256 ^ k % 256)]))]
      · rw [ih _ (by omega) (by simp; omega)]
        simp [bigB]
      · unfold F_octet_Big_L1
        dsimp only
        rw [if_pos (by rw [pile]; omega), if_pos (by rw [e1]; omega), hb, if_pos ⟨by omega, by omega⟩, if_pos (by simp [xlen]; omega), e2]
        rfl
  have e : isub .i64 (n : Int) 1 = (n : Int) - 1 := by simp only [isub]; rw [pwi64 (by omega) (by omega)]
  rw [e, key n [] h (by simp; omega)]
  rfl

/-- How many bytes a number has. -/
theorem p_least {x : Nat} (hx : x < 18446744073709551616) : ∃ n, n ≤ 8 ∧ x < 256 ^ n ∧ (n = 0 ∨ 256 ^ (n - 1) ≤ x) ∧ F_octet_Least (x : Int) = some (bigB x n) := by
  unfold F_octet_Least
  have key : ∀ (m i : Nat), i + m = 8 → (i = 0 ∨ 256 ^ (i - 1) ≤ x) → ∃ n, n ≤ 8 ∧ x < 256 ^ n ∧ (n = 0 ∨ 256 ^ (n - 1) ≤ x) ∧ iter (F_octet_Least_L1 (x : Int)) ((i : Int), ((x / 256 ^ i : Nat) : Int)) = some (bigB x n) := by
    intro m
    induction m with
    | zero =>
      intro i hi h
      have : i = 8 := by omega
      subst this
      have hp8 : (256 : Nat) ^ 8 = 18446744073709551616 := by decide
      refine ⟨8, by omega, by omega, h, iter_inr ?_⟩
      unfold F_octet_Least_L1
      dsimp only
      rw [if_neg (by rw [pilt, hp8]; omega), p_big hx 8 (by omega)]
    | succ m ih =>
      intro i hi h
      have hp : 0 < 256 ^ i := Nat.pow_pos (by omega)
      by_cases h0 : x / 256 ^ i = 0
      · have hlt : x < 256 ^ i := by
          rcases Nat.div_eq_zero_iff.1 h0 with h | h
          · omega
          · exact h
        refine ⟨i, by omega, hlt, h, iter_inr ?_⟩
        unfold F_octet_Least_L1
        dsimp only
        rw [if_neg (by rw [pilt, h0]; omega), p_big hx i (by omega)]
      · have hge : 256 ^ i ≤ x := by
          refine Nat.le_of_not_lt fun hlt => h0 (Nat.div_eq_of_lt hlt)
        obtain ⟨n, h1, h2, h3, h4⟩ := ih (i + 1) (by omega) (.inr (by simpa using hge))
        refine ⟨n, h1, h2, h3, ?_⟩
        rw [iter_inl (y := (((i + 1 : Nat) : Int), ((x / 256 ^ (i + 1) : Nat) : Int)))]
        · exact h4
        · unfold F_octet_Least_L1
          dsimp only
          have es : ishr .u64 ((x / 256 ^ i : Nat) : Int) 8 = ((x / 256 ^ (i + 1) : Nat) : Int) := by
            have := pshr (x := ((x / 256 ^ i : Nat) : Int)) (n := 8) (by omega)
            rw [show ((8 : Nat) : Int) = 8 from rfl, show (2 : Int) ^ 8 = 256 from rfl] at this
            rw [this, Nat.pow_succ, ← Nat.div_div_eq_div_mul]
            omega
          rw [if_pos (by rw [pilt]; exact Int.natCast_pos.2 (Nat.pos_of_ne_zero h0)), if_pos (by omega), es, pnext (by omega)]
  have := key 8 0 (by omega) (.inl rfl)
  simpa using this

theorem p_open {s : List UInt8} (h : s.length ≤ 1000000) : F_octet_Open s = some s := by
  have : cloneB s = some s := by
    unfold cloneB
    rw [if_pos (by simp [xlen]; omega)]
  unfold F_octet_Open
  rw [this]
theorem p_left {n1 n2 : Nat} {e : Int} {s w : List UInt8} (hW : WS s n1 n2 w) : F_octet_Window_Left n1 n2 e s = some (ofN (xlen w)) := by
  unfold F_octet_Window_Left
  rw [← hW.len]
  rfl
theorem p_err {n1 n2 : Nat} {e : Int} {s : List UInt8} : F_octet_Window_Err n1 n2 e s = some () := rfl
theorem wN1 {w : List UInt8} {e : Int} : 0 ≤ (wN 1 w e).1 ∧ (wN 1 w e).1 < 256 := by
  unfold wN
  split
  · omega
  · split
    · omega
    · have h : (wB 1 w e).1.length ≤ 1 := by
        unfold wB
        split
        · simp
        · split
          · simp
          · split
            · simp
            · simp [List.length_take]; omega
      have h1 := valB_lt (wB 1 w e).1
      have h2 : 256 ^ (wB 1 w e).1.length ≤ 256 ^ 1 := Nat.pow_le_pow_right (by omega) h
      omega
theorem p_byte2 {e : Int} {s w : List UInt8} {n1 n2 : Nat} (hW : WS s n1 n2 w) (hs : s.length ≤ 1000000) : ∃ k1 k2, F_octet_Window_Byte n1 n2 e s = some ((wN 1 w e).1, k1, k2, (wN 1 w e).2.2) ∧ WS s k1 k2 (wN 1 w e).2.1 := by
  obtain ⟨k1, k2, h1, h2⟩ := p_num2 (n := 1) (e := e) hW hs
  have := wN1 (w := w) (e := e)
  refine ⟨k1, k2, ?_, h2⟩
  unfold F_octet_Window_Byte
  rw [h1]
  dsimp only
  have e1 : iconv .u8 (wN 1 w e).1 = (wN 1 w e).1 := by simp only [iconv]; rw [pu8 this.1 this.2]
  rw [e1]
theorem p_sub2 {n e : Int} {s w : List UInt8} {n1 n2 : Nat} (hW : WS s n1 n2 w) (hs : s.length ≤ 1000000) : ∃ k1 k2, F_octet_Window_Sub_2 n n1 n2 e s = some (k1, k2, (wB n w e).2.2, (wB n w e).2.2, (wB n w e).1) ∧ WS s k1 k2 (wB n w e).2.1 := by
  obtain ⟨k1, k2, h1, h2⟩ := p_bytes2 (n := n) (e := e) hW hs
  refine ⟨k1, k2, ?_, h2⟩
  unfold F_octet_Window_Sub_2
  rw [h1]
  dsimp only
  rw [p_err]
theorem p_sub1 {n e : Int} {s : List UInt8} (hs : s.length ≤ 1000000) : ∃ k1 k2, F_octet_Window_Sub n e s = some (k1, k2, (wB n s e).2.2, (wB n s e).2.2, (wB n s e).1) ∧ WS s k1 k2 (wB n s e).2.1 := by
  obtain ⟨k1, k2, h1, h2⟩ := p_bytes1 (n := n) (e := e) hs
  refine ⟨k1, k2, ?_, h2⟩
  unfold F_octet_Window_Sub
  rw [h1]
  dsimp only
  rw [p_err]
theorem p_rsub {n e : Int} {w : List UInt8} : F_tollbarref01_W_Sub n w e = some ((wB n w e).2.1, (wB n w e).2.2, (wB n w e).1, (wB n w e).2.2) := by
  unfold F_tollbarref01_W_Sub
  rw [p_rbytes]
theorem reads_law {s : List UInt8} {r : List D} (ha : F_tollbarlaw01_awake = some true) : F_tollbarlaw01_OctetReads s r = some true := by
  unfold F_tollbarlaw01_OctetReads
  rw [ha]
  dsimp only
  rw [if_pos rfl]
  by_cases c1 : 1000 < s.length
  · rw [if_pos (by simp only [pilt, ofN, xlen]; omega)]
  rw [if_neg (by simp only [pilt, ofN, xlen]; omega)]
  by_cases c2 : 60 < r.length
  · rw [if_pos (by simp only [pilt, ofN, xlen]; omega)]
  rw [if_neg (by simp only [pilt, ofN, xlen]; omega), p_open (by omega)]
  dsimp only
  have hs : s.length ≤ 1000000 := by omega
  have key : ∀ (m i n1 n2 : Nat) (w : List UInt8) (e : Int), i + m = r.length → WS s n1 n2 w → iter (F_tollbarlaw01_OctetReads_L1 r s) ((i : Int), n1, n2, e, w, e) = some true := by
    intro m
    induction m with
    | zero =>
      intro i n1 n2 w e hi hW
      apply iter_inr
      unfold F_tollbarlaw01_OctetReads_L1
      dsimp only
      rw [if_neg (by simp only [pilt, ofN, xlen]; omega)]
      rfl
    | succ m ih =>
      intro i n1 n2 w e hi hW
      have cl : ilt (i : Int) (ofN (xlen r)) = true := by simp only [pilt, ofN, xlen]; omega
      have cr : (0 : Int) ≤ (i : Int) ∧ (i : Int) < ofN (xlen r) := by simp only [ofN, xlen]; omega
      have nx := pnext (show i < 9223372036854775807 by omega)
      have eq : ∀ x : Int, ieq x x = true := fun x => by rw [pieq]
      have next : ∀ (k1 k2 : Nat) (w' : List UInt8) (e' : Int), WS s k1 k2 w' → F_tollbarlaw01_OctetReads_L1 r s ((i : Int), n1, n2, e, w, e) = some (.inl (((i + 1 : Nat) : Int), k1, k2, e', w', e')) → iter (F_tollbarlaw01_OctetReads_L1 r s) ((i : Int), n1, n2, e, w, e) = some true := by
        intro k1 k2 w' e' h1 h2
        rw [iter_inl h2]
        exact ih (i + 1) k1 k2 w' e' (by omega) h1
      generalize hk : D.toI (D.fld (getD r (toN (i : Int))) 0) = kind at *
      generalize hn : D.toI (D.fld (getD r (toN (i : Int))) 1) = n at *
      by_cases h0 : kind = 0
      · obtain ⟨k1, k2, b1, b2⟩ := p_byte2 (e := e) hW hs
        refine next k1 k2 _ (wN 1 w e).2.2 b2 ?_
        have hv := wN1 (w := w) (e := e)
        have ev : iconv .u64 (wN 1 w e).1 = (wN 1 w e).1 := by simp only [iconv]; rw [pu64 hv.1 (by omega)]
        unfold F_tollbarlaw01_OctetReads_L1
        dsimp only
        rw [if_pos cl, if_pos cr, if_pos cr, hk, if_pos (by rw [pieq]; exact h0), b1]
        dsimp only
        rw [p_rnum]
        dsimp only
        rw [ev, if_pos (eq _), p_left b2]
        dsimp only
        rw [if_pos (eq _), p_err]
        dsimp only
        rw [if_pos (eq _), p_end b2, p_rend]
        dsimp only
        rw [if_pos (eq _), nx]
      · by_cases h1 : kind = 1
        · obtain ⟨k1, k2, b1, b2⟩ := p_num2 (n := n) (e := e) hW hs
          refine next k1 k2 _ (wN n w e).2.2 b2 ?_
          unfold F_tollbarlaw01_OctetReads_L1
          dsimp only
          rw [if_pos cl, if_pos cr, if_pos cr, hk, hn, if_neg (by rw [pieq]; exact h0), if_pos (by rw [pieq]; exact h1), b1]
          dsimp only
          rw [p_rnum]
          dsimp only
          rw [if_pos (eq _), p_left b2]
          dsimp only
          rw [if_pos (eq _), p_err]
          dsimp only
          rw [if_pos (eq _), p_end b2, p_rend]
          dsimp only
          rw [if_pos (eq _), nx]
        · by_cases h2 : kind = 2
          · obtain ⟨k1, k2, b1, b2⟩ := p_bytes2 (n := n) (e := e) hW hs
            refine next k1 k2 _ (wB n w e).2.2 b2 ?_
            unfold F_tollbarlaw01_OctetReads_L1
            dsimp only
            rw [if_pos cl, if_pos cr, if_pos cr, hk, hn, if_neg (by rw [pieq]; exact h0), if_neg (by rw [pieq]; exact h1), if_pos (by rw [pieq]; exact h2), b1]
            dsimp only
            rw [p_rbytes]
            dsimp only
            rw [if_pos (by rw [pseq]), p_left b2]
            dsimp only
            rw [if_pos (eq _), p_err]
            dsimp only
            rw [if_pos (eq _), p_end b2, p_rend]
            dsimp only
            rw [if_pos (eq _), nx]
          · by_cases h3 : kind = 3
            · obtain ⟨k1, k2, b1, b2⟩ := p_sub2 (n := n) (e := e) hW hs
              have hlen := (wB_len (n := n) (w := w) (e := e)).1
              have hwl := hW.len
              have hwh := hW.h
              obtain ⟨k3, k4, b3, b4⟩ := p_num1 (n := 2) (e := (wB n w e).2.2) (s := (wB n w e).1) (by omega)
              refine next k1 k2 _ (wB n w e).2.2 b2 ?_
              unfold F_tollbarlaw01_OctetReads_L1
              dsimp only
              rw [if_pos cl, if_pos cr, if_pos cr, hk, hn, if_neg (by rw [pieq]; exact h0), if_neg (by rw [pieq]; exact h1), if_neg (by rw [pieq]; exact h2), if_pos (by rw [pieq]; exact h3), b1]
              dsimp only
              rw [p_rsub]
              dsimp only
              rw [b3]
              dsimp only
              rw [p_rnum]
              dsimp only
              rw [if_pos (eq _), p_left b4]
              dsimp only
              rw [if_pos (eq _), p_err]
              dsimp only
              rw [if_pos (eq _), p_left b2]
              dsimp only
              rw [if_pos (eq _), p_err]
              dsimp only
              rw [if_pos (eq _), p_end b2, p_rend]
              dsimp only
              rw [if_pos (eq _), nx]
            · refine next n1 n2 w e hW ?_
              unfold F_tollbarlaw01_OctetReads_L1
              dsimp only
              rw [if_pos cl, if_pos cr, if_pos cr, hk, if_neg (by rw [pieq]; exact h0), if_neg (by rw [pieq]; exact h1), if_neg (by rw [pieq]; exact h2), if_neg (by rw [pieq]; exact h3), p_left hW]
              dsimp only
              rw [if_pos (eq _), p_err]
              dsimp only
              rw [if_pos (eq _), p_end hW, p_rend]
              dsimp only
              rw [if_pos (eq _), nx]
  exact key r.length 0 0 s.length s 0 (by omega) (WS.all s)
end Go.Proofs.Ytolfegaldhhmkaa
end
section
/-
  The document's example of package octet; OctetReads for arguments as they come in.
-/
set_option linter.unusedVariables false
set_option linter.unusedSimpArgs false
namespace Go.Proofs.Ytolfegaldhhmkaa

theorem p_oawake : F_tollbarlaw01_awake = some true := by
  have eq : ∀ x : Int, ieq x x = true := fun x => by rw [pieq]
  have l3 : (byteOf (1 : Int) :: (byteOf (2 : Int) :: (byteOf (3 : Int) :: ([] : List UInt8)))) = [1, 2, 3] := by decide
  have l2 : (byteOf (1 : Int) :: (byteOf (0 : Int) :: ([] : List UInt8))) = [1, 0] := by decide
  obtain ⟨k1, k2, b1, b2⟩ := p_sub1 (n := 2) (e := 0) (s := [1, 2, 3]) (by simp)
  have w1 : wB 2 [1, 2, 3] 0 = ([1, 2], [3], 0) := by decide
  rw [w1] at b1 b2
  have v1 : F_octet_Value [1, 0] = some (256, true) := by rw [p_value _ (by simp), if_pos (by decide)]; rfl
  obtain ⟨n1, a1, a2, a3, a4⟩ := p_least (x := 256) (by omega)
  have hn1 : n1 = 2 := by
    have : n1 = 0 ∨ n1 = 1 ∨ n1 = 2 ∨ 3 ≤ n1 := by omega
    rcases this with rfl | rfl | rfl | h
    · simp at a2
    · simp at a2
    · rfl
    · have h2 : 256 ^ 2 ≤ 256 ^ (n1 - 1) := Nat.pow_le_pow_right (by omega) (by omega)
      omega
  subst hn1
  obtain ⟨n0, c1, c2, c3, c4⟩ := p_least (x := 0) (by omega)
  have hn0 : n0 = 0 := by
    rcases c3 with h | h
    · exact h
    · have : 0 < 256 ^ (n0 - 1) := Nat.pow_pos (by omega)
      omega
  subst hn0
  have g := p_big (x := 5) (by omega) 2 (by omega)
  obtain ⟨k3, k4, b3, b4⟩ := p_num1 (n := 2) (e := 0) (s := [1, 2]) (by simp)
  have w2 : wN 2 [1, 2] 0 = (258, [], 0) := by decide
  rw [w2] at b3 b4
  obtain ⟨k5, k6, b5, b6⟩ := p_byte2 (e := 0) b2 (by simp)
  have w3 : wN 1 [3] 0 = (3, [], 0) := by decide
  rw [w3] at b5 b6
  obtain ⟨k7, k8, b7, b8⟩ := p_byte2 (e := 0) b6 (by simp)
  have w4 : wN 1 [] 0 = (0, [], 10) := by decide
  rw [w4] at b7 b8
  unfold F_tollbarlaw01_awake
  rw [if_pos (by omega), if_pos (by omega), if_pos (by omega), l3, p_open (by simp)]
  dsimp only
  rw [b1]
  dsimp only
  rw [if_pos (by omega), if_pos (by omega), l2, v1]
  dsimp only
  rw [show (256 : Int) = ((256 : Nat) : Int) from rfl, a4]
  dsimp only
  rw [if_pos (by rw [pseq]; decide), show (0 : Int) = ((0 : Nat) : Int) from rfl, c4]
  dsimp only
  rw [if_pos (by rw [pieq]; rfl), show (5 : Int) = ((5 : Nat) : Int) from rfl, show (2 : Int) = ((2 : Nat) : Int) from rfl, g]
  dsimp only
  rw [if_pos (by rw [pseq]; decide), if_pos (eq _), if_pos rfl]
  have b3' : F_octet_Window_Num ((2 : Nat) : Int) ((0 : Nat) : Int) [1, 2] = some (258, k3, k4, 0) := b3
  rw [b3']
  dsimp only
  rw [if_pos (eq _)]
  have b0' := p_left (e := ((0 : Nat) : Int)) b2
  rw [b0']
  dsimp only
  rw [if_pos (by rw [pieq]; rfl)]
  have e1 := p_end (e := ((0 : Nat) : Int)) b2
  rw [e1]
  dsimp only
  rw [if_pos (by rw [pieq]; rfl)]
  have b5' : F_octet_Window_Byte k1 k2 ((0 : Nat) : Int) [1, 2, 3] = some (3, k5, k6, 0) := b5
  rw [b5']
  dsimp only
  rw [if_pos (eq _), p_end b6]
  dsimp only
  rw [if_pos (by rw [pieq]; rfl), b7]
  dsimp only
  rw [if_pos (by rw [pieq]; rfl), p_err]
  dsimp only
  rw [eq]
theorem p_OctetReads (s : List UInt8) (r : List D) (h1 : (Ty.bytes 5).rng (.s s)) (h2 : (Ty.row 32 (.st [.int .i64, .int .i64])).rng (.l r)) : F_tollbarlaw01_OctetReads s r = some true := reads_law p_oawake
end Go.Proofs.Ytolfegaldhhmkaa
end
section
/-
  OctetLeast, in plain words.
-/
set_option linter.unusedVariables false
set_option linter.unusedSimpArgs false
namespace Go.Proofs.Ytolfegaldhhmkaa

theorem valB_fold : ∀ (s : List UInt8) (x : Nat), s.foldl (fun x c => x * 256 + c.toNat) x = x * 256 ^ s.length + valB s
  | [], x => by simp [valB]
  | c :: s, x => by
    have h1 := valB_fold s (x * 256 + c.toNat)
    have h2 := valB_fold s (0 * 256 + c.toNat)
    have e : valB (c :: s) = s.foldl (fun x c => x * 256 + c.toNat) (0 * 256 + c.toNat) := rfl
    rw [List.foldl_cons, h1, e, h2, List.length_cons, Nat.pow_succ, Nat.add_mul, Nat.zero_mul, Nat.zero_add, Nat.mul_assoc, Nat.mul_comm 256 (256 ^ s.length)]
    omega
theorem valB_app (a b : List UInt8) : valB (a ++ b) = valB a * 256 ^ b.length + valB b := by
  have : valB (a ++ b) = b.foldl (fun x c => x * 256 + c.toNat) (valB a) := by simp [valB]
  rw [this, valB_fold]
theorem valB_cons (c : UInt8) (s : List UInt8) : valB (c :: s) = c.toNat * 256 ^ s.length + valB s := by
  have h := valB_fold s (0 * 256 + c.toNat)
  have e : valB (c :: s) = s.foldl (fun x c => x * 256 + c.toNat) (0 * 256 + c.toNat) := rfl
  rw [e, h, Nat.zero_mul, Nat.zero_add]
theorem valB_bigB (x : Nat) : ∀ n, valB (bigB x n) = x % 256 ^ n
  | 0 => by simp [bigB, valB]; omega
  | n + 1 => by
    have hlt : x / 256 ^ n % 256 < 256 := Nat.mod_lt _ (by omega)
    rw [bigB, valB_cons, valB_bigB x n, bigB_len, Nat.pow_succ, Nat.mod_mul]
    have : (UInt8.ofNat (x / 256 ^ n % 256)).toNat = x / 256 ^ n % 256 := by simp
    rw [this, Nat.mul_comm]
    omega
theorem valB_zeros (n : Nat) (s : List UInt8) : valB (List.replicate n 0 ++ s) = valB s := by
  induction n with
  | zero => rfl
  | succ n ih => rw [List.replicate_succ, List.cons_append, valB_nought, ih]
theorem p_power (k : Nat) (hk : k ≤ 7) : F_tollbarlaw01_power (k : Int) = some ((256 ^ k : Nat) : Int) := by
  unfold F_tollbarlaw01_power
  have key : ∀ (m i : Nat), i + m = k → iter (F_tollbarlaw01_power_L1 (k : Int)) (((256 ^ i : Nat) : Int), (i : Int)) = some ((256 ^ k : Nat) : Int) := by
    intro m
    induction m with
    | zero =>
      intro i hi
      have : i = k := by omega
      subst this
      apply iter_inr
      unfold F_tollbarlaw01_power_L1
      dsimp only
      rw [if_neg (by rw [pilt]; omega)]
    | succ m ih =>
      intro i hi
      have hp : 256 ^ i ≤ 256 ^ 6 := Nat.pow_le_pow_right (by omega) (by omega)
      have hp6 : (256 : Nat) ^ 6 = 281474976710656 := by decide
      rw [iter_inl (y := (((256 ^ (i + 1) : Nat) : Int), ((i + 1 : Nat) : Int)))]
      · exact ih (i + 1) (by omega)
      · unfold F_tollbarlaw01_power_L1
        dsimp only
        have e : imul .u64 ((256 ^ i : Nat) : Int) 256 = ((256 ^ (i + 1) : Nat) : Int) := by
          have e0 : ((256 ^ i : Nat) : Int) * 256 = ((256 ^ (i + 1) : Nat) : Int) := by rw [Nat.pow_succ]; exact (Int.natCast_mul (256 ^ i) 256).symm
          have hp2 : 256 ^ (i + 1) ≤ 256 ^ 7 := Nat.pow_le_pow_right (by omega) (by omega)
          have hp7 : (256 : Nat) ^ 7 = 72057594037927936 := by decide
          generalize 256 ^ (i + 1) = y at *
          simp only [imul]
          rw [e0, pu64 (by omega) (by omega)]
        rw [if_pos (by rw [pilt]; omega), e, pnext (by omega)]
  exact key k 0 (by omega)
theorem least_law {x a : Int} (hx : U x) (ha : 0 ≤ a ∧ a < 256) : F_tollbarlaw01_OctetLeast x a = some true := by
  obtain ⟨x, rfl⟩ := Int.eq_ofNat_of_zero_le hx.lo
  have hx' : x < 18446744073709551616 := by have := hx.hi; omega
  obtain ⟨n, n8, h1, h2, h3⟩ := p_least hx'
  have hv : valB (bigB x n) = x := by rw [valB_bigB, Nat.mod_eq_of_lt h1]
  have hl := bigB_len x n
  obtain ⟨z, hz, hz2⟩ : ∃ z : Nat, iconv .i64 (irem a 20) = (z : Int) ∧ z < 20 := by
    refine ⟨(a % 20).toNat, ?_, by omega⟩
    simp only [iconv, irem]
    rw [Int.tmod_eq_emod_of_nonneg ha.1, pwi64 (by omega) (by omega)]
    omega
  have v1 : F_octet_Value (bigB x n) = some ((x : Int), true) := by rw [p_value _ (by omega), hv, if_pos hx']
  have ec : cat (@lrep UInt8 (toN (z : Int)) 0) (bigB x n) = List.replicate z 0 ++ bigB x n := rfl
  have v2 : F_octet_Value (cat (@lrep UInt8 (toN (z : Int)) 0) (bigB x n)) = some ((x : Int), true) := by
    rw [ec, p_value _ (by simp; omega), valB_zeros, hv, if_pos hx']
  have l9 : (byteOf (1 : Int) :: (byteOf (0 : Int) :: (byteOf (0 : Int) :: (byteOf (0 : Int) :: (byteOf (0 : Int) :: (byteOf (0 : Int) :: (byteOf (0 : Int) :: (byteOf (0 : Int) :: (byteOf (0 : Int) :: ([] : List UInt8)))))))))) = [1, 0, 0, 0, 0, 0, 0, 0, 0] := by decide
  have v3 : F_octet_Value [1, 0, 0, 0, 0, 0, 0, 0, 0] = some (0, false) := by rw [p_value _ (by simp), if_neg (by decide)]
  have eq : ∀ x : Int, ieq x x = true := fun x => by rw [pieq]
  have xl : ofN (xlen (bigB x n)) = (n : Int) := by simp only [ofN, xlen, hl]
  have g1 : (0 : Int) ≤ 1 ∧ (1 : Int) < 256 := by omega
  have g0 : (0 : Int) ≤ 0 ∧ (0 : Int) < 256 := by omega
  unfold F_tollbarlaw01_OctetLeast
  rw [p_oawake]
  dsimp only
  rw [if_pos rfl, h3]
  dsimp only
  rw [v1]
  dsimp only
  rw [hz, if_pos ⟨by omega, by omega, by simp; omega, by omega⟩, if_pos (by simp [xlen, lrep, toN, hl]; omega), v2]
  dsimp only
  rw [xl, if_neg (by rw [pilt]; omega)]
  by_cases n0 : n = 0
  · subst n0
    have hx0 : x = 0 := by simpa using h1
    subst hx0
    rw [if_neg (by rw [pilt]; omega), if_pos (eq _), if_pos rfl, if_pos (eq _), if_pos rfl, if_pos g1, if_pos g0, if_pos g0, if_pos g0, if_pos g0, if_pos g0, if_pos g0, if_pos g0, if_pos g0, l9, v3]
    dsimp only
    rw [if_neg (by simp), if_neg (by rw [pieq]; omega), p_power 0 (by omega)]
    dsimp only
    rw [if_pos (by rw [pilt]; decide), if_pos (by rw [pieq]; rfl)]
  · have hge : 256 ^ (n - 1) ≤ x := by rcases h2 with h | h; exact absurd h n0; exact h
    obtain ⟨m, rfl⟩ : ∃ m, n = m + 1 := ⟨n - 1, by omega⟩
    have hge' : 256 ^ m ≤ x := hge
    have hb : getB (bigB x (m + 1)) (toN 0) = ((x / 256 ^ m % 256 : Nat) : Int) := by
      have : (UInt8.ofNat (x / 256 ^ m % 256)).toNat = x / 256 ^ m % 256 := by simp
      show (((UInt8.ofNat (x / 256 ^ m % 256)).toNat : Nat) : Int) = _
      rw [this]
    have hpos : 0 < 256 ^ m := Nat.pow_pos (by omega)
    have hd : 1 ≤ x / 256 ^ m := (Nat.le_div_iff_mul_le hpos).2 (by omega)
    have hd2 : x / 256 ^ m < 256 := (Nat.div_lt_iff_lt_mul hpos).2 (by rw [Nat.pow_succ] at h1; omega)
    have em : isub .i64 (((m + 1 : Nat)) : Int) 1 = (m : Int) := by simp only [isub]; rw [pwi64 (by omega) (by omega)]; omega
    rw [if_pos (by rw [pilt]; omega), if_pos ⟨by omega, by omega⟩, if_neg (by rw [pieq, hb, Nat.mod_eq_of_lt hd2]; exact fun h => by have := Int.natCast_eq_zero.1 h; omega), if_pos (eq _), if_pos rfl, if_pos (eq _), if_pos rfl, if_pos g1, if_pos g0, if_pos g0, if_pos g0, if_pos g0, if_pos g0, if_pos g0, if_pos g0, if_pos g0, l9, v3]
    dsimp only
    rw [if_neg (by simp), em]
    have last : ile ((256 ^ m : Nat) : Int) (x : Int) = true := by rw [pile]; exact Int.ofNat_le.2 hge'
    by_cases h8 : m + 1 = 8
    · rw [if_pos (by rw [pieq]; omega), if_neg (by rw [pieq]; omega), p_power m (by omega)]
      dsimp only
      rw [last]
    · rw [if_neg (by rw [pieq]; omega), p_power (m + 1) (by omega)]
      dsimp only
      rw [if_pos (by rw [pilt]; exact Int.ofNat_lt.2 h1), if_neg (by rw [pieq]; omega), p_power m (by omega)]
      dsimp only
      rw [last]
theorem p_OctetLeast (x a : Int) (h1 : (Lit.int .u64 x).wf = true) (h2 : (Lit.int .u8 a).wf = true) : F_tollbarlaw01_OctetLeast x a = some true := least_law (wf_U h1) (wf_u8 h2)
end Go.Proofs.Ytolfegaldhhmkaa
end
section
/-
  OctetWindows, in plain words.
-/
set_option linter.unusedVariables false
set_option linter.unusedSimpArgs false
namespace Go.Proofs.Ytolfegaldhhmkaa

theorem wB_in {n : Nat} {w : List UInt8} (h : n ≤ w.length) : wB (n : Int) w 0 = (w.take n, w.drop n, 0) := by
  unfold wB
  rw [if_neg (by simp), if_neg (by omega), if_neg (by omega)]
  rfl
/-- Bytes read one by one. -/
def wR (t : List UInt8) (i : Nat) : List UInt8 × Int := if i ≤ t.length then (t.drop i, 0) else ([], 10)
theorem wR_next (t : List UInt8) (i : Nat) : ((wN 1 (wR t i).1 (wR t i).2).2.1, (wN 1 (wR t i).1 (wR t i).2).2.2) = wR t (i + 1) := by
  unfold wR
  by_cases h : i ≤ t.length
  · rw [if_pos h]
    dsimp only
    unfold wN
    rw [if_neg (by simp), if_neg (by omega)]
    dsimp only
    by_cases h2 : i + 1 ≤ t.length
    · rw [if_pos h2]
      have : wB 1 (t.drop i) 0 = ((t.drop i).take 1, (t.drop i).drop 1, 0) := wB_in (n := 1) (by simp; omega)
      rw [this, List.drop_drop]
    · rw [if_neg h2]
      have hi : i = t.length := by omega
      subst hi
      rw [List.drop_length]
      rfl
  · rw [if_neg h, if_neg (by omega)]
    rfl
theorem windows_law {s : List UInt8} {x a : Int} (hx : 0 ≤ x ∧ x < 65536) (ha : 0 ≤ a ∧ a < 256) : F_tollbarlaw01_OctetWindows s x a = some true := by
  unfold F_tollbarlaw01_OctetWindows
  rw [p_oawake]
  dsimp only
  rw [if_pos rfl]
  by_cases c1 : 250 < s.length
  · rw [if_pos (by simp only [pilt, ofN, xlen]; omega)]
  rw [if_neg (by simp only [pilt, ofN, xlen]; omega), p_open (by omega)]
  dsimp only
  have hs : s.length ≤ 1000000 := by omega
  have e1 : iadd .i64 (ofN (xlen s)) 1 = ((s.length + 1 : Nat) : Int) := pnext (n := s.length) (by omega)
  obtain ⟨k, hk, hkl⟩ : ∃ k : Nat, irem (iconv .i64 (irem x 256)) (iadd .i64 (ofN (xlen s)) 1) = (k : Int) ∧ k ≤ s.length := by
    rw [e1]
    have h0 : irem x 256 = x % 256 := Int.tmod_eq_emod_of_nonneg hx.1
    have h1 : iconv .i64 (x % 256) = x % 256 := by simp only [iconv]; rw [pwi64 (by omega) (by omega)]
    rw [h0, h1]
    have h2 := Int.emod_lt_of_pos (x % 256) (show (0 : Int) < ((s.length + 1 : Nat) : Int) by omega)
    have h3 := Int.emod_nonneg (x % 256) (show ((s.length + 1 : Nat) : Int) ≠ 0 by omega)
    refine ⟨(x % 256 % ((s.length + 1 : Nat) : Int)).toNat, ?_, by omega⟩
    rw [Int.toNat_of_nonneg h3]
    exact Int.tmod_eq_emod_of_nonneg (by omega)
  have e2 : iadd .i64 (isub .i64 (ofN (xlen s)) (k : Int)) 1 = ((s.length - k + 1 : Nat) : Int) := by
    have : isub .i64 (ofN (xlen s)) (k : Int) = ((s.length - k : Nat) : Int) := by
      simp only [isub, ofN, xlen]; rw [pwi64 (by omega) (by omega)]; omega
    rw [this]; exact pnext (by omega)
  obtain ⟨m, hm, hml⟩ : ∃ m : Nat, irem (iconv .i64 (iquo .u16 x 256)) (iadd .i64 (isub .i64 (ofN (xlen s)) (k : Int)) 1) = (m : Int) ∧ m ≤ s.length - k := by
    rw [e2]
    have h0 : iquo .u16 x 256 = x / 256 := by
      simp only [iquo]
      rw [Int.tdiv_eq_ediv_of_nonneg hx.1, pu16 (by omega) (by omega)]
    have h1 : iconv .i64 (x / 256) = x / 256 := by simp only [iconv]; rw [pwi64 (by omega) (by omega)]
    rw [h0, h1]
    have h2 := Int.emod_lt_of_pos (x / 256) (show (0 : Int) < ((s.length - k + 1 : Nat) : Int) by omega)
    have h3 := Int.emod_nonneg (x / 256) (show ((s.length - k + 1 : Nat) : Int) ≠ 0 by omega)
    refine ⟨(x / 256 % ((s.length - k + 1 : Nat) : Int)).toNat, ?_, by omega⟩
    rw [Int.toNat_of_nonneg h3]
    exact Int.tmod_eq_emod_of_nonneg (by omega)
  obtain ⟨k1, k2, b1, b2⟩ := p_bytes1 (n := (k : Int)) (e := 0) hs
  have w1 := wB_in hkl
  rw [w1] at b1 b2
  dsimp only at b1 b2
  obtain ⟨k3, k4, b3, b4⟩ := p_sub2 (n := (m : Int)) (e := 0) b2 hs
  have w2 : wB (m : Int) (s.drop k) 0 = ((s.drop k).take m, (s.drop k).drop m, 0) := wB_in (by simp; omega)
  rw [w2] at b3 b4
  dsimp only at b3 b4
  have lt3 : ((s.drop k).take m).length = m := by simp; omega
  have ea : iconv .i64 a = a := by simp only [iconv]; rw [pwi64 (by omega) (by omega)]
  obtain ⟨a, rfl⟩ := Int.eq_ofNat_of_zero_le ha.1
  rw [if_pos (by rw [e1]; omega), hk, if_pos (by rw [e2]; omega), b1]
  dsimp only
  rw [hm, b3]
  dsimp only
  generalize ht : (s.drop k).take m = t at *
  have key : ∀ (j i n1 n2 : Nat), i + j = a → WS t n1 n2 (wR t i).1 → iter (F_tollbarlaw01_OctetWindows_L1 (a : Int) t x s 0 k3 k4 0 s) ((i : Int), n1, n2, (wR t i).2) = some true := by
    intro j
    induction j with
    | zero =>
      intro i n1 n2 hi hW
      have : i = a := by omega
      subst this
      obtain ⟨k5, k6, b5, b6⟩ := p_bytes1 (n := (m : Int)) (e := 0) (s := t) (by omega)
      have w3 : wB (m : Int) t 0 = (t, [], 0) := by
        rw [wB_in (by omega), List.take_of_length_le (by omega), List.drop_of_length_le (by omega)]
      rw [w3] at b5 b6
      dsimp only at b5 b6
      obtain ⟨k7, k8, b7, b8⟩ := p_bytes2 (n := ((s.length - k - m : Nat) : Int)) (e := 0) b4 hs
      have w4 : wB ((s.length - k - m : Nat) : Int) ((s.drop k).drop m) 0 = ((s.drop k).drop m, [], 0) := by
        have hh : ((s.drop k).drop m).length = s.length - k - m := by simp; omega
        have h5 : ((s.drop k).drop m).drop (s.length - k - m) = [] := List.drop_of_length_le (by omega)
        have h6 : ((s.drop k).drop m).take (s.length - k - m) = (s.drop k).drop m := List.take_of_length_le (by omega)
        rw [wB_in (by omega), h5, h6]
      rw [w4] at b7 b8
      dsimp only at b7 b8
      have s1 : iadd .i64 (k : Int) (m : Int) = ((k + m : Nat) : Int) := by simp only [iadd]; rw [pwi64 (by omega) (by omega)]; omega
      have s2 : isub .i64 (isub .i64 (ofN (xlen s)) (k : Int)) (m : Int) = ((s.length - k - m : Nat) : Int) := by
        have : isub .i64 (ofN (xlen s)) (k : Int) = ((s.length - k : Nat) : Int) := by
          simp only [isub, ofN, xlen]; rw [pwi64 (by omega) (by omega)]; omega
        rw [this]; simp only [isub]; rw [pwi64 (by omega) (by omega)]; omega
      have s3 : isub .i64 (m : Int) (i : Int) = (m : Int) - (i : Int) := by simp only [isub]; rw [pwi64 (by omega) (by omega)]
      have q1 : t = lsub s (toN (k : Int)) (ndec (toN ((k + m : Nat) : Int)) (toN (k : Int))) := by
        rw [← ht]
        show _ = (s.drop k).take (k + m - k)
        rw [show k + m - k = m by omega]
      have q2 : (s.drop k).drop m = lsub s (toN ((k + m : Nat) : Int)) (ndec (xlen s) (toN ((k + m : Nat) : Int))) := by
        show _ = (s.drop (k + m)).take (s.length - (k + m))
        rw [List.drop_drop, List.take_of_length_le (by simp)]
      have lW := hW.len
      have lR : ofN (xlen (wR t i).1) = imax ((m : Int) - (i : Int)) 0 := by
        rw [pimax]
        unfold wR
        split
        · simp only [ofN, xlen, List.length_drop]; omega
        · simp only [ofN, xlen, List.length_nil]; omega
      have eR : beq2 (ieq (wR t i).2 0) (ile (i : Int) (m : Int)) = true := by
        rw [pbeq2]
        unfold wR
        by_cases h : i ≤ t.length
        · rw [if_pos h]
          have h1 : ieq (0 : Int) 0 = true := by rw [pieq]
          have h2 : ile (i : Int) (m : Int) = true := by rw [pile]; omega
          rw [h1, h2]
        · rw [if_neg h]
          have h1 : ieq (10 : Int) 0 = false := by decide
          have h2 : ile (i : Int) (m : Int) = false := by
            cases hb : ile (i : Int) (m : Int) with
            | false => rfl
            | true => rw [pile] at hb; omega
          rw [h1, h2]
      apply iter_inr
      unfold F_tollbarlaw01_OctetWindows_L1
      dsimp only
      rw [ea, if_neg (by rw [pilt]; omega), hk, hm, b5]
      dsimp only
      rw [s1, s2, s3, if_pos ⟨by omega, by omega, by simp only [ofN, xlen]; omega⟩, if_pos (by rw [pseq]; exact q1), p_end b6]
      dsimp only
      rw [if_pos (by rw [pieq]; rfl), p_left hW]
      dsimp only
      rw [if_pos (by rw [pieq]; exact lR), b7]
      dsimp only
      rw [if_pos ⟨by omega, by simp only [ofN, xlen]; omega⟩, if_pos (by rw [pseq]; exact q2), p_end b8]
      dsimp only
      rw [if_pos (by rw [pieq]; rfl), p_err]
      dsimp only
      rw [eR]
    | succ j ih =>
      intro i n1 n2 hi hW
      obtain ⟨k5, k6, b5, b6⟩ := p_byte2 (e := (wR t i).2) hW (by omega)
      have hn := wR_next t i
      have hn1 : (wN 1 (wR t i).1 (wR t i).2).2.1 = (wR t (i + 1)).1 := by rw [← hn]
      have hn2 : (wN 1 (wR t i).1 (wR t i).2).2.2 = (wR t (i + 1)).2 := by rw [← hn]
      rw [hn1] at b6
      rw [hn2] at b5
      rw [iter_inl (y := (((i + 1 : Nat) : Int), k5, k6, (wR t (i + 1)).2))]
      · exact ih (i + 1) k5 k6 (by omega) b6
      · unfold F_tollbarlaw01_OctetWindows_L1
        dsimp only
        rw [ea, if_pos (by rw [pilt]; omega), b5]
        dsimp only
        rw [pnext (by omega)]
  have h0 : wR t 0 = (t, 0) := by unfold wR; rw [if_pos (by omega)]; rfl
  have := key a 0 0 t.length (by omega) (by rw [h0]; exact WS.all t)
  rw [h0] at this
  exact this
theorem p_OctetWindows (s : List UInt8) (x a : Int) (h0 : (Ty.bytes 5).rng (.s s)) (h1 : (Lit.int .u16 x).wf = true) (h2 : (Lit.int .u8 a).wf = true) : F_tollbarlaw01_OctetWindows s x a = some true := windows_law (wf_u16 h1) (wf_u8 h2)
end Go.Proofs.Ytolfegaldhhmkaa
end
section
/-
  OctetBack, in plain words.
-/
set_option linter.unusedVariables false
set_option linter.unusedSimpArgs false
namespace Go.Proofs.Ytolfegaldhhmkaa

/-- How many bytes a number is put in. -/
def szB (s : List UInt8) (i : Nat) : Nat := (s.getD i 0).toNat % 8 + 1
theorem szB_le (s : List UInt8) (i : Nat) : 1 ≤ szB s i ∧ szB s i ≤ 8 := by unfold szB; omega
theorem p_sz {s : List UInt8} {i : Nat} (h : i < s.length) : iadd .i64 (iconv .i64 (irem (getB s (toN (i : Int))) 8)) 1 = (szB s i : Int) := by
  have e : getB s (toN (i : Int)) = (((s.getD i 0).toNat : Nat) : Int) := rfl
  have hc : (s.getD i 0).toNat < 256 := (s.getD i 0).toNat_lt
  rw [e]
  have h1 : irem (((s.getD i 0).toNat : Nat) : Int) 8 = (((s.getD i 0).toNat % 8 : Nat) : Int) := by
    simp only [irem]
    rw [Int.tmod_eq_emod_of_nonneg (by omega)]
    omega
  rw [h1]
  have h2 : iconv .i64 (((s.getD i 0).toNat % 8 : Nat) : Int) = (((s.getD i 0).toNat % 8 : Nat) : Int) := by simp only [iconv]; rw [pwi64 (by omega) (by omega)]
  rw [h2, pnext (by omega)]
  rfl
/-- A number's bytes, in their place; all from one place on; all ahead of one. -/
def oneB (l : List Int) (s : List UInt8) (i : Nat) : List UInt8 := bigB (l.getD i 0).toNat (szB s i)
def fromB (l : List Int) (s : List UInt8) : Nat → Nat → List UInt8
  | 0, _ => []
  | m + 1, i => oneB l s i ++ fromB l s m (i + 1)
def aheadB (l : List Int) (s : List UInt8) : Nat → List UInt8
  | 0 => []
  | i + 1 => aheadB l s i ++ oneB l s i
theorem oneB_len (l : List Int) (s : List UInt8) (i : Nat) : (oneB l s i).length = szB s i := bigB_len _ _
theorem ahead_from (l : List Int) (s : List UInt8) : ∀ (m i : Nat), aheadB l s i ++ fromB l s m i = aheadB l s (i + m)
  | 0, i => by simp [fromB]
  | m + 1, i => by
    have := ahead_from l s m (i + 1)
    rw [show i + (m + 1) = i + 1 + m by omega, ← this]
    simp [fromB, aheadB]
theorem fromB_pos (l : List Int) (s : List UInt8) (m i : Nat) (h : 0 < m) : 0 < (fromB l s m i).length := by
  cases m with
  | zero => omega
  | succ m =>
    have := (szB_le s i).1
    simp only [fromB, List.length_append, oneB_len]
    omega
theorem fromB_le (l : List Int) (s : List UInt8) : ∀ (m i : Nat), (fromB l s m i).length ≤ 8 * m
  | 0, i => by simp [fromB]
  | m + 1, i => by
    have := (szB_le s i).2
    have := fromB_le l s m (i + 1)
    simp only [fromB, List.length_append, oneB_len]
    omega
theorem wN_one {x n : Nat} {rest : List UInt8} (hn : 1 ≤ n ∧ n ≤ 8) : wN (n : Int) (bigB x n ++ rest) 0 = (((x % 256 ^ n : Nat) : Int), rest, 0) := by
  have hb : wB (n : Int) (bigB x n ++ rest) 0 = (bigB x n, rest, 0) := by
    rw [wB_in (by simp [bigB_len])]
    rw [List.take_left' (bigB_len x n), List.drop_left' (bigB_len x n)]
  unfold wN
  rw [if_neg (by simp), if_neg (by omega), hb, valB_bigB]
theorem wN_short {n : Nat} {w : List UInt8} (hn : 1 ≤ n ∧ n ≤ 8) (h : w.length < n) : (wN (n : Int) w 0).2 = (w, 10) := by
  unfold wN wB
  rw [if_neg (by simp), if_neg (by omega), if_neg (by simp), if_neg (by omega), if_pos (by omega)]
/-- The number that a row of rests leaves. -/
theorem back_mod {l1 : List Int} {s t5 : List UInt8} {i n1 n2 x : Nat} {e : Int} (hi : i < s.length) (hx : x < 18446744073709551616) :
    iter (F_tollbarlaw01_OctetBack_L3 s (i : Int) n1 n2 e t5) ((x : Int), 7) = iter (F_tollbarlaw01_OctetBack_L3 s (i : Int) n1 n2 e t5) (((x % 256 ^ szB s i : Nat) : Int), (szB s i : Int) - 1) := by
  have hz := szB_le s i
  have key : ∀ (m k y : Nat), szB s i + m = k → k ≤ 8 → y < 256 ^ k → y % 256 ^ szB s i = x % 256 ^ szB s i →
      iter (F_tollbarlaw01_OctetBack_L3 s (i : Int) n1 n2 e t5) ((y : Int), (k : Int) - 1) = iter (F_tollbarlaw01_OctetBack_L3 s (i : Int) n1 n2 e t5) (((x % 256 ^ szB s i : Nat) : Int), (szB s i : Int) - 1) := by
    intro m
    induction m with
    | zero =>
      intro k y hk hk8 hy he
      have : k = szB s i := by omega
      subst this
      rw [← he, Nat.mod_eq_of_lt hy]
    | succ m ih =>
      intro k y hk hk8 hy he
      have hp : 0 < 256 ^ (k - 1) := Nat.pow_pos (by omega)
      obtain ⟨c, hc⟩ : ∃ c : Nat, k = c + 1 := ⟨k - 1, by omega⟩
      subst hc
      have e0 : ((c + 1 : Nat) : Int) - 1 = (c : Int) := by omega
      rw [e0, iter_inl (y := (((y % 256 ^ c : Nat) : Int), (c : Int) - 1))]
      · refine ih c (y % 256 ^ c) (by omega) (by omega) (Nat.mod_lt _ hp) ?_
        rw [← he]
        exact Nat.mod_mod_of_dvd y (Nat.pow_dvd_pow 256 (by omega))
      · unfold F_tollbarlaw01_OctetBack_L3
        dsimp only
        have e1 : irem (y : Int) ((256 ^ c : Nat) : Int) = ((y % 256 ^ c : Nat) : Int) := by
          simp only [irem]
          rw [Int.tmod_eq_emod_of_nonneg (by omega)]
          exact (Int.natCast_emod y (256 ^ c)).symm
        have e2 : isub .i64 (c : Int) 1 = (c : Int) - 1 := by simp only [isub]; rw [pwi64 (by omega) (by omega)]
        rw [p_sz hi, if_pos (by rw [pile]; omega), p_power c (by omega)]
        dsimp only
        rw [if_pos (by have : 0 < 256 ^ c := hp; exact fun h => by have := Int.natCast_eq_zero.1 h; omega), e1, e2]
  have hp8 : (256 : Nat) ^ 8 = 18446744073709551616 := by decide
  have := key (8 - szB s i) 8 x (by omega) (by omega) (by omega) rfl
  rw [show ((8 : Nat) : Int) - 1 = 7 from rfl] at this
  exact this
theorem fromB_dropLast (l : List Int) (s : List UInt8) (m i : Nat) (h : 0 < m) : (fromB l s (m + 1) i).dropLast = oneB l s i ++ (fromB l s m (i + 1)).dropLast := by
  have h1 := fromB_pos l s m (i + 1) h
  have h2 : fromB l s m (i + 1) ≠ [] := by intro e; rw [e] at h1; simp at h1
  show (oneB l s i ++ fromB l s m (i + 1)).dropLast = _
  exact List.dropLast_append_of_ne_nil h2
theorem aheadB_len (l : List Int) (s : List UInt8) (i : Nat) : (aheadB l s i).length ≤ 8 * i := by
  have h1 := ahead_from l s i 0
  have h2 := fromB_le l s i 0
  rw [Nat.zero_add] at h1
  rw [← h1]
  simpa [aheadB] using h2
theorem back_L3 {l1 : List Int} {s t5 w : List UInt8} {i n1 n2 x : Nat} (hi : i < s.length) (hil : i < 1000) (hx : x < 18446744073709551616) (ht : t5.length ≤ 1000000) (hW : WS t5 n1 n2 (bigB x (szB s i) ++ w)) :
    ∃ k1 k2, iter (F_tollbarlaw01_OctetBack_L3 s (i : Int) n1 n2 0 t5) ((x : Int), 7) = some (.inl (((i + 1 : Nat) : Int), k1, k2, 0)) ∧ WS t5 k1 k2 w := by
  have hz := szB_le s i
  obtain ⟨k1, k2, b1, b2⟩ := p_num2 (n := (szB s i : Int)) (e := 0) hW ht
  rw [wN_one hz] at b1 b2
  refine ⟨k1, k2, ?_, b2⟩
  rw [back_mod (l1 := l1) hi hx]
  apply iter_inr
  unfold F_tollbarlaw01_OctetBack_L3
  dsimp only
  rw [p_sz hi, if_neg (by rw [pile]; omega), b1]
  dsimp only
  rw [if_pos (by rw [pieq]), pnext (by omega)]
theorem back_L4 {l : List Int} {s t6 : List UInt8} (hs : l.length ≤ s.length) (hl : l.length ≤ 40) (ht : t6.length ≤ 1000000) : ∀ (m i n3 n4 : Nat) (w : List UInt8) (e : Int), i + m = l.length → WS t6 n3 n4 w → (0 < m → w = (fromB l s m i).dropLast ∧ e = 0) → (m = 0 → e = 10) →
    iter (F_tollbarlaw01_OctetBack_L4 l s t6) ((i : Int), n3, n4, e) = some true
  | 0, i, n3, n4, w, e, hi, hW, h1, h2 => by
    have he := h2 rfl
    subst he
    apply iter_inr
    unfold F_tollbarlaw01_OctetBack_L4
    dsimp only
    rw [if_neg (by rw [pilt]; simp only [ofN, xlen]; omega), p_end hW]
    dsimp only
    have : wE w 10 = 10 := by unfold wE; rw [if_neg (by omega)]
    rw [this]
    rfl
  | m + 1, i, n3, n4, w, e, hi, hW, h1, h2 => by
    obtain ⟨hw, rfl⟩ := h1 (by omega)
    have hz := szB_le s i
    obtain ⟨k1, k2, b1, b2⟩ := p_num2 (n := (szB s i : Int)) (e := 0) hW ht
    have ih := back_L4 hs hl ht m (i + 1) k1 k2 (wN (szB s i : Int) w 0).2.1 (wN (szB s i : Int) w 0).2.2 (by omega) b2
    rw [iter_inl (y := (((i + 1 : Nat) : Int), k1, k2, (wN (szB s i : Int) w 0).2.2))]
    · apply ih
      · intro hm
        rw [hw, fromB_dropLast l s m i hm]
        show (wN (szB s i : Int) (bigB (l.getD i 0).toNat (szB s i) ++ _) 0).2.1 = _ ∧ (wN (szB s i : Int) (bigB (l.getD i 0).toNat (szB s i) ++ _) 0).2.2 = _
        rw [wN_one hz]
        exact ⟨rfl, rfl⟩
      · intro hm
        subst hm
        have hlen : w.length < szB s i := by
          rw [hw]
          simp only [fromB, List.append_nil, List.length_dropLast, oneB_len]
          omega
        rw [wN_short hz hlen]
    · unfold F_tollbarlaw01_OctetBack_L4
      dsimp only
      rw [if_pos (by rw [pilt]; simp only [ofN, xlen]; omega), if_pos (by simp only [ofN, xlen]; omega), p_sz (by omega), b1]
      dsimp only
      rw [pnext (by omega)]
theorem back_L2 {l : List Int} {s : List UInt8} (hu : ∀ x ∈ l, U x) (hs : l.length ≤ s.length) (hl : l.length ≤ 40) : ∀ (m i n1 n2 : Nat), i + m = l.length → WS (aheadB l s l.length) n1 n2 (fromB l s m i) →
    iter (F_tollbarlaw01_OctetBack_L2 l s (aheadB l s l.length) (aheadB l s l.length)) ((i : Int), n1, n2, 0) = some true
  | 0, i, n1, n2, hi, hW => by
    have hal := aheadB_len l s l.length
    apply iter_inr
    unfold F_tollbarlaw01_OctetBack_L2
    dsimp only
    rw [if_neg (by rw [pilt]; simp only [ofN, xlen]; omega), p_end hW]
    dsimp only
    have : wE (fromB l s 0 i) 0 = 0 := by unfold wE fromB; rw [if_neg (by simp)]
    rw [this, if_pos (by rw [pieq])]
    by_cases h0 : l.length = 0
    · rw [if_pos (by rw [pieq]; simp only [ofN, xlen]; omega)]
      rfl
    · have hpos := fromB_pos l s l.length 0 (by omega)
      have haf := ahead_from l s l.length 0
      rw [Nat.zero_add] at haf
      have haf' : fromB l s l.length 0 = aheadB l s l.length := by rw [← haf]; rfl
      rw [haf'] at hpos
      have e1 : isub .i64 (ofN (xlen (aheadB l s l.length))) 1 = (((aheadB l s l.length).length - 1 : Nat) : Int) := by
        simp only [isub, ofN, xlen]; rw [pwi64 (by omega) (by omega)]; omega
      have e2 : lsub (aheadB l s l.length) 0 (toN (((aheadB l s l.length).length - 1 : Nat) : Int)) = (aheadB l s l.length).dropLast := by
        rw [List.dropLast_eq_take]
        simp [lsub, toN]
      have hdl : (aheadB l s l.length).dropLast.length ≤ 1000000 := by rw [List.length_dropLast]; omega
      rw [if_neg (by rw [pieq]; simp only [ofN, xlen]; omega), e1, if_pos (by simp only [ofN, xlen]; omega), e2, p_open hdl]
      dsimp only
      have b4 := back_L4 hs hl hdl l.length 0 0 (xlen (aheadB l s l.length).dropLast) (aheadB l s l.length).dropLast 0 (by omega) (WS.all _) (fun _ => ⟨by rw [haf'], rfl⟩) (fun h => absurd h h0)
      rw [show ((0 : Nat) : Int) = 0 from rfl] at b4
      rw [b4]
      rfl
  | m + 1, i, n1, n2, hi, hW => by
    have hal := aheadB_len l s l.length
    have hlt : i < l.length := by omega
    have hUx : U l[i] := hu _ (List.getElem_mem hlt)
    obtain ⟨x, hx⟩ := Int.eq_ofNat_of_zero_le hUx.lo
    have hx' : x < 18446744073709551616 := by have := hUx.hi; omega
    have eg : getI l (toN (i : Int)) = (x : Int) := by rw [← hx]; exact pgetI hlt
    have e1 : oneB l s i = bigB x (szB s i) := by
      unfold oneB
      have : l.getD i 0 = (x : Int) := by rw [← hx]; simp [hlt]
      rw [this]
      rfl
    have hW' : WS (aheadB l s l.length) n1 n2 (bigB x (szB s i) ++ fromB l s m (i + 1)) := by rw [← e1]; exact hW
    obtain ⟨k1, k2, b1, b2⟩ := back_L3 (l1 := l) (by omega) (by omega) hx' (by omega) hW'
    rw [iter_inl (y := (((i + 1 : Nat) : Int), k1, k2, 0))]
    · exact back_L2 hu hs hl m (i + 1) k1 k2 (by omega) b2
    · unfold F_tollbarlaw01_OctetBack_L2
      dsimp only
      rw [if_pos (by rw [pilt]; simp only [ofN, xlen]; omega), if_pos (by simp only [ofN, xlen]; omega), if_pos (by simp only [ofN, xlen]; omega), eg, b1]
theorem back_L1 {l : List Int} {s : List UInt8} (hu : ∀ x ∈ l, U x) (hs : l.length ≤ s.length) (hl : l.length ≤ 40) : ∀ (m i : Nat), i + m = l.length →
    iter (F_tollbarlaw01_OctetBack_L1 l s) ((i : Int), aheadB l s i) = some true
  | 0, i, hi => by
    have hal := aheadB_len l s l.length
    have hil : i = l.length := by omega
    subst hil
    apply iter_inr
    unfold F_tollbarlaw01_OctetBack_L1
    dsimp only
    rw [if_neg (by rw [pilt]; simp only [ofN, xlen]; omega), p_open (by omega)]
    dsimp only
    have haf := ahead_from l s l.length 0
    rw [Nat.zero_add] at haf
    have haf' : fromB l s l.length 0 = aheadB l s l.length := by rw [← haf]; rfl
    rw [show (0 : Int) = ((0 : Nat) : Int) from rfl]
    have := back_L2 hu hs hl l.length 0 0 (xlen (aheadB l s l.length)) (by omega) (by rw [haf']; exact WS.all _)
    rw [show ((0 : Nat) : Int) = 0 from rfl] at this ⊢
    rw [this]
    rfl
  | m + 1, i, hi => by
    have hlt : i < l.length := by omega
    have hai := aheadB_len l s i
    have hUx : U l[i] := hu _ (List.getElem_mem hlt)
    obtain ⟨x, hx⟩ := Int.eq_ofNat_of_zero_le hUx.lo
    have hx' : x < 18446744073709551616 := by have := hUx.hi; omega
    have eg : getI l (toN (i : Int)) = (x : Int) := by rw [← hx]; exact pgetI hlt
    have e1 : oneB l s i = bigB x (szB s i) := by
      unfold oneB
      have : l.getD i 0 = (x : Int) := by rw [← hx]; simp [hlt]
      rw [this]
      rfl
    have hz := szB_le s i
    have hbl := bigB_len x (szB s i)
    rw [iter_inl (y := (((i + 1 : Nat) : Int), aheadB l s (i + 1)))]
    · exact back_L1 hu hs hl m (i + 1) (by omega)
    · unfold F_tollbarlaw01_OctetBack_L1
      dsimp only
      rw [if_pos (by rw [pilt]; simp only [ofN, xlen]; omega), if_pos (by simp only [ofN, xlen]; omega), if_pos (by simp only [ofN, xlen]; omega), eg, p_sz (by omega), p_big hx' _ hz.2]
      dsimp only
      rw [if_pos (by simp only [xlen]; omega), pnext (by omega)]
      show _ = some (Sum.inl (_, aheadB l s i ++ oneB l s i))
      rw [e1]
      rfl
theorem back_law {l : List Int} {s : List UInt8} (hu : ∀ x ∈ l, U x) : F_tollbarlaw01_OctetBack l s = some true := by
  unfold F_tollbarlaw01_OctetBack
  rw [p_oawake]
  dsimp only
  rw [if_pos rfl]
  by_cases c1 : 40 < l.length
  · rw [if_pos (by rw [pilt]; simp only [ofN, xlen]; omega)]
  rw [if_neg (by rw [pilt]; simp only [ofN, xlen]; omega)]
  by_cases c2 : s.length < l.length
  · rw [if_pos (by rw [pilt]; simp only [ofN, xlen]; omega)]
  rw [if_neg (by rw [pilt]; simp only [ofN, xlen]; omega)]
  exact back_L1 hu (by omega) (by omega) l.length 0 (by omega)
theorem p_OctetBack (l : List Int) (s : List UInt8) (h1 : (Ty.ints 33 .u64).rng (.is l)) (h2 : (Ty.bytes 5).rng (.s s)) : F_tollbarlaw01_OctetBack l s = some true :=
  back_law fun x hx => wf_U (h1.2 x hx)
end Go.Proofs.Ytolfegaldhhmkaa
end
