/-
  Arguments that are structs, or slices of structs, opened.
-/
import Derived.Test.YtadkfceacnegaaaKit
import Derived.Lib.SmallJoins
import Derived.ChangeArms
import Derived.Deep.Slices
import Derived.Deep.Fields
import Derived.ChangeSame
set_option linter.unusedVariables false
set_option linter.unusedSimpArgs false
namespace Go.Proofs.Ytadkfceacnegaaa
open Go.RowKit Go.ChangeShapes Go.WideShapes Go.Deep

section
variable {H : Type} {enc : TypeId × Value → H} {P : Program} {w : World} {base : Nat} {spare : Nat → Bool} {held : Bool}

/-- A struct of three whole numbers, by value. -/
theorem open_int3 {r : Reach} {b0 : Nat} {t : TypeId} {f0 f1 f2 : Field} {k0 k1 k2 : IntKind} {v : Value} {d : DataW H} {p : List MemPlace}
    (hs : P.underlying t = some (.struct #[f0, f1, f2])) (hone : oneCellFields P #[f0, f1, f2] = true) (hC : P.cellsOf t = 3)
    (u0 : P.underlying f0.type = some (.int k0)) (u1 : P.underlying f1.type = some (.int k1)) (u2 : P.underlying f2.type = some (.int k2))
    (hv : Value.okWide P w r b0 t v) (h : DataW.Trod enc P w base spare held t v d p) :
    ∃ a b c : Int, v = .agg #[.int k0 a, .int k1 b, .int k2 c] ∧ (Lit.int k0 a).wf = true ∧ (Lit.int k1 b).wf = true ∧ (Lit.int k2 c).wf = true := by
  obtain ⟨v0, v1, v2, y0, y1, y2, n, rfl, _, _, g0, g1, g2⟩ := Joins.open_agg3 hs hone hC hv h
  obtain ⟨a, e0, _, w0⟩ := DataW.trod_int u0 g0
  obtain ⟨b, e1, _, w1⟩ := DataW.trod_int u1 g1
  obtain ⟨c, e2, _, w2⟩ := DataW.trod_int u2 g2
  simp only [List.cons.injEq, and_true] at e0 e1 e2
  subst e0 e1 e2
  exact ⟨a, b, c, rfl, w0, w1, w2⟩

/-- A slice of structs of three whole numbers. -/
structure Int3s (w : World) (k0 k1 k2 : IntKind) (A : Option Addr) (n : Nat) (xs : List (Int × Int × Int)) : Prop where
  len : xs.length = n
  most : n ≤ 9223372036854775807
  cells : 0 < n → ∃ ad, A = some ad ∧ ∀ j, (hj : j < xs.length) → w.cell? (ad.add (j * 3)) = some (.int k0 xs[j].1) ∧ w.cell? (ad.add (j * 3 + 1)) = some (.int k1 xs[j].2.1) ∧ w.cell? (ad.add (j * 3 + 2)) = some (.int k2 xs[j].2.2)
  fits : ∀ x ∈ xs, (Lit.int k0 x.1).wf = true ∧ (Lit.int k1 x.2.1).wf = true ∧ (Lit.int k2 x.2.2).wf = true

theorem Int3s.below {w w1 : World} {k0 k1 k2 : IntKind} {A : Option Addr} {n : Nat} {xs : List (Int × Int × Int)} (h : Int3s w k0 k1 k2 A n xs) (hb : Below w.heap.size w w1) : Int3s w1 k0 k1 k2 A n xs :=
  ⟨h.len, h.most, fun hn => by
    obtain ⟨ad, e, hc⟩ := h.cells hn
    refine ⟨ad, e, fun j hj => ?_⟩
    obtain ⟨h0, h1, h2⟩ := hc j hj
    exact ⟨(hb.cell (World.block_lt_of_cell? w _ h0)).trans h0, (hb.cell (World.block_lt_of_cell? w _ h1)).trans h1, (hb.cell (World.block_lt_of_cell? w _ h2)).trans h2⟩, h.fits⟩

theorem add_fld (a : Addr) (m j : Nat) (hj : j ≠ 0) : a.add (m + j) = ⟨(a.add m).block, (a.add m).off + j, none⟩ := by
  unfold Addr.add
  by_cases hm : m = 0
  · subst hm; simp [hj]
  · simp [hm, hj, Nat.add_assoc]

theorem Int3s.at_ {w : World} {k0 k1 k2 : IntKind} {A : Option Addr} {n : Nat} {xs : List (Int × Int × Int)} (h : Int3s w k0 k1 k2 A n xs) (j : Nat) (hj : j < n) :
    ∃ ad x, A = some ad ∧ xs[j]? = some x ∧ w.cell? (ad.add (j * 3)) = some (.int k0 x.1) ∧ w.cell? ⟨(ad.add (j * 3)).block, (ad.add (j * 3)).off + 1, none⟩ = some (.int k1 x.2.1) ∧
      w.cell? ⟨(ad.add (j * 3)).block, (ad.add (j * 3)).off + 2, none⟩ = some (.int k2 x.2.2) ∧ (Lit.int k0 x.1).wf = true ∧ (Lit.int k1 x.2.1).wf = true ∧ (Lit.int k2 x.2.2).wf = true := by
  obtain ⟨ad, e, hc⟩ := h.cells (by omega)
  have hl : j < xs.length := by rw [h.len]; exact hj
  obtain ⟨c0, c1, c2⟩ := hc j hl
  obtain ⟨f0, f1, f2⟩ := h.fits _ (List.getElem_mem hl)
  rw [add_fld _ _ _ (by omega)] at c1 c2
  exact ⟨ad, xs[j], e, List.getElem?_eq_getElem hl, c0, c1, c2, f0, f1, f2⟩

/-- All its elements lie below B. -/
def Old (A : Option Addr) (n B : Nat) : Prop := ∀ j ad, A = some ad → j < n → (ad.add (j * 3)).block < B
theorem add_block (a : Addr) (m : Nat) : (a.add m).block = a.block := by unfold Addr.add; split <;> rfl
theorem Int3s.of_old {w w1 : World} {k0 k1 k2 : IntKind} {A : Option Addr} {n B : Nat} {xs : List (Int × Int × Int)} (h : Int3s w k0 k1 k2 A n xs)
    (hA : ∀ j ad, A = some ad → j < n → (ad.add (j * 3)).block < B) (hb : Below B w w1) : Int3s w1 k0 k1 k2 A n xs :=
  ⟨h.len, h.most, fun hn => by
    obtain ⟨ad, e, hc⟩ := h.cells hn
    refine ⟨ad, e, fun j hj => ?_⟩
    obtain ⟨h0, h1, h2⟩ := hc j hj
    have hl := hA j ad e (by rw [← h.len]; exact hj)
    rw [add_block] at hl
    exact ⟨(hb.cell (by rw [add_block]; exact hl)).trans h0, (hb.cell (by rw [add_block]; exact hl)).trans h1, (hb.cell (by rw [add_block]; exact hl)).trans h2⟩, h.fits⟩

theorem Int3s.of_trod {t e : TypeId} {f0 f1 f2 : Field} {k0 k1 k2 : IntKind} {a : Option Addr} {len cap : Nat} {d : DataW H} {ps : List MemPlace}
    (hu : P.underlying t = some (.slice e)) (he : P.underlying e = some (.struct #[f0, f1, f2])) (hone : oneCellFields P #[f0, f1, f2] = true) (hC : P.cellsOf e = 3)
    (u0 : P.underlying f0.type = some (.int k0)) (u1 : P.underlying f1.type = some (.int k1)) (u2 : P.underlying f2.type = some (.int k2))
    (h : DataW.Trod enc P w base spare held t (.slice a len cap) d ps) : ∃ xs, Int3s w k0 k1 k2 a len xs := by
  obtain ⟨fuel, hf⟩ := h
  rcases open_slice hu hf with ⟨hcs, _⟩ | ⟨x, l, c, m, n, D, Pl, hcs, hb, hl, hm, hmm, _, hi⟩
  · simp [Value.cells] at hcs
    obtain ⟨rfl, rfl, rfl⟩ := hcs
    exact ⟨[], rfl, by omega, fun h => by omega, fun x hx => by simp at hx⟩
  · simp [Value.cells] at hcs
    obtain ⟨rfl, rfl, rfl⟩ := hcs
    unfold maxLen at hm
    have hl2 : len ≤ m := by rw [hmm]; split <;> omega
    have each : ∀ i, i < len → ∃ q : Int × Int × Int, (w.cell? (x.add (i * 3)) = some (.int k0 q.1) ∧ w.cell? (x.add (i * 3 + 1)) = some (.int k1 q.2.1) ∧ w.cell? (x.add (i * 3 + 2)) = some (.int k2 q.2.2)) ∧
        (Lit.int k0 q.1).wf = true ∧ (Lit.int k1 q.2.1).wf = true ∧ (Lit.int k2 q.2.2).wf = true := by
      intro i hil
      obtain ⟨cs', h1, h2⟩ := hi i (by omega)
      rw [hC] at h1
      obtain ⟨_, hlen, hcell⟩ := World.cells?_some h1
      obtain ⟨ys, n', _, _, _, hyl, hf'⟩ := DataW.trod_struct he h2
      obtain ⟨o0, c0⟩ := hone_of hone 0 f0 rfl
      obtain ⟨o1, c1⟩ := hone_of hone 1 f1 rfl
      obtain ⟨o2, c2⟩ := hone_of hone 2 f2 rfl
      match ys, hyl, cs', hlen with
      | [y0, y1, y2], _, [v0, v1, v2], _ =>
        have g0 := hf' 0 f0 rfl
        have g1 := hf' 1 f1 rfl
        have g2 := hf' 2 f2 rfl
        simp [o0, o1, o2, c0, c1, c2] at g0 g1 g2
        obtain ⟨a, e0, _, w0⟩ := DataW.trod_int u0 g0
        obtain ⟨b, e1, _, w1⟩ := DataW.trod_int u1 g1
        obtain ⟨c, e2, _, w2⟩ := DataW.trod_int u2 g2
        simp only [List.cons.injEq, and_true] at e0 e1 e2
        subst e0 e1 e2
        have q0 := hcell 0 (by omega)
        have q1 := hcell 1 (by omega)
        have q2 := hcell 2 (by omega)
        rw [add_add] at q0 q1 q2
        exact ⟨(a, b, c), ⟨by simpa using q0, by simpa using q1, by simpa using q2⟩, w0, w1, w2⟩
    obtain ⟨q, hq⟩ := choose_lt each
    refine ⟨(List.range len).map q, by simp, by omega, fun _ => ⟨x, rfl, fun j hj => ?_⟩, fun y hy => ?_⟩
    · simp only [List.length_map, List.length_range] at hj
      simpa using (hq j hj).1
    · obtain ⟨i, hi', rfl⟩ := List.mem_map.1 hy
      exact (hq i (List.mem_range.1 hi')).2
end
end Go.Proofs.Ytadkfceacnegaaa
