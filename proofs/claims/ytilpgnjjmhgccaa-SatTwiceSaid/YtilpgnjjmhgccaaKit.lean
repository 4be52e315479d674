/-
  Words that the walks share: a slice of numbers that is read.
-/
import Derived.Below
import Derived.WalkKit
import Derived.KernelRfl
import Derived.ChangeSlices
import Derived.OpenShut
import Derived.Deep.QuietTactic
import Derived.BigQuiet
set_option linter.unusedVariables false
set_option linter.unusedSimpArgs false
namespace Go.Proofs.Ytilpgnjjmhgccaa
open Go.RowKit

/-- A slice (its address, its length) reads as these numbers. -/
structure Ints (w : World) (k : IntKind) (A : Option Addr) (n : Nat) (xs : List Int) : Prop where
  len : xs.length = n
  most : n ≤ 9223372036854775807
  cells : 0 < n → ∃ ad, A = some ad ∧ ∀ j, j < n → w.cell? (ad.add j) = some (.int k (xs[j]?.getD 0))
  fits : ∀ x ∈ xs, (Lit.int k x).wf = true

theorem Ints.at_ {w : World} {k : IntKind} {A : Option Addr} {n : Nat} {xs : List Int} (h : Ints w k A n xs) (i : Int) (h0 : 0 ≤ i) (h1 : i < n) :
    ∃ ad, A = some ad ∧ w.cell? (ad.add i.toNat) = some (.int k (xs[i.toNat]?.getD 0)) ∧ (Lit.int k (xs[i.toNat]?.getD 0)).wf = true := by
  obtain ⟨ad, e, hc⟩ := h.cells (by omega)
  refine ⟨ad, e, hc _ (by omega), h.fits _ ?_⟩
  have hl : i.toNat < xs.length := by have := h.len; omega
  rw [List.getElem?_eq_getElem hl]
  exact List.getElem_mem hl

theorem Ints.below {w w1 : World} {k : IntKind} {A : Option Addr} {n : Nat} {xs : List Int} (h : Ints w k A n xs) (hb : Below w.heap.size w w1) : Ints w1 k A n xs :=
  ⟨h.len, h.most, fun hn => by
    obtain ⟨ad, e, hc⟩ := h.cells hn
    exact ⟨ad, e, fun j hj => (hb.cell (World.block_lt_of_cell? w _ (hc j hj))).trans (hc j hj)⟩, h.fits⟩

/-- A new block of numbers. -/
theorem Ints.new (w : World) (k : IntKind) (T : TypeId) (xs : List Int) (hm : xs.length ≤ 9223372036854775807) (hf : ∀ x ∈ xs, (Lit.int k x).wf = true) :
    Ints (w.alloc (.cells (xs.map (Value.int k)).toArray T)) k (some ⟨w.heap.size, 0, none⟩) xs.length xs :=
  ⟨rfl, hm, fun _ => ⟨_, rfl, fun j hj => by
    have e : (⟨w.heap.size, 0, none⟩ : Addr).add j = ⟨w.heap.size, j, none⟩ := by unfold Addr.add; simp; omega
    rw [e, World.cell?_alloc_new]
    simp [hj]⟩, hf⟩

/-- What an argument reads as. -/
theorem Ints.of_trod {H : Type} {enc : TypeId × Value → H} {P : Program} {W : World} {base : Nat} {spare : Nat → Bool} {held : Bool} {t e : TypeId} {k : IntKind} {a : Option Addr} {len cap : Nat} {d : DataW H} {ps : List MemPlace}
    (hu : P.underlying t = some (.slice e)) (he : P.underlying e = some (.int k)) (hc : P.cellsOf e = 1)
    (h : DataW.Trod enc P W base spare held t (.slice a len cap) d ps) : ∃ xs, Ints W k a len xs := by
  obtain ⟨fuel, hf⟩ := h
  rcases ChangeShapes.open_ints hu he hc hf with ⟨hcs, _⟩ | ⟨x, l, c, zs, hcs, _, hl, hm, hz, hx, hcell, hwz⟩
  · simp [Value.cells] at hcs
    obtain ⟨rfl, rfl, rfl⟩ := hcs
    exact ⟨[], rfl, by omega, fun h => by omega, fun x hx => by simp at hx⟩
  · simp [Value.cells] at hcs
    obtain ⟨rfl, rfl, rfl⟩ := hcs
    unfold maxLen at hm
    have hl2 : len ≤ zs.length := by
      rw [hz]
      split
      · exact hl
      · exact Nat.le_refl _
    refine ⟨zs.take len, by simp; omega, by omega, fun _ => ⟨x, rfl, fun j hj => ?_⟩, fun y hy => hwz y (List.mem_of_mem_take hy)⟩
    rw [hcell j (by omega)]
    simp [List.getD_eq_getElem?_getD, List.getElem?_take, hj]

/-- A callee that leaves the world alone, in a region whose order is open. -/
theorem quietC {P : Program} {f : FuncId} {args : Array Value} {w : World} {n : Nat} {v : Value}
    (h : Calls P f args (w.drewN n) fun e w' => e = .returned v ∧ w.drewN n = w') : Calls P f args (w.drewN n) fun e w'' => e = .returned v ∧ ∃ m, w'' = w.drewN m :=
  h.mono fun _ _ ⟨he, hm⟩ => ⟨he, n, hm.symm⟩
theorem below_drewN {B : Nat} {w W : World} (h : Below B w W) (n : Nat) : Below B w (W.drewN n) := ⟨h.os, h.tape, h.output, h.size, h.block⟩

theorem ret_int {k : IntKind} {a b : Int} (h : a = b) : Ending.returned (.int k a) = .returned (.int k b) := by rw [h]
theorem ret_bool {a b : Bool} (h : a = b) : Ending.returned (.bool a) = .returned (.bool b) := by rw [h]
theorem wrapu64 (x : Int) : IntKind.u64.wrap x = x % 18446744073709551616 := by rfl
theorem take_snoc {α : Type} (l : List α) (k : Nat) (h : k < l.length) (d : α) : l.take (k + 1) = l.take k ++ [l[k]?.getD d] := by
  rw [List.take_add_one, List.getElem?_eq_getElem h]
  rfl

end Go.Proofs.Ytilpgnjjmhgccaa
