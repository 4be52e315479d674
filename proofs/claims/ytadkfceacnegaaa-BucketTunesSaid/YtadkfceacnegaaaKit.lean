/-
  Words that the walks share: a slice of numbers that is read.
-/
import Derived.Below
import Derived.WalkKit
import Derived.KernelRfl
import Derived.ChangeSlices
import Derived.OpenShut
import Derived.Deep.QuietTactic
import Derived.BigQuiet
import Derived.Laws.StructEq
set_option linter.unusedVariables false
set_option linter.unusedSimpArgs false
namespace Go.Proofs.Ytadkfceacnegaaa
open Go.RowKit

/-- A slice (its address, its length) reads as these numbers. -/
structure Ints (w : World) (k : IntKind) (A : Option Addr) (n : Nat) (xs : List Int) : Prop where
  len : xs.length = n
  most : n ≤ 9223372036854775807
  cells : 0 < n → ∃ ad, A = some ad ∧ ∀ j, j < n → w.cell? (ad.add j) = some (.int k (xs[j]?.getD 0))
  fits : ∀ x ∈ xs, (Lit.int k x).wf = true

theorem Ints.at_ {w : World} {k : IntKind} {A : Option Addr} {n : Nat} {xs : List Int} (h : Ints w k A n xs) (i : Int) (h0 : 0 ≤ i) (h1 : i < n) :
    ∃ ad, A = some ad ∧ w.cell? (ad.add i.toNat) = some (.int k (xs[i.toNat]?.getD 0)) ∧ (Lit.int k (xs[i.toNat]?.getD 0)).wf = true := by
  obtain ⟨ad, e, hc⟩ := h.cells (by omega)
  refine ⟨ad, e, hc _ (by omega), h.fits _ ?_⟩
  have hl : i.toNat < xs.length := by have := h.len; omega
  rw [List.getElem?_eq_getElem hl]
  exact List.getElem_mem hl

theorem Ints.below {w w1 : World} {k : IntKind} {A : Option Addr} {n : Nat} {xs : List Int} (h : Ints w k A n xs) (hb : Below w.heap.size w w1) : Ints w1 k A n xs :=
  ⟨h.len, h.most, fun hn => by
    obtain ⟨ad, e, hc⟩ := h.cells hn
    exact ⟨ad, e, fun j hj => (hb.cell (World.block_lt_of_cell? w _ (hc j hj))).trans (hc j hj)⟩, h.fits⟩

/-- A new block of numbers. -/
theorem Ints.new (w : World) (k : IntKind) (T : TypeId) (xs : List Int) (hm : xs.length ≤ 9223372036854775807) (hf : ∀ x ∈ xs, (Lit.int k x).wf = true) :
    Ints (w.alloc (.cells (xs.map (Value.int k)).toArray T)) k (some ⟨w.heap.size, 0, none⟩) xs.length xs :=
  ⟨rfl, hm, fun _ => ⟨_, rfl, fun j hj => by
    have e : (⟨w.heap.size, 0, none⟩ : Addr).add j = ⟨w.heap.size, j, none⟩ := by unfold Addr.add; simp; omega
    rw [e, World.cell?_alloc_new]
    simp [hj]⟩, hf⟩

/-- What an argument reads as. -/
theorem Ints.of_trod {H : Type} {enc : TypeId × Value → H} {P : Program} {W : World} {base : Nat} {spare : Nat → Bool} {held : Bool} {t e : TypeId} {k : IntKind} {a : Option Addr} {len cap : Nat} {d : DataW H} {ps : List MemPlace}
    (hu : P.underlying t = some (.slice e)) (he : P.underlying e = some (.int k)) (hc : P.cellsOf e = 1)
    (h : DataW.Trod enc P W base spare held t (.slice a len cap) d ps) : ∃ xs, Ints W k a len xs := by
  obtain ⟨fuel, hf⟩ := h
  rcases ChangeShapes.open_ints hu he hc hf with ⟨hcs, _⟩ | ⟨x, l, c, zs, hcs, _, hl, hm, hz, hx, hcell, hwz⟩
  · simp [Value.cells] at hcs
    obtain ⟨rfl, rfl, rfl⟩ := hcs
    exact ⟨[], rfl, by omega, fun h => by omega, fun x hx => by simp at hx⟩
  · simp [Value.cells] at hcs
    obtain ⟨rfl, rfl, rfl⟩ := hcs
    unfold maxLen at hm
    have hl2 : len ≤ zs.length := by
      rw [hz]
      split
      · exact hl
      · exact Nat.le_refl _
    refine ⟨zs.take len, by simp; omega, by omega, fun _ => ⟨x, rfl, fun j hj => ?_⟩, fun y hy => hwz y (List.mem_of_mem_take hy)⟩
    rw [hcell j (by omega)]
    simp [List.getD_eq_getElem?_getD, List.getElem?_take, hj]

/-! ### '==' of structs, field by field -/
section
variable {P : Program} {d : Nat} {xs ys : Array Value} {f : Field} {fs : List Field} {a b : Value} {r s : Bool} {w : World}
theorem eqF_nil : (Op.eqFields d xs ys []).run P w = .ok true w := by simp [Op.eqFields]
theorem eqF_cons (hn : (f.name == "_") = false) (ha : (part f.type xs f.offset).run P w = .ok a w) (hb : (part f.type ys f.offset).run P w = .ok b w) (he : (Op.equalIn d f.type a b).run P w = .ok r w)
    (hr : (Op.eqFields d xs ys fs).run P w = .ok s w) : (Op.eqFields d xs ys (f :: fs)).run P w = .ok (r && s) w := by
  have hn' : f.name ≠ "_" := by simpa using hn
  rw [Op.eqFields]
  simp only [if_pos hn', Sem.run_bind, ha, hb, he, Result.andThen_ok]
  cases r
  · simp
  · simpa using hr
theorem eqF_struct {t : TypeId} {fs : Array Field} (hu : P.underlying t = some (.struct fs)) (hp : P.stoodInHeld t = false) (h : (Op.eqFields d xs ys fs.toList).run P w = .ok r w) :
    (Op.equalIn (d + 1) t (.agg xs) (.agg ys)).run P w = .ok r w := by
  have hf : P.fieldsOf t = fs := by simp [Program.fieldsOf, hu]
  rw [run_equalIn_struct (P := P) w d t xs ys (by rw [hf]; exact hu) hp, hf]
  exact h
end

/-- A callee that leaves the world alone, in a region whose order is open. -/
theorem quietC {P : Program} {f : FuncId} {args : Array Value} {w : World} {n : Nat} {v : Value}
    (h : Calls P f args (w.drewN n) fun e w' => e = .returned v ∧ w.drewN n = w') : Calls P f args (w.drewN n) fun e w'' => e = .returned v ∧ ∃ m, w'' = w.drewN m :=
  h.mono fun _ _ ⟨he, hm⟩ => ⟨he, n, hm.symm⟩
/-- Behind a call: what was there reads as it did. -/
theorem bcell {W w1 : World} (hb : Below W.heap.size W w1) : (∀ b o, b < W.heap.size → w1.cell? ⟨b, o, none⟩ = W.cell? ⟨b, o, none⟩) ∧ (∀ b o, b < W.heap.size → w1.frozen? ⟨b, o, none⟩ = W.frozen? ⟨b, o, none⟩) :=
  ⟨fun b o h => hb.cell (p := ⟨b, o, none⟩) h, fun b o h => hb.frozen (p := ⟨b, o, none⟩) h⟩
/-- 'Below' from a world on: the next step. -/
theorem then_ {w w1 w2 : World} (h : Below w.heap.size w w1) (k : Below w1.heap.size w1 w2) : Below w.heap.size w w2 := h.trans (k.mono h.size)
theorem _root_.Go.RowKit.Below.then_ {w w1 w2 : World} (h : Below w.heap.size w w1) (k : Below w1.heap.size w1 w2) : Below w.heap.size w w2 := h.trans (k.mono h.size)
theorem _root_.Go.RowKit.Below.alloc_ {w w1 : World} (h : Below w.heap.size w w1) (o : Obj) : Below w.heap.size w (w1.alloc o) := h.alloc h.size o

/-- A block of cells, known whole. -/
structure Blk (w : World) (b : Nat) (c : Array Value) (T : TypeId) : Prop where
  at_ : w.heap[b]? = some (.cells c T (0, 0))
theorem Blk.lt {w : World} {b : Nat} {c : Array Value} {T : TypeId} (h : Blk w b c T) : b < w.heap.size := (Array.getElem?_eq_some_iff.1 h.at_).1
theorem Blk.cell {w : World} {b : Nat} {c : Array Value} {T : TypeId} (h : Blk w b c T) (i : Nat) {v : Value} (hv : c[i]? = some v) : w.cell? ⟨b, i, none⟩ = some v := by
  unfold World.cell?; rw [h.at_]; simpa using hv
theorem Blk.free {w : World} {b : Nat} {c : Array Value} {T : TypeId} (h : Blk w b c T) (i : Nat) : w.frozen? ⟨b, i, none⟩ = false := by
  unfold World.frozen?; rw [h.at_]; simp
theorem Blk.new (w : World) (c : Array Value) (T : TypeId) : Blk (w.alloc (.cells c T)) w.heap.size c T := ⟨by show (w.heap.push _)[w.heap.size]? = _; simp⟩
theorem Blk.alloc {w : World} {b : Nat} {c : Array Value} {T : TypeId} (h : Blk w b c T) (o : Obj) : Blk (w.alloc o) b c T := ⟨by rw [Below.heap_alloc _ _ _ h.lt]; exact h.at_⟩
theorem Blk.drew {w : World} {b : Nat} {c : Array Value} {T : TypeId} (h : Blk w b c T) : Blk w.drew b c T := ⟨h.at_⟩
theorem Blk.drewN {w : World} {b : Nat} {c : Array Value} {T : TypeId} (h : Blk w b c T) (n : Nat) : Blk (w.drewN n) b c T := ⟨h.at_⟩
theorem Blk.below {w w1 : World} {b : Nat} {c : Array Value} {T : TypeId} (h : Blk w b c T) {B : Nat} (hb : Below B w w1) (hB : b < B) : Blk w1 b c T := ⟨by rw [hb.block b hB]; exact h.at_⟩
theorem Blk.below' {w w1 : World} {b : Nat} {c : Array Value} {T : TypeId} (h : Blk w b c T) (hb : Below w.heap.size w w1) : Blk w1 b c T := h.below hb h.lt
theorem Blk.other {w : World} {b : Nat} {c : Array Value} {T : TypeId} (h : Blk w b c T) (a : Addr) (v : Value) (hne : b ≠ a.block) : Blk (w.setCell a v) b c T := ⟨by rw [Below.heap_setCell _ _ _ _ hne]; exact h.at_⟩
theorem Blk.set {w : World} {b : Nat} {c : Array Value} {T : TypeId} (h : Blk w b c T) (i : Nat) (v : Value) : Blk (w.setCell ⟨b, i, none⟩ v) b (c.setIfInBounds i v) T := by
  refine ⟨?_⟩
  simp only [World.setCell, Array.getElem?_modify, if_true, h.at_]
  simp

theorem cell_alloc_swap {W : World} {o : Obj} (o' : Obj) {a : Addr} {v : Value} (h : (W.alloc o).cell? a = some v) (ha : a.block < W.heap.size) : (W.alloc o').cell? a = some v := by
  rw [World.cell?_alloc_lt _ _ _ ha] at h ⊢; exact h
theorem below_alloc_swap {B : Nat} {w W : World} {o : Obj} (o' : Obj) (h : Below B w (W.alloc o)) (hB : B ≤ W.heap.size) : Below B w (W.alloc o') :=
  ⟨h.os, h.tape, h.output, by have := h.size; simp at this ⊢; omega, fun k hk => by
    have := h.block k hk
    rw [Below.heap_alloc _ _ _ (by omega)] at this ⊢; exact this⟩

theorem below_drewN {B : Nat} {w W : World} (h : Below B w W) (n : Nat) : Below B w (W.drewN n) := ⟨h.os, h.tape, h.output, h.size, h.block⟩

theorem ret_int {k : IntKind} {a b : Int} (h : a = b) : Ending.returned (.int k a) = .returned (.int k b) := by rw [h]
theorem ret_ib {k : IntKind} {a b : Int} {c : Value} (h : a = b) : Ending.returned (.tuple #[.int k a, c]) = .returned (.tuple #[.int k b, c]) := by rw [h]
theorem ret_bool {a b : Bool} (h : a = b) : Ending.returned (.bool a) = .returned (.bool b) := by rw [h]
theorem wrapu64 (x : Int) : IntKind.u64.wrap x = x % 18446744073709551616 := by rfl
theorem take_snoc {α : Type} (l : List α) (k : Nat) (h : k < l.length) (d : α) : l.take (k + 1) = l.take k ++ [l[k]?.getD d] := by
  rw [List.take_add_one, List.getElem?_eq_getElem h]
  rfl

end Go.Proofs.Ytadkfceacnegaaa
