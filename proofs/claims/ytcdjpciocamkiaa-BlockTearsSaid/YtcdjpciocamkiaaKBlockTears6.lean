/-
  Texts that the row of this claim stands on, one behind the other.
-/
import Derived.Below
import Derived.Deep.Slices
import Derived.ChangeArms
import Derived.Test.YtcdjpciocamkiaaKBlockTears1
import Derived.Test.YtcdjpciocamkiaaKBlockTears2
import Derived.Test.YtcdjpciocamkiaaKBlockTears3
import Derived.Test.YtcdjpciocamkiaaKBlockTears4
import Derived.Test.YtcdjpciocamkiaaKBlockTears5
section
/-
  A walk that reckons: from a contract to what a row asks for.
-/
set_option linter.unusedVariables false
set_option linter.unusedSimpArgs false
namespace Go.Proofs.Ytcdjpciocamkiaa
open Go.RowKit

/-- A function that but reads what it is given, and answers true. -/
theorem law_calls {P : Program} {f : FuncId} {con : Con} (h : FnOK P f con) {cargs : List SV} {obs : List Prop} {sm : List Bool} (hc : con.f cargs [] = some ⟨obs, .one (.v (.bool true)) [], sm⟩) (hob : ∀ p ∈ obs, p) {W : World} {args : List Value} (hd : DensA (fun _ => none) W (fun _ => False) cargs args) (hG : ∀ g r, (g, r) ∈ globs → Den (fun _ => none) W (fun _ => False) (.rsl r) (.slice (some ⟨g, 0, none⟩) (rlen r) (rlen r)) := by intro g r h; simp [globs] at h) :
    Calls P f args.toArray W fun e W' => e = .returned (.bool true) ∧ Below W.heap.size W W' := by
  have hO : ∀ b, ¬ Own (fun _ => none) (canon 0 ([] : List Ck)) b := by
    rintro b ⟨id, c, p, h1, h2, h3⟩
    cases h2
  have hS : HSat (ctxOf W (fun _ => False) (fun _ => none) []) (fun _ => none) (canon 0 []) (fun i => ([] : List Ck).length ≤ i) W := by
    refine ⟨fun id c hc => by simp [canon, hget] at hc, fun i j c d p q b h1 => by simp [canon, hget] at h1, fun b hb => absurd hb (hO b), rfl, rfl, rfl, Nat.le_refl _, fun _ _ _ => rfl, ⟨fun b hb => hb.elim, fun g r hg => (hG g r hg).mono (fun _ _ h => h) (Nat.le_refl _) (fun _ _ _ => rfl) (fun b _ hb => by rcases hb with hz | ho; exact hz; exact hO b ho)⟩, fun _ _ => rfl, fun id hid => rfl⟩
  have hA : Avo (ctxOf W (fun _ => False) (fun _ => none) []) (fun _ => none) (canon 0 []) = fun _ => False := by
    funext b
    simp only [Avo, ctxOf, false_or, eq_iff_iff, iff_false]
    exact hO b
  have key := h cargs [] _ hc hob (fun _ => False) (fun _ => none) W args hS (by rw [hA]; exact hd)
  refine key.mono ?_
  rintro e W' ⟨u, PL', rfl, H, D⟩
  cases D
  refine ⟨rfl, ?_⟩
  exact ⟨H.os, H.tape, H.output, H.size, fun k hk => H.old k hk (hO k)⟩

/-- The same, by a contract that leaves open what it yields. -/
theorem law_many {P : Program} {f : FuncId} {con : Con} (h : FnOK P f con) {cargs : List SV} {obs : List Prop} {X : Type} {Pr : X → Prop} {v : X → SV} {post : X → List PostC} {sm : List Bool} (hc : con.f cargs [] = some ⟨obs, .many X Pr v post, sm⟩) (hob : ∀ p ∈ obs, p) (hv : ∀ x, Pr x → v x = .v (.bool true) ∧ post x = []) {W : World} {args : List Value} (hd : DensA (fun _ => none) W (fun _ => False) cargs args) (hG : ∀ g r, (g, r) ∈ globs → Den (fun _ => none) W (fun _ => False) (.rsl r) (.slice (some ⟨g, 0, none⟩) (rlen r) (rlen r)) := by intro g r h; simp [globs] at h) :
    Calls P f args.toArray W fun e W' => e = .returned (.bool true) ∧ Below W.heap.size W W' := by
  have hO : ∀ b, ¬ Own (fun _ => none) (canon 0 ([] : List Ck)) b := by
    rintro b ⟨id, c, p, h1, h2, h3⟩
    cases h2
  have hS : HSat (ctxOf W (fun _ => False) (fun _ => none) []) (fun _ => none) (canon 0 []) (fun i => ([] : List Ck).length ≤ i) W := by
    refine ⟨fun id c hc => by simp [canon, hget] at hc, fun i j c d p q b h1 => by simp [canon, hget] at h1, fun b hb => absurd hb (hO b), rfl, rfl, rfl, Nat.le_refl _, fun _ _ _ => rfl, ⟨fun b hb => hb.elim, fun g r hg => (hG g r hg).mono (fun _ _ h => h) (Nat.le_refl _) (fun _ _ _ => rfl) (fun b _ hb => by rcases hb with hz | ho; exact hz; exact hO b ho)⟩, fun _ _ => rfl, fun id hid => rfl⟩
  have hA : Avo (ctxOf W (fun _ => False) (fun _ => none) []) (fun _ => none) (canon 0 []) = fun _ => False := by
    funext b
    simp only [Avo, ctxOf, false_or, eq_iff_iff, iff_false]
    exact hO b
  have key := h cargs [] _ hc hob (fun _ => False) (fun _ => none) W args hS (by rw [hA]; exact hd)
  refine key.mono ?_
  rintro e W' ⟨u, PL', rfl, x, hx, H, D⟩
  obtain ⟨e1, e2⟩ := hv x hx
  rw [e1] at D
  cases D
  refine ⟨rfl, ?_⟩
  exact ⟨H.os, H.tape, H.output, H.size, fun k hk => H.old k hk (hO k)⟩
theorem densA_nil {PL : Nat → Option Pl} {w : World} {Av : Nat → Prop} : DensA PL w Av [] [] := ⟨rfl, fun j h1 _ => absurd h1 (by simp)⟩
theorem densA_cons {PL : Nat → Option Pl} {w : World} {Av : Nat → Prop} {x : SV} {l : List SV} {c : Value} {cs : List Value} (h : Den PL w Av x c) (k : DensA PL w Av l cs) : DensA PL w Av (x :: l) (c :: cs) :=
  ⟨by simp [k.1], fun j h1 h2 => by
    cases j with
    | zero => exact h
    | succ j => exact k.2 j (by simpa using h1) (by simpa using h2)⟩
theorem den_str {PL : Nat → Option Pl} {w : World} {Av : Nat → Prop} (b : ByteArray) : Den PL w Av (.str b.data.toList) (.string b) := by
  have := Den.str (PL := PL) (w := w) (Av := Av) b.data.toList
  simpa using this
end Go.Proofs.Ytcdjpciocamkiaa
end
section
/-
  The walks of the functions that tollbar/tollbarlaw31.BlockTears reaches, tied to the program (printed by a program of ours).
-/
set_option linter.unusedVariables false
set_option linter.unusedSimpArgs false
namespace Go.Proofs.Ytcdjpciocamkiaa
open Go.RowKit

theorem mixed : Try.prog.follows .mixedOrders = true := by kernel_rfl
theorem tabok_block_New : Tab Try.prog tab_block_New := Tab.nil _
theorem ok_block_New : FnOK Try.prog 7 con_block_New := FnOK.of tabok_block_New mixed Try.func7 comp_7 (vc_block_New _ tabok_block_New mixed)
theorem tabok_block_Device_Arm : Tab Try.prog tab_block_Device_Arm := Tab.nil _
theorem ok_block_Device_Arm : FnOK Try.prog 9 con_block_Device_Arm := FnOK.of tabok_block_Device_Arm mixed Try.func9 comp_9 (vc_block_Device_Arm _ tabok_block_Device_Arm mixed)
theorem tabok_block_Device_may : Tab Try.prog tab_block_Device_may := Tab.nil _
theorem ok_block_Device_may : FnOK Try.prog 21 con_block_Device_may := FnOK.of tabok_block_Device_may mixed Try.func21 comp_21 (vc_block_Device_may _ tabok_block_Device_may mixed)
theorem tabok_block_Device_Write : Tab Try.prog tab_block_Device_Write := Tab.cons (Tab.nil _) ok_block_Device_may Try.func21 rfl rfl
theorem ok_block_Device_Write : FnOK Try.prog 8 con_block_Device_Write := FnOK.of tabok_block_Device_Write mixed Try.func8 comp_8 (vc_block_Device_Write _ tabok_block_Device_Write mixed)
theorem tabok_block_Device_Down : Tab Try.prog tab_block_Device_Down := Tab.nil _
theorem ok_block_Device_Down : FnOK Try.prog 10 con_block_Device_Down := FnOK.of tabok_block_Device_Down mixed Try.func10 comp_10 (vc_block_Device_Down _ tabok_block_Device_Down mixed)
theorem tabok_block_Device_Up : Tab Try.prog tab_block_Device_Up := Tab.nil _
theorem ok_block_Device_Up : FnOK Try.prog 18 con_block_Device_Up := FnOK.of tabok_block_Device_Up mixed Try.func18 comp_18 (vc_block_Device_Up _ tabok_block_Device_Up mixed)
theorem tabok_block_Device_Read : Tab Try.prog tab_block_Device_Read := Tab.cons (Tab.nil _) ok_block_Device_may Try.func21 rfl rfl
theorem ok_block_Device_Read : FnOK Try.prog 15 con_block_Device_Read := FnOK.of tabok_block_Device_Read mixed Try.func15 comp_15 (vc_block_Device_Read _ tabok_block_Device_Read mixed)
theorem tabok_block_Device_Writes : Tab Try.prog tab_block_Device_Writes := Tab.nil _
theorem ok_block_Device_Writes : FnOK Try.prog 11 con_block_Device_Writes := FnOK.of tabok_block_Device_Writes mixed Try.func11 comp_11 (vc_block_Device_Writes _ tabok_block_Device_Writes mixed)
theorem tabok_block_Device_Blocks : Tab Try.prog tab_block_Device_Blocks := Tab.nil _
theorem ok_block_Device_Blocks : FnOK Try.prog 12 con_block_Device_Blocks := FnOK.of tabok_block_Device_Blocks mixed Try.func12 comp_12 (vc_block_Device_Blocks _ tabok_block_Device_Blocks mixed)
theorem tabok_tollbarlaw31_awake : Tab Try.prog tab_tollbarlaw31_awake := Tab.cons (Tab.cons (Tab.cons (Tab.cons (Tab.cons (Tab.cons (Tab.cons (Tab.cons (Tab.nil _) ok_block_Device_Blocks Try.func12 rfl rfl) ok_block_Device_Writes Try.func11 rfl rfl) ok_block_Device_Read Try.func15 rfl rfl) ok_block_Device_Up Try.func18 rfl rfl) ok_block_Device_Down Try.func10 rfl rfl) ok_block_Device_Write Try.func8 rfl rfl) ok_block_Device_Arm Try.func9 rfl rfl) ok_block_New Try.func7 rfl rfl
theorem ok_tollbarlaw31_awake : FnOK Try.prog 6 con_tollbarlaw31_awake := FnOK.of tabok_tollbarlaw31_awake mixed Try.func6 comp_6 (vc_tollbarlaw31_awake _ tabok_tollbarlaw31_awake mixed)
theorem tabok_tollbarlaw31_filled : Tab Try.prog tab_tollbarlaw31_filled := Tab.nil _
theorem ok_tollbarlaw31_filled : FnOK Try.prog 20 con_tollbarlaw31_filled := FnOK.of tabok_tollbarlaw31_filled mixed Try.func20 comp_20 (vc_tollbarlaw31_filled _ tabok_tollbarlaw31_filled mixed)
theorem tabok_tollbarlaw31_BlockTears : Tab Try.prog tab_tollbarlaw31_BlockTears := Tab.cons (Tab.cons (Tab.cons (Tab.cons (Tab.cons (Tab.cons (Tab.cons (Tab.cons (Tab.nil _) ok_block_Device_Read Try.func15 rfl rfl) ok_block_Device_Up Try.func18 rfl rfl) ok_block_Device_Down Try.func10 rfl rfl) ok_block_Device_Arm Try.func9 rfl rfl) ok_block_Device_Write Try.func8 rfl rfl) ok_tollbarlaw31_filled Try.func20 rfl rfl) ok_block_New Try.func7 rfl rfl) ok_tollbarlaw31_awake Try.func6 rfl rfl
theorem ok_tollbarlaw31_BlockTears : FnOK Try.prog 4 con_tollbarlaw31_BlockTears := FnOK.of tabok_tollbarlaw31_BlockTears mixed Try.func4 comp_4 (vc_tollbarlaw31_BlockTears _ tabok_tollbarlaw31_BlockTears mixed)

end Go.Proofs.Ytcdjpciocamkiaa
end
section
/-
  A walk that reckons: arguments of any shape, opened.
-/
set_option linter.unusedVariables false
set_option linter.unusedSimpArgs false
namespace Go.Proofs.Ytcdjpciocamkiaa
open Go.RowKit Go.ChangeShapes Go.WideShapes Go.Deep

mutual
/-- What is known of data that came in: its numbers fit. -/
def Ty.rng : Ty → D → Prop
  | .int k, d => (Lit.int k d.toI).wf = true
  | .bool, _ => True
  | .str, d => d.toS.length ≤ maxLen
  | .bytes _, d => d.toS.length ≤ maxLen
  | .ints _ k, d => d.toIs.length ≤ maxLen ∧ ∀ x ∈ d.toIs, (Lit.int k x).wf = true
  | .row _ e, d => d.toL.length ≤ maxLen ∧ ∀ x ∈ d.toL, e.rng x
  | .st fs, d => Ty.rngL fs d 0
  | .self _, _ => True
  | .u8s _, _ => True
def Ty.rngL : List Ty → D → Nat → Prop
  | [], _, _ => True
  | t :: ts, d, j => t.rng (d.fld j) ∧ Ty.rngL ts d (j + 1)
end

mutual
/-- Is a type of the program of this kind? -/
def tyChk (P : Program) : Ty → TypeId → Bool
  | .int k, t => match P.underlying t with | some (.int j) => j == k | _ => false
  | .bool, t => match P.underlying t with | some .bool => true | _ => false
  | .str, t => match P.underlying t with | some .string => true | _ => false
  | .bytes T, t => match P.underlying t, P.underlying T with | some (.slice e), some (.int .u8) => Nat.beq e T && Nat.beq (P.cellsOf T) 1 | _, _ => false
  | .ints T k, t => match P.underlying t, P.underlying T with | some (.slice e), some (.int j) => Nat.beq e T && Nat.beq (P.cellsOf T) 1 && j == k | _, _ => false
  | .row T e, t => match P.underlying t with | some (.slice e') => Nat.beq e' T && Nat.beq (P.cellsOf T) e.size && Nat.ble 1 e.size && tyChk P e T | _ => false
  | .st es, t => match P.underlying t with | some (.struct fl) => Nat.beq (P.cellsOf t) (Ty.sizes es) && tysChk P es fl.toList 0 | _ => false
  | .self _, _ => false
  | .u8s _, _ => false
def tysChk (P : Program) : List Ty → List Field → Nat → Bool
  | [], [], _ => true
  | e :: es, f :: fl, o => Nat.beq f.offset o && Nat.beq (P.cellsOf f.type) e.size && tyChk P e f.type && tysChk P es fl (o + e.size)
  | _, _, _ => false
end

section
variable {H : Type} {enc : TypeId × Value → H} {P : Program} {w : World} {base : Nat} {spare : Nat → Bool} {held : Bool}
def PN : Nat → Option Pl := fun _ => none
def AN : Nat → Prop := fun _ => False
/-- A row whose elements are opened. -/
theorem open_row {r : R} {a : Addr} {len cap : Nat} (hr : rlen r = len) (hl : len ≤ cap) (hsz : 0 < r.sz) (hrow : ∀ i, i < len → ∃ cs, cs.length = r.sz ∧ (∀ j, j < r.sz → w.cell? (a.add (i * r.sz + j)) = cs[j]?) ∧ Dens PN w AN (r.elem i) cs) :
    Den PN w AN (.rsl r) (.slice (some a) len cap) := by
  subst hr
  have : ∀ i, ∃ cs : List Value, i < rlen r → cs.length = r.sz ∧ (∀ j, j < r.sz → w.cell? (a.add (i * r.sz + j)) = cs[j]?) ∧ Dens PN w AN (r.elem i) cs := fun i => by
    by_cases h : i < rlen r
    · obtain ⟨cs, h⟩ := hrow i h; exact ⟨cs, fun _ => h⟩
    · exact ⟨[], fun h' => absurd h' h⟩
  obtain ⟨f, hf⟩ := Classical.axiomOfChoice this
  refine .rsl r (some a) cap (fun i j => ((f i)[j]?).getD undef) hl ?_ ?_ ?_
  · intro h0
    obtain ⟨h1, h2, h3⟩ := hf 0 h0
    have hc := h2 0 hsz
    rw [Nat.zero_mul, Nat.zero_add, List.getElem?_eq_getElem (by omega)] at hc
    refine ⟨a, rfl, ?_, fun h => h⟩
    have := World.block_lt_of_cell? w _ hc
    rwa [add_block] at this
  · intro i j ad e hi hj
    injection e with e; subst e
    obtain ⟨h1, h2, h3⟩ := hf i hi
    have hjl : j < (f i).length := by omega
    rw [add_add, h2 j hj, List.getElem?_eq_getElem hjl]
    have hle : (r.elem i).length = (f i).length := h3.1.symm
    exact ⟨rfl, by simpa using (h3.2 j (by omega) hjl).2⟩
  · intro i j hi hj
    obtain ⟨h1, h2, h3⟩ := hf i hi
    have hjl : j < (f i).length := by rw [h3.1]; exact hj
    have := (h3.2 j hj hjl).1
    simpa [List.getElem?_eq_getElem hjl] using this

theorem den1 {v : SV} {c : Value} (h : Den PN w AN v c) (h1 : c.oneCell' = true) : Dens PN w AN [v] [c] := Dens.cons h h1 Dens.nil
/-- Bytes that came in. -/
theorem open_bytes {t T : TypeId} (hu : P.underlying t = some (.slice T)) (he : P.underlying T = some (.int .u8)) (hc : P.cellsOf T = 1) {fuel : Nat} {cs : List Value} {x : DataW H × List MemPlace} (h : DataW.trod enc P w base spare held fuel t cs = some x) :
    ∃ l : List UInt8, l.length ≤ maxLen ∧ Dens PN w AN [.rsl (.bs T l)] cs := by
  rcases open_slice1 hu hc h with ⟨rfl, _⟩ | ⟨a, len, cap, m, n, V, D, Pl, rfl, hb, hl, hm, hmm, _, hi⟩
  · exact ⟨[], by simp, den1 (nil_den rfl .nsl) rfl⟩
  · have hle : len ≤ m := by rw [hmm]; split <;> omega
    have each : ∀ i, ∃ b : UInt8, i < len → w.cell? (a.add i) = some (.int .u8 b.toNat) := fun i => by
      by_cases h : i < len
      · obtain ⟨h1, h2⟩ := hi i (by omega)
        obtain ⟨y, e1, _, e2⟩ := DataW.trod_int he h2
        injection e1 with e1 _
        have hy : 0 ≤ y ∧ y ≤ 255 := by simpa [Lit.wf, IntKind.min, IntKind.max, IntKind.signed, IntKind.bits, Int.lt_add_one_iff, Int.le_sub_one_iff] using e2
        refine ⟨UInt8.ofNat y.toNat, fun _ => ?_⟩
        rw [h1, e1]
        have : ((UInt8.ofNat y.toNat).toNat : Int) = y := by simp; omega
        rw [this]
      · exact ⟨0, fun h' => absurd h' h⟩
    obtain ⟨f, hf⟩ := Classical.axiomOfChoice each
    refine ⟨(List.range len).map f, by simp; omega, den1 (open_row (by simp [rlen]) hl (by show 0 < 1; omega) fun i hi => ⟨[.int .u8 (f i).toNat], rfl, ?_, ?_⟩) rfl⟩
    · intro j hj
      have : j = 0 := by simp [R.sz] at hj; exact hj
      subst this
      simp only [R.sz, Nat.mul_one, Nat.add_zero]
      rw [hf i hi]
      rfl
    · have : getB ((List.range len).map f) i = ((f i).toNat : Int) := by simp [getB, hi]
      simp only [R.elem, lock_eq, this]
      exact den1 (.v _) rfl
/-- Whole numbers that came in. -/
theorem open_intsD {t T : TypeId} {k : IntKind} (hu : P.underlying t = some (.slice T)) (he : P.underlying T = some (.int k)) (hc : P.cellsOf T = 1) {fuel : Nat} {cs : List Value} {x : DataW H × List MemPlace} (h : DataW.trod enc P w base spare held fuel t cs = some x) :
    ∃ l : List Int, l.length ≤ maxLen ∧ (∀ y ∈ l, (Lit.int k y).wf = true) ∧ Dens PN w AN [.rsl (.ints T k l)] cs := by
  rcases open_slice1 hu hc h with ⟨rfl, _⟩ | ⟨a, len, cap, m, n, V, D, Pl, rfl, hb, hl, hm, hmm, _, hi⟩
  · exact ⟨[], by simp, by simp, den1 (nil_den rfl .nsl) rfl⟩
  · have hle : len ≤ m := by rw [hmm]; split <;> omega
    have each : ∀ i, ∃ b : Int, i < len → w.cell? (a.add i) = some (.int k b) ∧ (Lit.int k b).wf = true := fun i => by
      by_cases h : i < len
      · obtain ⟨h1, h2⟩ := hi i (by omega)
        obtain ⟨y, e1, _, e2⟩ := DataW.trod_int he h2
        injection e1 with e1 _
        exact ⟨y, fun _ => ⟨by rw [h1, e1], e2⟩⟩
      · exact ⟨0, fun h' => absurd h' h⟩
    obtain ⟨f, hf⟩ := Classical.axiomOfChoice each
    refine ⟨(List.range len).map f, by simp; omega, ?_, den1 (open_row (by simp [rlen]) hl (by show 0 < 1; omega) fun i hi => ⟨[.int k (f i)], rfl, ?_, ?_⟩) rfl⟩
    · intro y hy
      obtain ⟨i, h1, rfl⟩ := List.mem_map.1 hy
      exact (hf i (List.mem_range.1 h1)).2
    · intro j hj
      have : j = 0 := by simp [R.sz] at hj; exact hj
      subst this
      simp only [R.sz, Nat.mul_one, Nat.add_zero]
      rw [(hf i hi).1]
      rfl
    · have : getI ((List.range len).map f) i = f i := by simp [getI, hi]
      simp only [R.elem, lock_eq, this]
      exact den1 (.v _) rfl
theorem dens_app {a b : List SV} {c d : List Value} (h : Dens PN w AN a c) (k : Dens PN w AN b d) : Dens PN w AN (a ++ b) (c ++ d) := by
  refine ⟨by simp [h.1, k.1], fun j h1 h2 => ?_⟩
  by_cases hj : j < a.length
  · have hc : j < c.length := by rw [h.1]; exact hj
    rw [List.getElem_append_left hj, List.getElem_append_left hc]
    exact h.2 j hj hc
  · have hc : ¬ j < c.length := by rw [h.1]; exact hj
    rw [List.getElem_append_right (by omega), List.getElem_append_right (by omega)]
    have e := h.1
    have := k.2 (j - a.length) (by simp at h1; omega) (by simp at h2; omega)
    simpa [e] using this
theorem D.fld_l (l : List D) (j : Nat) : (D.l l).fld j = l.getD j (.i 0) := rfl
theorem open_ty : ∀ (e : Ty) (t : TypeId) (fuel : Nat) (cs : List Value) (x : DataW H × List MemPlace), tyChk P e t = true → DataW.trod enc P w base spare held fuel t cs = some x → ∃ d : D, Dens PN w AN (e.leaves d) cs ∧ e.rng d := by
  intro e
  apply Ty.rec (motive_1 := fun e => ∀ (t : TypeId) (fuel : Nat) (cs : List Value) (x : DataW H × List MemPlace), tyChk P e t = true → DataW.trod enc P w base spare held fuel t cs = some x → ∃ d : D, Dens PN w AN (e.leaves d) cs ∧ e.rng d)
    (motive_2 := fun es => ∀ (fl : List Field) (o : Nat) (cs : List Value), tysChk P es fl o = true → (∀ f ∈ fl, ∃ fuel x, DataW.trod enc P w base spare held fuel f.type ((cs.drop f.offset).take (P.cellsOf f.type)) = some x) → cs.length = o + Ty.sizes es →
      ∃ ds : List D, ds.length = es.length ∧ ∀ d j, (∀ i, i < es.length → d.fld (j + i) = ds.getD i (.i 0)) → Dens PN w AN (Ty.leavesL es d j) (cs.drop o) ∧ Ty.rngL es d j)
  · intro k t fuel cs x hc h
    simp only [tyChk] at hc
    split at hc
    · rename_i j hu
      have := LawfulBEq.eq_of_beq hc
      subst this
      obtain ⟨y, rfl, _, e2⟩ := DataW.trod_int hu h
      refine ⟨.i y, ?_, e2⟩
      simp only [Ty.leaves, lock_eq]
      exact den1 (.v _) rfl
    · cases hc
  · intro t fuel cs x hc h
    simp only [tyChk] at hc
    split at hc
    · rename_i hu
      obtain ⟨b, rfl, _⟩ := DataW.trod_bool hu h
      refine ⟨.b b, ?_, trivial⟩
      simp only [Ty.leaves, lock_eq]
      exact den1 (.v _) rfl
    · cases hc
  · intro t fuel cs x hc h
    simp only [tyChk] at hc
    split at hc
    · rename_i hu
      obtain ⟨b, rfl, _, e2⟩ := DataW.trod_string hu h
      refine ⟨.s b.data.toList, ?_, by
        show b.data.toList.length ≤ maxLen
        have : b.data.toList.length = b.size := by rw [Array.length_toList]; rfl
        rw [this]; exact e2⟩
      simp only [Ty.leaves, lock_eq, D.toS]
      have := Den.str (PL := PN) (w := w) (Av := AN) b.data.toList
      simp at this
      exact den1 this rfl
    · cases hc
  · intro T t fuel cs x hc h
    simp only [tyChk] at hc
    split at hc
    · rename_i e0 hu he
      simp only [Bool.and_eq_true] at hc
      have e1 := (nbeq _ _).1 hc.1
      have e2 := (nbeq _ _).1 hc.2
      subst e1
      obtain ⟨l, h1, h2⟩ := open_bytes hu he e2 h
      exact ⟨.s l, by simp only [Ty.leaves, lock_eq]; exact h2, h1⟩
    · cases hc
  · intro T k t fuel cs x hc h
    simp only [tyChk] at hc
    split at hc
    · rename_i e0 j hu he
      simp only [Bool.and_eq_true] at hc
      have e1 := (nbeq _ _).1 hc.1.1
      have e2 := (nbeq _ _).1 hc.1.2
      have e3 := LawfulBEq.eq_of_beq hc.2
      subst e1; subst e3
      obtain ⟨l, h1, h2, h3⟩ := open_intsD hu he e2 h
      exact ⟨.is l, by simp only [Ty.leaves, lock_eq]; exact h3, h1, h2⟩
    · cases hc
  · intro T e ih t fuel cs x hc h
    simp only [tyChk] at hc
    split at hc
    · rename_i e0 hu
      simp only [Bool.and_eq_true] at hc
      obtain ⟨⟨⟨c1, c2⟩, c3⟩, c4⟩ := hc
      have e1 := (nbeq _ _).1 c1
      have e2 := (nbeq _ _).1 c2
      have e3 := Nat.le_of_ble_eq_true c3
      subst e1
      rcases open_slice hu h with ⟨rfl, _⟩ | ⟨a, len, cap, m, n, D0, Pl, rfl, hb, hl, hm, hmm, _, hi⟩
      · refine ⟨.l [], ?_, by simp [Ty.rng, D.toL]⟩
        simp only [Ty.leaves, lock_eq, D.toL]
        exact den1 (nil_den rfl .nsl) rfl
      · have hle : len ≤ m := by rw [hmm]; split <;> omega
        have each : ∀ i, ∃ q : D × List Value, i < len → q.2.length = e.size ∧ (∀ j, j < e.size → w.cell? (a.add (i * e.size + j)) = q.2[j]?) ∧ Dens PN w AN (e.leaves q.1) q.2 ∧ e.rng q.1 := fun i => by
          by_cases hil : i < len
          · obtain ⟨cs', g1, g2⟩ := hi i (by omega)
            obtain ⟨_, g3, g4⟩ := World.cells?_some g1
            obtain ⟨d, g5, g6⟩ := ih _ n cs' _ c4 g2
            refine ⟨(d, cs'), fun _ => ⟨by rw [g3, e2], fun j hj => ?_, g5, g6⟩⟩
            have := g4 j (by omega)
            rw [add_add, e2] at this
            exact this
          · exact ⟨(.i 0, []), fun h' => absurd h' hil⟩
        obtain ⟨f, hf⟩ := Classical.axiomOfChoice each
        refine ⟨.l ((List.range len).map fun i => (f i).1), ?_, ?_, ?_⟩
        · simp only [Ty.leaves, lock_eq, D.toL]
          refine den1 (open_row (by simp [rlen]) hl (by show 0 < e.size; omega) fun i hi => ⟨(f i).2, (hf i hi).1, (hf i hi).2.1, ?_⟩) rfl
          have : getD ((List.range len).map fun i => (f i).1) i = (f i).1 := by simp [getD, hi]
          simp only [R.elem, lock_eq, this]
          exact (hf i hi).2.2.1
        · simp [D.toL]; omega
        · intro y hy
          simp only [D.toL] at hy
          obtain ⟨i, h1, rfl⟩ := List.mem_map.1 hy
          exact (hf i (List.mem_range.1 h1)).2.2.2
    · cases hc
  · intro es ih t fuel cs x hc h
    simp only [tyChk] at hc
    split at hc
    · rename_i fl hu
      simp only [Bool.and_eq_true] at hc
      have e1 := (nbeq _ _).1 hc.1
      obtain ⟨xs, n, _, _, hlen, hxl, hx⟩ := DataW.trod_struct hu h
      obtain ⟨ds, h1, h2⟩ := ih fl.toList 0 cs hc.2 (fun f hf => by
        obtain ⟨i, hi, he⟩ := List.getElem_of_mem hf
        have hi' : i < fl.size := by simpa using hi
        have := hx i f (by rw [Array.getElem?_eq_getElem hi']; simpa using he)
        exact ⟨n, xs[i]'(by omega), by rw [this, List.getElem?_eq_getElem (by omega)]⟩) (by rw [hlen, e1]; omega)
      obtain ⟨g1, g2⟩ := h2 (.l ds) 0 (fun i hi => by rw [D.fld_l, Nat.zero_add])
      exact ⟨.l ds, by simp only [Ty.leaves]; simpa using g1, g2⟩
    · cases hc
  · intro T t fuel cs x hc h; simp [tyChk] at hc
  · intro n t fuel cs x hc h; simp [tyChk] at hc
  · intro fl o cs hc hf hl
    cases fl with
    | nil => exact ⟨[], rfl, fun d j _ => ⟨by simp only [Ty.leavesL]; rw [List.drop_of_length_le (by simp [Ty.sizes] at hl; omega)]; exact Dens.nil, trivial⟩⟩
    | cons f fl => simp [tysChk] at hc
  · intro e es ih1 ih2 fl o cs hc hf hl
    cases fl with
    | nil => simp [tysChk] at hc
    | cons f fl =>
      simp only [tysChk, Bool.and_eq_true] at hc
      obtain ⟨⟨⟨c1, c2⟩, c3⟩, c4⟩ := hc
      have e1 := (nbeq _ _).1 c1
      have e2 := (nbeq _ _).1 c2
      obtain ⟨fuel, x, hx⟩ := hf f (List.mem_cons_self ..)
      obtain ⟨d1, g1, g2⟩ := ih1 _ _ _ _ c3 hx
      simp only [Ty.sizes] at hl
      obtain ⟨ds, g3, g4⟩ := ih2 fl (o + e.size) cs c4 (fun f hf' => hf f (List.mem_cons_of_mem _ hf')) (by omega)
      refine ⟨d1 :: ds, by simp [g3], fun d j hd => ?_⟩
      have hd0 : d.fld j = d1 := by simpa using hd 0 (by simp)
      obtain ⟨k1, k2⟩ := g4 d (j + 1) (fun i hi => by
        have := hd (i + 1) (by simpa using hi)
        rw [Nat.add_assoc, Nat.add_comm 1 i, this, List.getD_cons_succ])
      rw [e1, e2] at g1
      refine ⟨?_, ?_, k2⟩
      · simp only [Ty.leavesL, lock_eq, hd0]
        have : cs.drop o = (cs.drop o).take e.size ++ cs.drop (o + e.size) := by
          rw [← List.drop_drop, List.take_append_drop]
        rw [this]
        exact dens_app g1 k1
      · rw [hd0]; exact g2
end
end Go.Proofs.Ytcdjpciocamkiaa
end
section
/-
  Words, as plain Lean reads them.
-/
set_option linter.unusedVariables false
set_option linter.unusedSimpArgs false
namespace Go.Proofs.Ytcdjpciocamkiaa

theorem pieq {a b : Int} : (ieq a b = true) = (a = b) := by simp [ieq]
theorem pilt {a b : Int} : (ilt a b = true) = (a < b) := by simp [ilt]
theorem pile {a b : Int} : (ile a b = true) = (a ≤ b) := by simp [ile]
theorem pseq {a b : List UInt8} : (seq a b = true) = (a = b) := by simp [seq]
theorem pbeq2 {a b : Bool} : (beq2 a b = true) = (a = b) := by simp [beq2]
theorem pband {a b : Bool} : (band a b = true) = (a = true ∧ b = true) := by simp [band]

/-- A number of 64 bits. -/
def U (x : Int) : Prop := 0 ≤ x ∧ x < 18446744073709551616
theorem U.lo {x : Int} (h : U x) : 0 ≤ x := h.1
theorem U.hi {x : Int} (h : U x) : x < 18446744073709551616 := h.2
theorem pwu64 (x : Int) : IntKind.u64.wrap x = x % 18446744073709551616 := by simp [IntKind.wrap, IntKind.signed, IntKind.bits]
theorem pwu32 (x : Int) : IntKind.u32.wrap x = x % 4294967296 := by simp [IntKind.wrap, IntKind.signed, IntKind.bits]
theorem pwu16 (x : Int) : IntKind.u16.wrap x = x % 65536 := by simp [IntKind.wrap, IntKind.signed, IntKind.bits]
theorem pwu8 (x : Int) : IntKind.u8.wrap x = x % 256 := by simp [IntKind.wrap, IntKind.signed, IntKind.bits]
theorem pwi64 {x : Int} (h1 : -9223372036854775808 ≤ x) (h2 : x ≤ 9223372036854775807) : IntKind.i64.wrap x = x := by
  simp only [IntKind.wrap, IntKind.signed, IntKind.bits]
  simp
  omega
theorem pu64 {x : Int} (h1 : 0 ≤ x) (h2 : x < 18446744073709551616) : IntKind.u64.wrap x = x := by rw [pwu64]; omega
theorem pu32 {x : Int} (h1 : 0 ≤ x) (h2 : x < 4294967296) : IntKind.u32.wrap x = x := by rw [pwu32]; omega
theorem pu16 {x : Int} (h1 : 0 ≤ x) (h2 : x < 65536) : IntKind.u16.wrap x = x := by rw [pwu16]; omega
theorem pu8 {x : Int} (h1 : 0 ≤ x) (h2 : x < 256) : IntKind.u8.wrap x = x := by rw [pwu8]; omega
theorem pofN (n : Nat) : ofN n = (n : Int) := rfl
theorem ptoN (n : Nat) : toN (n : Int) = n := rfl
theorem ptoN' (x : Int) : toN x = x.toNat := rfl
theorem pxlen {α : Type} (l : List α) : xlen l = l.length := rfl
/-- The next place. -/
theorem pnext {n : Nat} (h : n < 9223372036854775807) : iadd .i64 (n : Int) 1 = ((n + 1 : Nat) : Int) := by
  simp only [iadd]
  rw [pwi64] <;> omega
theorem pgetI {l : List Int} {n : Nat} (h : n < l.length) : getI l n = l[n] := by simp [getI, h]
theorem pgetD {l : List D} {n : Nat} (h : n < l.length) : getD l n = l[n] := by simp [getD, h]
theorem pgetB {l : List UInt8} {n : Nat} (h : n < l.length) : getB l n = ((l[n].toNat : Nat) : Int) := by simp [getB, h]
theorem pcopy {α : Type} (l : List α) (x : α) : lspl (lrep l.length x) 0 (lsub l 0 (nmin (xlen (lrep l.length x)) (xlen l))) = l := by
  simp [lspl, lrep, lsub, nmin, xlen]
theorem pimax (a b : Int) : imax a b = max a b := by
  unfold imax
  by_cases h : b > a
  · rw [if_pos h]; omega
  · rw [if_neg h]; omega
theorem pimin (a b : Int) : imin a b = min a b := by
  unfold imin
  by_cases h : b < a
  · rw [if_pos h]; omega
  · rw [if_neg h]; omega
end Go.Proofs.Ytcdjpciocamkiaa
end
section
/-
  What the functions of package block and its reference do, in plain words.
-/
set_option linter.unusedVariables false
set_option linter.unusedSimpArgs false
set_option maxRecDepth 10000
namespace Go.Proofs.Ytcdjpciocamkiaa

/-- The leaves of a block. -/
def fl (d : D) : List Int := (List.range 64).map fun j => D.toI (D.fld d j)
/-- A block that holds these bytes. -/
structure Is (d : D) (bs : List UInt8) : Prop where
  len : bs.length = 64
  at_ : ∀ j, j < 64 → D.toI (D.fld d j) = getB bs j
theorem u8lt (b : UInt8) : b.toNat < 256 := b.toNat_lt
theorem getB_rng (bs : List UInt8) (j : Nat) : 0 ≤ getB bs j ∧ getB bs j < 256 := by
  have := u8lt (bs.getD j 0)
  simp only [getB]
  omega
theorem allU8_of {l : List Int} (h : ∀ x ∈ l, 0 ≤ x ∧ x < 256) : allU8 l := by
  induction l with
  | nil => trivial
  | cons x l ih => exact ⟨h x (List.mem_cons_self ..), ih fun y hy => h y (List.mem_cons_of_mem _ hy)⟩
theorem bsL_map (l : List Int) : bsL l = l.map byteOf := by
  induction l with
  | nil => rfl
  | cons x l ih => rw [bsL, ih]; rfl
theorem byteOf_toNat (b : UInt8) : byteOf (b.toNat : Int) = b := by simp [byteOf]
theorem Is.ok {d : D} {bs : List UInt8} (h : Is d bs) : allU8 (fl d) ∧ bsL (fl d) = bs := by
  constructor
  · refine allU8_of fun x hx => ?_
    obtain ⟨j, hj, rfl⟩ := List.mem_map.1 hx
    rw [h.at_ j (by simpa using hj)]
    exact getB_rng _ _
  · rw [bsL_map]
    apply List.ext_getElem
    · simp [fl, h.len]
    · intro j h1 h2
      have hj : j < 64 := by rw [← h.len]; exact h2
      simp only [fl, List.getElem_map, List.getElem_range]
      rw [h.at_ j hj, pgetB h2, byteOf_toNat]
/-- A block of these bytes. -/
def arr64 (s : List UInt8) : D := .l ((List.range 64).map fun j => .i (D.toI (D.fld (getD [arrD s] 0) j)))
theorem fld_map {f : Nat → D} {n j : Nat} (h : j < n) : D.fld (.l ((List.range n).map f)) j = f j := by
  simp only [D.fld, D.toL]
  rw [List.getD_eq_getElem?_getD, List.getElem?_eq_getElem (by simpa using h)]
  simp
theorem arrD_fld {s : List UInt8} {j : Nat} (h : j < s.length) : D.toI (D.fld (arrD s) j) = getB s j := by
  simp only [arrD, D.fld, D.toL]
  rw [List.getD_eq_getElem?_getD, List.getElem?_eq_getElem (by simpa using h), pgetB h]
  simp [D.toI]
theorem Is.arr {s : List UInt8} (h : s.length = 64) : Is (arr64 s) s := by
  refine ⟨h, fun j hj => ?_⟩
  unfold arr64
  rw [fld_map hj]
  show D.toI (D.fld (arrD s) j) = _
  exact arrD_fld (by omega)
/-- A front is written over. -/
theorem Is.cp {d : D} {bs s : List UInt8} (h : Is d bs) (hs : s.length ≤ 64) : Is (cpA 64 d s) (s ++ bs.drop s.length) := by
  have hb := h.len
  refine ⟨by simp; omega, fun j hj => ?_⟩
  unfold cpA
  rw [fld_map hj]
  by_cases c : j < s.length
  · rw [if_pos c]
    rw [pgetB (by simp; omega), List.getElem_append_left c]
    simp [D.toI, c]
  · rw [if_neg c, h.at_ j hj, pgetB (by omega), pgetB (by simp; omega), List.getElem_append_right (by omega)]
    simp only [List.getElem_drop]
    congr 4
    omega
/-- Noughts. -/
def Z64 : D := .l ((List.range 64).map fun _ => .i 0)
def N64 : List UInt8 := List.replicate 64 0
theorem Is.zero : Is Z64 N64 := by
  refine ⟨by simp [N64], fun j hj => ?_⟩
  unfold Z64
  rw [fld_map hj, pgetB (by simp [N64]; omega)]
  simp only [N64, List.getElem_replicate]
  rfl

theorem new_eq (x : Int) : F_block_New x = if (ilt x 1) = true then some (.inl ()) else if (ilt 1024 x) = true then some (.inl ()) else
    if 0 ≤ x ∧ x ≤ x ∧ x * ((64 : Nat) : Int) ≤ 140737488355328 ∧ x ≤ 9223372036854775807 then some (.inr (lrep (toN x) Z64)) else none := rfl
theorem p_new {n : Nat} (h : 1 ≤ n ∧ n ≤ 1024) : F_block_New (n : Int) = some (.inr (List.replicate n Z64)) := by
  rw [new_eq, if_neg (by rw [pilt]; omega), if_neg (by rw [pilt]; omega), if_pos (by omega)]
  rfl
/-- Why a block can't be asked for. -/
def mayV (b : Bool) (n : Nat) (x : Int) : Int := if b = true then 3 else if x < 0 then 2 else if (n : Int) ≤ x then 2 else 0
theorem mayV0 {b : Bool} {n : Nat} {x : Int} (h : mayV b n x = 0) : b = false ∧ 0 ≤ x ∧ x < n := by
  unfold mayV at h
  cases b
  · simp only [Bool.false_eq_true, if_false] at h
    by_cases c1 : x < 0
    · rw [if_pos c1] at h; omega
    · rw [if_neg c1] at h
      by_cases c2 : (n : Int) ≤ x
      · rw [if_pos c2] at h; omega
      · exact ⟨rfl, by omega, by omega⟩
  · simp at h
theorem p_may (x : Int) (b : Bool) (y : Int) (r : List D) : F_block_Device_may x b y r = some (mayV b r.length x) := by
  unfold F_block_Device_may mayV
  cases b
  · simp only [Bool.false_eq_true, if_false]
    by_cases c1 : x < 0
    · rw [if_pos (by rw [pilt]; exact c1), if_pos c1]
    · rw [if_neg (by rw [pilt]; exact c1), if_neg c1]
      by_cases c2 : (r.length : Int) ≤ x
      · rw [if_pos (by rw [pile]; exact c2), if_pos c2]
      · rw [if_neg (by rw [pile]; exact c2), if_neg c2]
  · simp
theorem p_may2 (x : Int) (b : Bool) (y : Int) (r : List D) (z u : Int) : F_block_Device_may_2 x b y r z u = some (mayV b r.length x) := p_may x b y r

/-- What a device holds, told by the reference. -/
structure Rel (r q : List D) : Prop where
  len : r.length = q.length
  at_ : ∀ k, k < q.length → Is (getD r k) (D.toS (getD q k))
theorem read_eq (x : Int) (b : Bool) (y : Int) (r : List D) : F_block_Device_Read x b y r = match F_block_Device_may x b y r with
    | none => none
    | some v => if (ieq v 0) = true then if 0 ≤ x ∧ x < ofN (xlen r) then if allU8 (fl (getD r (toN x))) then some (0, bsL (fl (getD r (toN x)))) else none else none else some (v, []) := rfl
theorem read_eq3 (x : Int) (b : Bool) (y : Int) (r : List D) (z u : Int) : F_block_Device_Read_3 x b y r z u = match F_block_Device_may_2 x b y r z u with
    | none => none
    | some v => if (ieq v 0) = true then if 0 ≤ x ∧ x < ofN (xlen r) then if allU8 (fl (getD r (toN x))) then some (0, bsL (fl (getD r (toN x)))) else none else none else some (v, []) := rfl
/-- What is read. -/
def readV (b : Bool) (q : List D) (x : Int) : List UInt8 := if mayV b q.length x = 0 then D.toS (getD q (toN x)) else []
theorem p_read {r q : List D} (h : Rel r q) (x : Int) (b : Bool) (y : Int) : F_block_Device_Read x b y r = some (mayV b q.length x, readV b q x) := by
  have hl := h.len
  rw [read_eq, p_may, hl]
  simp only []
  unfold readV
  by_cases c : mayV b q.length x = 0
  · obtain ⟨_, h1, h2⟩ := mayV0 c
    have hi := (h.at_ (toN x) (by simp only [toN]; omega)).ok
    rw [if_pos (by rw [pieq]; exact c), if_pos (by simp only [ofN, xlen]; omega), if_pos hi.1, if_pos c, hi.2, c]
  · rw [if_neg (by rw [pieq]; exact c), if_neg c]
theorem p_read3 {r q : List D} (h : Rel r q) (x : Int) (b : Bool) (y z u : Int) : F_block_Device_Read_3 x b y r z u = some (mayV b q.length x, readV b q x) := p_read h x b y
theorem p_rread (b : Bool) (x1 x2 x3 x : Int) (q : List D) : F_tollbarref31_Read b x1 x2 x3 x q = some (readV b q x, mayV b q.length x) := by
  unfold F_tollbarref31_Read readV mayV
  cases b
  · simp only [Bool.false_eq_true, if_false]
    by_cases c1 : x < 0
    · rw [if_pos (by rw [pilt]; exact c1), if_pos c1]; rfl
    · rw [if_neg (by rw [pilt]; exact c1), if_neg c1]
      by_cases c2 : (q.length : Int) ≤ x
      · rw [if_pos (by rw [pile]; exact c2), if_pos c2]; rfl
      · rw [if_neg (by rw [pile]; exact c2), if_neg c2, if_pos (by simp only [ofN, xlen]; omega)]; rfl
  · rfl
theorem p_with {q : List D} {x : Int} (s : List UInt8) (h : 0 ≤ x ∧ x < q.length) (hq : q.length ≤ 2000) : F_tollbarref31_with q x s = some (setD q (toN x) (.s s)) := by
  unfold F_tollbarref31_with
  rw [if_pos (by simp only [xlen]; omega), if_pos (by simp only [ofN, xlen]; omega)]
theorem Rel.set {r q : List D} (h : Rel r q) {k : Nat} (hk : k < q.length) {d : D} {s : List UInt8} (hi : Is d s) : Rel (setD r k d) (setD q k (.s s)) := by
  have hl := h.len
  refine ⟨by simp [setD, hl], fun j hj => ?_⟩
  have hj' : j < q.length := by simpa [setD] using hj
  by_cases e : j = k
  · subst e
    have e1 : getD (setD r j d) j = d := by simp [getD, setD, hl, hk]
    have e2 : getD (setD q j (.s s)) j = .s s := by simp [getD, setD, hk]
    rw [e1, e2]
    exact hi
  · have e1 : getD (setD r k d) j = getD r j := by simp [getD, setD, List.getElem?_set_ne (Ne.symm e)]
    have e2 : getD (setD q k (.s s)) j = getD q j := by simp [getD, setD, List.getElem?_set_ne (Ne.symm e)]
    rw [e1, e2]
    exact h.at_ j hj'
theorem write_eq (x : Int) (s : List UInt8) (b : Bool) (y : Int) (r : List D) : F_block_Device_Write x s b y r = match F_block_Device_may x b y r with
    | none => none
    | some v => if (ieq v 0) = true then if (ieq (ofN (xlen s)) 64) = true then if 64 ≤ xlen s then if 0 ≤ x ∧ x < ofN (xlen r) then
        some (0, iadd .i64 y 1, setD r (toN x) (arr64 s)) else none else none else some (1, y, r) else some (v, y, r) := rfl
theorem write_eq2 (x : Int) (s : List UInt8) (b : Bool) (y : Int) (r : List D) (z u : Int) : F_block_Device_Write_2 x s b y r z u = match F_block_Device_may_2 x b y r z u with
    | none => none
    | some v => if (ieq v 0) = true then if (ieq (ofN (xlen s)) 64) = true then
        if (ieq z 0) = true then if 0 ≤ x ∧ x < ofN (xlen r) then if 0 ≤ u ∧ u ≤ ofN (xlen s) then some (.inr (setD r (toN x) (cpA 64 (getD r (toN x)) (lsub s 0 (toN u))))) else none else none
        else if 64 ≤ xlen s then if 0 ≤ x ∧ x < ofN (xlen r) then
          some (.inl (0, iadd .i64 y 1, setD r (toN x) (arr64 s), isub .i64 z 1)) else none else none else some (.inl (1, y, r, z)) else some (.inl (v, y, r, z)) := rfl
/-- What a write tells, without a tear. -/
def wV (b : Bool) (n : Nat) (x : Int) (s : List UInt8) : Int := if mayV b n x = 0 then if s.length = 64 then 0 else 1 else mayV b n x
theorem wV0 {b : Bool} {n : Nat} {x : Int} {s : List UInt8} (h : wV b n x s = 0) : b = false ∧ 0 ≤ x ∧ x < n ∧ s.length = 64 := by
  unfold wV at h
  by_cases c : mayV b n x = 0
  · rw [if_pos c] at h
    obtain ⟨h1, h2, h3⟩ := mayV0 c
    by_cases c2 : s.length = 64
    · exact ⟨h1, h2, h3, c2⟩
    · rw [if_neg c2] at h; omega
  · rw [if_neg c] at h; exact absurd h c
theorem wV_of {n : Nat} {x : Int} {s : List UInt8} (h1 : 0 ≤ x) (h2 : x < n) (h3 : s.length = 64) : wV false n x s = 0 := by
  unfold wV mayV
  simp [h3]
  omega
theorem p_write (x : Int) (s : List UInt8) (b : Bool) (y : Int) (r : List D) :
    F_block_Device_Write x s b y r = if wV b r.length x s = 0 then some (0, iadd .i64 y 1, setD r (toN x) (arr64 s)) else some (wV b r.length x s, y, r) := by
  rw [write_eq, p_may]
  simp only []
  unfold wV
  by_cases c : mayV b r.length x = 0
  · obtain ⟨_, h1, h2⟩ := mayV0 c
    rw [if_pos (by rw [pieq]; exact c), if_pos c]
    by_cases c2 : s.length = 64
    · rw [if_pos (by rw [pieq]; simp only [ofN, xlen]; omega), if_pos (by simp only [xlen]; omega), if_pos (by simp only [ofN, xlen]; omega), if_pos c2, if_pos rfl]
    · rw [if_neg (by rw [pieq]; simp only [ofN, xlen]; omega), if_neg c2, if_neg (by omega)]
  · rw [if_neg (by rw [pieq]; exact c), if_neg c, if_neg c]
theorem p_write2 (x : Int) (s : List UInt8) (b : Bool) (y : Int) (r : List D) (z u : Int) (hu : 0 ≤ u ∧ u ≤ 64) :
    F_block_Device_Write_2 x s b y r z u = if wV b r.length x s = 0 then if z = 0 then some (.inr (setD r (toN x) (cpA 64 (getD r (toN x)) (s.take (toN u))))) else some (.inl (0, iadd .i64 y 1, setD r (toN x) (arr64 s), isub .i64 z 1))
      else some (.inl (wV b r.length x s, y, r, z)) := by
  rw [write_eq2, p_may2]
  simp only []
  unfold wV
  by_cases c : mayV b r.length x = 0
  · obtain ⟨_, h1, h2⟩ := mayV0 c
    rw [if_pos (by rw [pieq]; exact c), if_pos c]
    by_cases c2 : s.length = 64
    · rw [if_pos (by rw [pieq]; simp only [ofN, xlen]; omega), if_pos c2, if_pos rfl]
      by_cases c3 : z = 0
      · rw [if_pos (by rw [pieq]; exact c3), if_pos (by simp only [ofN, xlen]; omega), if_pos (by simp only [ofN, xlen]; omega), if_pos c3]
        rfl
      · rw [if_neg (by rw [pieq]; exact c3), if_pos (by simp only [xlen]; omega), if_pos (by simp only [ofN, xlen]; omega), if_neg c3]
    · rw [if_neg (by rw [pieq]; simp only [ofN, xlen]; omega), if_neg c2, if_neg (by omega)]
  · rw [if_neg (by rw [pieq]; exact c), if_neg c, if_neg c]
/-- The reference's write. -/
theorem p_rwrite {q : List D} (b : Bool) (x1 x2 x3 x : Int) (s : List UInt8) (hq : q.length ≤ 2000) (hq64 : ∀ k, k < q.length → (D.toS (getD q k)).length = 64) (h2 : x1 = 0 → 0 ≤ x2 ∧ x2 ≤ 64) :
    F_tollbarref31_Write b x1 x2 x3 x s q = if wV b q.length x s = 0 then
        if x1 = 0 then some (true, -1, 0, x3, 3, setD q (toN x) (.s (s.take (toN x2) ++ (D.toS (getD q (toN x))).drop (toN x2))))
        else some (b, (if 0 < x1 then isub .i64 x1 1 else x1), x2, iadd .i64 x3 1, 0, setD q (toN x) (.s s))
      else some (b, x1, x2, x3, wV b q.length x s, q) := by
  unfold F_tollbarref31_Write
  rw [p_rread]
  simp only []
  unfold wV
  by_cases c : mayV b q.length x = 0
  · obtain ⟨_, g1, g2⟩ := mayV0 c
    rw [if_pos (by rw [pieq]; exact c), if_pos c]
    by_cases c2 : s.length = 64
    · rw [if_pos (by rw [pieq]; simp only [ofN, xlen]; omega), if_pos (by rw [pieq]; exact c), if_pos c2, if_pos rfl]
      by_cases c3 : x1 = 0
      · have h64 := hq64 (toN x) (by simp only [toN]; omega)
        obtain ⟨k1, k2⟩ := h2 c3
        have e1 : lsub s 0 (toN x2) = s.take (toN x2) := rfl
        have e2 : lsub (D.toS (getD q (toN x))) (toN x2) (ndec (xlen (D.toS (getD q (toN x)))) (toN x2)) = (D.toS (getD q (toN x))).drop (toN x2) := by
          simp only [lsub, ndec, xlen]
          exact List.take_of_length_le (by simp)
        rw [if_pos (by rw [pieq]; exact c3), if_pos (by simp only [ofN, xlen]; omega), if_pos (by simp only [ofN, xlen]; omega), if_pos (by simp only [ofN, xlen]; omega), e1, e2,
          if_pos (by simp only [xlen, List.length_take, List.length_drop]; omega), p_with _ ⟨g1, g2⟩ hq, if_pos c3]
        rfl
      · rw [if_neg (by rw [pieq]; exact c3), p_with _ ⟨g1, g2⟩ hq, if_neg c3]
        simp only []
        by_cases c4 : 0 < x1
        · rw [if_pos (by rw [pilt]; exact c4), if_pos c4]
        · rw [if_neg (by rw [pilt]; exact c4), if_neg c4]
    · rw [if_neg (by rw [pieq]; simp only [ofN, xlen]; omega), if_neg (by rw [pieq]; omega), if_neg c2, if_neg (by omega)]
  · rw [if_neg (by rw [pieq]; exact c), if_neg (by rw [pieq]; exact c), if_neg c, if_neg c]
end Go.Proofs.Ytcdjpciocamkiaa
end
section
/-
  What is known of arguments: their numbers fit.
-/
set_option linter.unusedVariables false
set_option linter.unusedSimpArgs false
namespace Go.Proofs.Ytcdjpciocamkiaa
theorem wf_U {x : Int} (h : (Lit.int .u64 x).wf = true) : U x := by
  have : 0 ≤ x ∧ x ≤ 18446744073709551615 := by simpa [Lit.wf, IntKind.min, IntKind.max, IntKind.signed, IntKind.bits, Int.lt_add_one_iff, Int.le_sub_one_iff] using h
  unfold U; omega
theorem wf_u32 {x : Int} (h : (Lit.int .u32 x).wf = true) : 0 ≤ x ∧ x < 4294967296 := by
  have : 0 ≤ x ∧ x ≤ 4294967295 := by simpa [Lit.wf, IntKind.min, IntKind.max, IntKind.signed, IntKind.bits, Int.lt_add_one_iff, Int.le_sub_one_iff] using h
  omega
theorem wf_u16 {x : Int} (h : (Lit.int .u16 x).wf = true) : 0 ≤ x ∧ x < 65536 := by
  have : 0 ≤ x ∧ x ≤ 65535 := by simpa [Lit.wf, IntKind.min, IntKind.max, IntKind.signed, IntKind.bits, Int.lt_add_one_iff, Int.le_sub_one_iff] using h
  omega
theorem wf_u8 {x : Int} (h : (Lit.int .u8 x).wf = true) : 0 ≤ x ∧ x < 256 := by
  have : 0 ≤ x ∧ x ≤ 255 := by simpa [Lit.wf, IntKind.min, IntKind.max, IntKind.signed, IntKind.bits, Int.lt_add_one_iff, Int.le_sub_one_iff] using h
  omega
theorem wf_i64 {x : Int} (h : (Lit.int .i64 x).wf = true) : -9223372036854775808 ≤ x ∧ x ≤ 9223372036854775807 := by
  simpa [Lit.wf, IntKind.min, IntKind.max, IntKind.signed, IntKind.bits, Int.lt_add_one_iff, Int.le_sub_one_iff] using h
end Go.Proofs.Ytcdjpciocamkiaa
end
section
/-
  BlockDoes, in plain words.
-/
set_option linter.unusedVariables false
set_option linter.unusedSimpArgs false
set_option maxRecDepth 10000
namespace Go.Proofs.Ytcdjpciocamkiaa

theorem p_awake : F_tollbarlaw31_awake = some true := by
  decide +kernel
theorem p_noughts : F_tollbarref31_noughts = some N64 := by
  unfold F_tollbarref31_noughts
  rw [if_pos (by decide)]
  rfl
theorem p_rnew_loop {n : Nat} (hn : n ≤ 2000) : ∀ (m i : Nat) (r : List D), i + m = n → r.length = i → (∀ k, k < i → getD r k = .s N64) →
    ∃ q, iter (F_tollbarref31_New_L1 (n : Int)) ((i : Int), r) = some q ∧ q.length = n ∧ ∀ k, k < n → getD q k = .s N64 := by
  intro m
  induction m with
  | zero =>
    intro i r hi hl hr
    refine ⟨r, iter_inr ?_, by omega, fun k hk => hr k (by omega)⟩
    unfold F_tollbarref31_New_L1
    dsimp only
    rw [if_neg (by rw [pilt]; omega)]
  | succ m ih =>
    intro i r hi hl hr
    obtain ⟨q, e1, e2, e3⟩ := ih (i + 1) (r ++ [.s N64]) (by omega) (by simp [hl]) (fun k hk => by
      by_cases h : k < i
      · rw [← hr k h]; simp [getD, List.getElem?_append_left, hl, h]
      · have : k = i := by omega
        subst this
        simp [getD, ← hl])
    refine ⟨q, ?_, e2, e3⟩
    rw [← e1]
    apply iter_inl
    unfold F_tollbarref31_New_L1
    dsimp only
    rw [if_pos (by rw [pilt]; omega), p_noughts]
    dsimp only
    rw [if_pos (by simp only [xlen, List.length_singleton]; omega), pnext (by omega)]
    rfl
theorem p_rnew {n : Nat} (hn : n ≤ 2000) : ∃ q, F_tollbarref31_New (n : Int) = some q ∧ q.length = n ∧ ∀ k, k < n → getD q k = .s N64 :=
  p_rnew_loop hn n 0 [] (by omega) rfl (fun k hk => by omega)
theorem Rel.start {n : Nat} {q : List D} (hl : q.length = n) (h : ∀ k, k < n → getD q k = .s N64) : Rel (List.replicate n Z64) q := by
  refine ⟨by simp [hl], fun k hk => ?_⟩
  have e1 : getD (List.replicate n Z64) k = Z64 := by simp [getD, ← hl, hk]
  rw [e1, h k (by omega)]
  exact Is.zero
theorem Rel.l64 {r q : List D} (h : Rel r q) : ∀ k, k < q.length → (D.toS (getD q k)).length = 64 := fun k hk => (h.at_ k hk).len

/-- All blocks are read. -/
theorem does_end4 {n : Nat} {r q : List D} {y : Int} (hR : Rel r q) (hq : q.length = n) (hn : n ≤ 2000) : ∀ (m i : Nat), i + m = n → iter (F_tollbarlaw31_BlockDoes_L4 (n : Int) y r q) (i : Int) = some true := by
  intro m
  induction m with
  | zero =>
    intro i hi
    apply iter_inr
    unfold F_tollbarlaw31_BlockDoes_L4
    rw [if_neg (by rw [pilt]; omega)]
  | succ m ih =>
    intro i hi
    rw [← ih (i + 1) (by omega)]
    apply iter_inl
    have hm : mayV false q.length (i : Int) = 0 := by unfold mayV; simp; omega
    have hr : readV false q (i : Int) = D.toS (getD q (toN (i : Int))) := by unfold readV; rw [if_pos hm]
    unfold F_tollbarlaw31_BlockDoes_L4
    rw [if_pos (by rw [pilt]; omega), p_read hR, hm, hr]
    dsimp only
    rw [if_pos (by rw [pieq]), if_pos (by simp only [ofN, xlen]; omega), if_pos (by rw [pseq]), pnext (by omega)]
theorem does_end5 {n : Nat} {r q : List D} {y : Int} (hR : Rel r q) (hq : q.length = n) (hn : n ≤ 2000) (i : Nat) (hi : i ≤ n) : iter (F_tollbarlaw31_BlockDoes_L5 (n : Int) y r q) (i : Int) = some true := by
  have e : F_tollbarlaw31_BlockDoes_L5 (n : Int) y r q = F_tollbarlaw31_BlockDoes_L4 (n : Int) y r q := rfl
  rw [e]
  exact does_end4 hR hq hn (n - i) i (by omega)

theorem armV (b : Bool) (x1 x2 x3 x4 x5 : Int) (q : List D) : F_tollbarref31_Arm b x1 x2 x3 x4 x5 q = if x4 < 0 ∨ x5 < 0 ∨ 64 < x5 then some (x1, x2, 1) else some (x4, x5, 0) := by
  unfold F_tollbarref31_Arm
  by_cases c1 : x4 < 0
  · rw [if_pos (by rw [pilt]; exact c1), if_pos (.inl c1)]
  · rw [if_neg (by rw [pilt]; exact c1)]
    by_cases c2 : x5 < 0
    · rw [if_pos (by rw [pilt]; exact c2), if_pos (.inr (.inl c2))]
    · rw [if_neg (by rw [pilt]; exact c2)]
      by_cases c3 : 64 < x5
      · rw [if_pos (by rw [pilt]; exact c3), if_pos (.inr (.inr c3))]
      · rw [if_neg (by rw [pilt]; exact c3), if_neg (by omega)]
theorem armD (x1 x2 : Int) (b : Bool) (x3 : Int) (r : List D) : F_block_Device_Arm x1 x2 b x3 r = if x1 < 0 ∨ x2 < 0 ∨ 64 < x2 then some (.inl ()) else some (.inr ()) := by
  unfold F_block_Device_Arm
  by_cases c1 : x1 < 0
  · rw [if_pos (by rw [pilt]; exact c1), if_pos (.inl c1)]
  · rw [if_neg (by rw [pilt]; exact c1)]
    by_cases c2 : x2 < 0
    · rw [if_pos (by rw [pilt]; exact c2), if_pos (.inr (.inl c2))]
    · rw [if_neg (by rw [pilt]; exact c2)]
      by_cases c3 : 64 < x2
      · rw [if_pos (by rw [pilt]; exact c3), if_pos (.inr (.inr c3))]
      · rw [if_neg (by rw [pilt]; exact c3), if_neg (by omega)]
theorem armD3 (x1 x2 : Int) (b : Bool) (x3 : Int) (r : List D) (x4 x5 : Int) : F_block_Device_Arm_3 x1 x2 b x3 r x4 x5 = if x1 < 0 ∨ x2 < 0 ∨ 64 < x2 then some (1, x4, x5) else some (0, x1, x2) := by
  unfold F_block_Device_Arm_3
  by_cases c1 : x1 < 0
  · rw [if_pos (by rw [pilt]; exact c1), if_pos (.inl c1)]
  · rw [if_neg (by rw [pilt]; exact c1)]
    by_cases c2 : x2 < 0
    · rw [if_pos (by rw [pilt]; exact c2), if_pos (.inr (.inl c2))]
    · rw [if_neg (by rw [pilt]; exact c2)]
      by_cases c3 : 64 < x2
      · rw [if_pos (by rw [pilt]; exact c3), if_pos (.inr (.inr c3))]
      · rw [if_neg (by rw [pilt]; exact c3), if_neg (by omega)]

/-- A step's number of writes fits. -/
def StepsOk (r1 : List D) : Prop := ∀ k, k < r1.length → D.toI (D.fld (getD r1 k) 1) ≤ 9223372036854775807
theorem does_loop {r1 : List D} (hs : StepsOk r1) (hr1 : r1.length ≤ 1000) {n : Nat} (hn : n ≤ 2000) : ∀ (m i : Nat), i + m = r1.length →
    (∀ (b : Bool) (x y : Int) (r q : List D), Rel r q → q.length = n → iter (F_tollbarlaw31_BlockDoes_L3 r1) (.inl ((n : Int), (i : Int), b, x, b, -1, y, x, r, q)) = some true) ∧
    (∀ (b : Bool) (x z u : Int) (r q : List D), Rel r q → q.length = n → 0 ≤ z → z ≤ 9223372036854775807 → 0 ≤ u → u ≤ 64 → iter (F_tollbarlaw31_BlockDoes_L3 r1) (.inr ((n : Int), (i : Int), b, x, b, z, u, x, r, z, u, q)) = some true) := by
  intro m
  have he : ∀ x : Int, ieq x x = true := fun x => by rw [pieq]
  have hb2 : ∀ x : Bool, beq2 x x = true := fun x => by rw [pbeq2]
  have hsq : ∀ x : List UInt8, seq x x = true := fun x => by rw [pseq]
  induction m with
  | zero =>
    intro i hi
    constructor
    · intro b x y r q hR hq
      apply iter_inr
      unfold F_tollbarlaw31_BlockDoes_L3
      dsimp only
      rw [if_neg (by rw [pilt]; simp only [ofN, xlen]; omega)]
      unfold F_block_Device_Up
      dsimp only
      rw [show (0 : Int) = ((0 : Nat) : Int) from rfl, does_end4 hR hq hn n 0 (by omega)]
      rfl
    · intro b x z u r q hR hq _ _ _ _
      apply iter_inr
      unfold F_tollbarlaw31_BlockDoes_L3
      dsimp only
      rw [if_neg (by rw [pilt]; simp only [ofN, xlen]; omega)]
      unfold F_block_Device_Up_2
      dsimp only
      rw [show (0 : Int) = ((0 : Nat) : Int) from rfl, does_end5 hR hq hn 0 (by omega)]
      rfl
  | succ m ih =>
    intro i hi
    obtain ⟨ih1, ih2⟩ := ih (i + 1) (by omega)
    have hS := hs i (by omega)
    obtain ⟨S, eS⟩ : ∃ S, S = getD r1 i := ⟨_, rfl⟩
    rw [← eS] at hS
    obtain ⟨K, eK⟩ : ∃ K, K = D.toI (D.fld S 0) := ⟨_, rfl⟩
    obtain ⟨A, eA⟩ : ∃ A, A = D.toI (D.fld S 1) := ⟨_, rfl⟩
    obtain ⟨P, eP⟩ : ∃ P, P = D.toI (D.fld S 2) := ⟨_, rfl⟩
    obtain ⟨B, eB⟩ : ∃ B, B = D.toS (D.fld S 3) := ⟨_, rfl⟩
    rw [← eA] at hS
    have eN : iadd .i64 (i : Int) 1 = ((i + 1 : Nat) : Int) := pnext (by omega)
    constructor
    · intro b x y r q hR hq
      have hrl : r.length = q.length := hR.len
      by_cases c0 : 100 < (B.length : Int)
      · apply iter_inr
        unfold F_tollbarlaw31_BlockDoes_L3
        dsimp only
        rw [ptoN, ← eS, ← eB, if_pos (by rw [pilt]; simp only [ofN, xlen]; omega), if_pos (by simp only [ofN, xlen]; omega), if_pos (by rw [pilt]; simp only [ofN, xlen]; omega)]
      · by_cases k0 : K = 0
        · -- a write
          by_cases cw : wV b q.length A B = 0
          · obtain ⟨g1, g2, g3, g4⟩ := wV0 cw
            rw [← ih1 b (iadd .i64 x 1) y (setD r (toN A) (arr64 B)) (setD q (toN A) (.s B)) (hR.set (by simp only [toN]; omega) (Is.arr g4)) (by simp [setD, hq])]
            apply iter_inl
            unfold F_tollbarlaw31_BlockDoes_L3
            dsimp only
            rw [ptoN, ← eS, ← eB, ← eK, ← eA, if_pos (by rw [pilt]; simp only [ofN, xlen]; omega), if_pos (by simp only [ofN, xlen]; omega), if_neg (by rw [pilt]; simp only [ofN, xlen]; omega), if_pos (by rw [pieq]; exact k0),
              p_rwrite _ _ _ _ _ _ (by omega) hR.l64 (fun h => by omega), if_pos cw, if_neg (by omega), if_neg (by omega)]
            dsimp only
            rw [p_write, hrl, if_pos cw]
            dsimp only
            unfold F_block_Device_Down F_block_Device_Writes
            dsimp only
            rw [if_pos (he _), if_pos (hb2 _), if_pos (he _), eN]
          · rw [← ih1 b x y r q hR hq]
            apply iter_inl
            unfold F_tollbarlaw31_BlockDoes_L3
            dsimp only
            rw [ptoN, ← eS, ← eB, ← eK, ← eA, if_pos (by rw [pilt]; simp only [ofN, xlen]; omega), if_pos (by simp only [ofN, xlen]; omega), if_neg (by rw [pilt]; simp only [ofN, xlen]; omega), if_pos (by rw [pieq]; exact k0),
              p_rwrite _ _ _ _ _ _ (by omega) hR.l64 (fun h => by omega), if_neg cw]
            dsimp only
            rw [p_write, hrl, if_neg cw]
            dsimp only
            unfold F_block_Device_Down F_block_Device_Writes
            dsimp only
            rw [if_pos (he _), if_pos (hb2 _), if_pos (he _), eN]
        · by_cases k1 : K = 1
          · rw [← ih1 b x y r q hR hq]
            apply iter_inl
            unfold F_tollbarlaw31_BlockDoes_L3
            dsimp only
            rw [ptoN, ← eS, ← eB, ← eK, ← eA, if_pos (by rw [pilt]; simp only [ofN, xlen]; omega), if_pos (by simp only [ofN, xlen]; omega), if_neg (by rw [pilt]; simp only [ofN, xlen]; omega), if_neg (by rw [pieq]; exact k0), if_pos (by rw [pieq]; exact k1), p_read hR, p_rread]
            dsimp only
            unfold F_block_Device_Down F_block_Device_Writes
            dsimp only
            rw [if_pos (hsq _), if_pos (he _), if_pos (hb2 _), if_pos (he _), eN]
          · by_cases k2 : K = 2
            · by_cases ca : A < 0 ∨ P < 0 ∨ 64 < P
              · rw [← ih1 b x y r q hR hq]
                apply iter_inl
                unfold F_tollbarlaw31_BlockDoes_L3
                dsimp only
                rw [ptoN, ← eS, ← eB, ← eK, ← eA, ← eP, if_pos (by rw [pilt]; simp only [ofN, xlen]; omega), if_pos (by simp only [ofN, xlen]; omega), if_neg (by rw [pilt]; simp only [ofN, xlen]; omega), if_neg (by rw [pieq]; exact k0), if_neg (by rw [pieq]; exact k1), if_pos (by rw [pieq]; exact k2), armV, if_pos ca]
                dsimp only
                rw [armD, if_pos ca]
                dsimp only
                unfold F_block_Device_Down F_block_Device_Writes
                dsimp only
                rw [if_pos (he _), if_pos (hb2 _), if_pos (he _), eN]
              · rw [← ih2 b x A P r q hR hq (by omega) hS (by omega) (by omega)]
                apply iter_inl
                unfold F_tollbarlaw31_BlockDoes_L3
                dsimp only
                rw [ptoN, ← eS, ← eB, ← eK, ← eA, ← eP, if_pos (by rw [pilt]; simp only [ofN, xlen]; omega), if_pos (by simp only [ofN, xlen]; omega), if_neg (by rw [pilt]; simp only [ofN, xlen]; omega), if_neg (by rw [pieq]; exact k0), if_neg (by rw [pieq]; exact k1), if_pos (by rw [pieq]; exact k2), armV, if_neg ca]
                dsimp only
                rw [armD, if_neg ca]
                dsimp only
                unfold F_block_Device_Down_2 F_block_Device_Writes_3
                dsimp only
                rw [if_pos (he _), if_pos (hb2 _), if_pos (he _), eN]
            · by_cases k3 : K = 3
              · rw [← ih1 false x 0 r q hR hq]
                apply iter_inl
                unfold F_tollbarlaw31_BlockDoes_L3
                dsimp only
                rw [ptoN, ← eS, ← eB, ← eK, ← eA, ← eP, if_pos (by rw [pilt]; simp only [ofN, xlen]; omega), if_pos (by simp only [ofN, xlen]; omega), if_neg (by rw [pilt]; simp only [ofN, xlen]; omega), if_neg (by rw [pieq]; exact k0), if_neg (by rw [pieq]; exact k1), if_neg (by rw [pieq]; exact k2), if_pos (by rw [pieq]; exact k3)]
                unfold F_block_Device_Up F_tollbarref31_Up F_block_Device_Down F_block_Device_Writes
                dsimp only
                rw [if_pos (hb2 _), if_pos (he _), eN]
              · rw [← ih1 b x y r q hR hq]
                apply iter_inl
                unfold F_tollbarlaw31_BlockDoes_L3
                dsimp only
                rw [ptoN, ← eS, ← eB, ← eK, ← eA, ← eP, if_pos (by rw [pilt]; simp only [ofN, xlen]; omega), if_pos (by simp only [ofN, xlen]; omega), if_neg (by rw [pilt]; simp only [ofN, xlen]; omega), if_neg (by rw [pieq]; exact k0), if_neg (by rw [pieq]; exact k1), if_neg (by rw [pieq]; exact k2), if_neg (by rw [pieq]; exact k3)]
                unfold F_block_Device_Down F_block_Device_Writes
                dsimp only
                rw [if_pos (hb2 _), if_pos (he _), eN]
    · intro b x z u r q hR hq hz hz2 hu hu2
      have hrl : r.length = q.length := hR.len
      by_cases c0 : 100 < (B.length : Int)
      · apply iter_inr
        unfold F_tollbarlaw31_BlockDoes_L3
        dsimp only
        rw [ptoN, ← eS, ← eB, if_pos (by rw [pilt]; simp only [ofN, xlen]; omega), if_pos (by simp only [ofN, xlen]; omega), if_pos (by rw [pilt]; simp only [ofN, xlen]; omega)]
      · by_cases k0 : K = 0
        · -- a write
          by_cases cw : wV b q.length A B = 0
          · obtain ⟨g1, g2, g3, g4⟩ := wV0 cw
            by_cases cz : z = 0
            · have hk : toN A < q.length := by simp only [toN]; omega
              have hI := (hR.at_ _ hk).cp (s := B.take (toN u)) (by rw [List.length_take]; omega)
              have hlen : (B.take (toN u)).length = toN u := by rw [List.length_take]; simp only [toN]; omega
              rw [hlen] at hI
              rw [← ih1 true x 0 (setD r (toN A) (cpA 64 (getD r (toN A)) (B.take (toN u)))) (setD q (toN A) (.s (B.take (toN u) ++ (D.toS (getD q (toN A))).drop (toN u)))) (hR.set hk hI) (by simp [setD, hq])]
              apply iter_inl
              unfold F_tollbarlaw31_BlockDoes_L3
              dsimp only
              rw [ptoN, ← eS, ← eB, ← eK, ← eA, if_pos (by rw [pilt]; simp only [ofN, xlen]; omega), if_pos (by simp only [ofN, xlen]; omega), if_neg (by rw [pilt]; simp only [ofN, xlen]; omega), if_pos (by rw [pieq]; exact k0),
                p_rwrite _ _ _ _ _ _ (by omega) hR.l64 (fun h => ⟨hu, hu2⟩), if_pos cw, if_pos cz]
              dsimp only
              rw [p_write2 _ _ _ _ _ _ _ ⟨hu, hu2⟩, hrl, if_pos cw, if_pos cz]
              dsimp only
              unfold F_block_Device_Down F_block_Device_Writes
              dsimp only
              rw [if_pos (he _), if_pos (hb2 _), if_pos (he _), eN]
            · have hz3 : isub .i64 z 1 = z - 1 := by simp only [isub]; rw [pwi64 (by omega) (by omega)]
              rw [← ih2 b (iadd .i64 x 1) (isub .i64 z 1) u (setD r (toN A) (arr64 B)) (setD q (toN A) (.s B)) (hR.set (by simp only [toN]; omega) (Is.arr g4)) (by simp [setD, hq]) (by omega) (by omega) hu hu2]
              apply iter_inl
              unfold F_tollbarlaw31_BlockDoes_L3
              dsimp only
              rw [ptoN, ← eS, ← eB, ← eK, ← eA, if_pos (by rw [pilt]; simp only [ofN, xlen]; omega), if_pos (by simp only [ofN, xlen]; omega), if_neg (by rw [pilt]; simp only [ofN, xlen]; omega), if_pos (by rw [pieq]; exact k0),
                p_rwrite _ _ _ _ _ _ (by omega) hR.l64 (fun h => ⟨hu, hu2⟩), if_pos cw, if_neg cz, if_pos (by omega)]
              dsimp only
              rw [p_write2 _ _ _ _ _ _ _ ⟨hu, hu2⟩, hrl, if_pos cw, if_neg cz]
              dsimp only
              unfold F_block_Device_Down_2 F_block_Device_Writes_3
              dsimp only
              rw [if_pos (he _), if_pos (hb2 _), if_pos (he _), eN]
          · rw [← ih2 b x z u r q hR hq hz hz2 hu hu2]
            apply iter_inl
            unfold F_tollbarlaw31_BlockDoes_L3
            dsimp only
            rw [ptoN, ← eS, ← eB, ← eK, ← eA, if_pos (by rw [pilt]; simp only [ofN, xlen]; omega), if_pos (by simp only [ofN, xlen]; omega), if_neg (by rw [pilt]; simp only [ofN, xlen]; omega), if_pos (by rw [pieq]; exact k0),
              p_rwrite _ _ _ _ _ _ (by omega) hR.l64 (fun h => ⟨hu, hu2⟩), if_neg cw]
            dsimp only
            rw [p_write2 _ _ _ _ _ _ _ ⟨hu, hu2⟩, hrl, if_neg cw]
            dsimp only
            unfold F_block_Device_Down_2 F_block_Device_Writes_3
            dsimp only
            rw [if_pos (he _), if_pos (hb2 _), if_pos (he _), eN]
        · by_cases k1 : K = 1
          · rw [← ih2 b x z u r q hR hq hz hz2 hu hu2]
            apply iter_inl
            unfold F_tollbarlaw31_BlockDoes_L3
            dsimp only
            rw [ptoN, ← eS, ← eB, ← eK, ← eA, if_pos (by rw [pilt]; simp only [ofN, xlen]; omega), if_pos (by simp only [ofN, xlen]; omega), if_neg (by rw [pilt]; simp only [ofN, xlen]; omega), if_neg (by rw [pieq]; exact k0), if_pos (by rw [pieq]; exact k1), p_read3 hR, p_rread]
            dsimp only
            unfold F_block_Device_Down_2 F_block_Device_Writes_3
            dsimp only
            rw [if_pos (hsq _), if_pos (he _), if_pos (hb2 _), if_pos (he _), eN]
          · by_cases k2 : K = 2
            · by_cases ca : A < 0 ∨ P < 0 ∨ 64 < P
              · rw [← ih2 b x z u r q hR hq hz hz2 hu hu2]
                apply iter_inl
                unfold F_tollbarlaw31_BlockDoes_L3
                dsimp only
                rw [ptoN, ← eS, ← eB, ← eK, ← eA, ← eP, if_pos (by rw [pilt]; simp only [ofN, xlen]; omega), if_pos (by simp only [ofN, xlen]; omega), if_neg (by rw [pilt]; simp only [ofN, xlen]; omega), if_neg (by rw [pieq]; exact k0), if_neg (by rw [pieq]; exact k1), if_pos (by rw [pieq]; exact k2), armV, if_pos ca]
                dsimp only
                rw [armD3, if_pos ca]
                dsimp only
                unfold F_block_Device_Down_2 F_block_Device_Writes_3
                dsimp only
                rw [if_pos (he _), if_pos (hb2 _), if_pos (he _), eN]
              · rw [← ih2 b x A P r q hR hq (by omega) hS (by omega) (by omega)]
                apply iter_inl
                unfold F_tollbarlaw31_BlockDoes_L3
                dsimp only
                rw [ptoN, ← eS, ← eB, ← eK, ← eA, ← eP, if_pos (by rw [pilt]; simp only [ofN, xlen]; omega), if_pos (by simp only [ofN, xlen]; omega), if_neg (by rw [pilt]; simp only [ofN, xlen]; omega), if_neg (by rw [pieq]; exact k0), if_neg (by rw [pieq]; exact k1), if_pos (by rw [pieq]; exact k2), armV, if_neg ca]
                dsimp only
                rw [armD3, if_neg ca]
                dsimp only
                unfold F_block_Device_Down_2 F_block_Device_Writes_3
                dsimp only
                rw [if_pos (he _), if_pos (hb2 _), if_pos (he _), eN]
            · by_cases k3 : K = 3
              · rw [← ih1 false x 0 r q hR hq]
                apply iter_inl
                unfold F_tollbarlaw31_BlockDoes_L3
                dsimp only
                rw [ptoN, ← eS, ← eB, ← eK, ← eA, ← eP, if_pos (by rw [pilt]; simp only [ofN, xlen]; omega), if_pos (by simp only [ofN, xlen]; omega), if_neg (by rw [pilt]; simp only [ofN, xlen]; omega), if_neg (by rw [pieq]; exact k0), if_neg (by rw [pieq]; exact k1), if_neg (by rw [pieq]; exact k2), if_pos (by rw [pieq]; exact k3)]
                unfold F_block_Device_Up_2 F_tollbarref31_Up F_block_Device_Down F_block_Device_Writes
                dsimp only
                rw [if_pos (hb2 _), if_pos (he _), eN]
              · rw [← ih2 b x z u r q hR hq hz hz2 hu hu2]
                apply iter_inl
                unfold F_tollbarlaw31_BlockDoes_L3
                dsimp only
                rw [ptoN, ← eS, ← eB, ← eK, ← eA, ← eP, if_pos (by rw [pilt]; simp only [ofN, xlen]; omega), if_pos (by simp only [ofN, xlen]; omega), if_neg (by rw [pilt]; simp only [ofN, xlen]; omega), if_neg (by rw [pieq]; exact k0), if_neg (by rw [pieq]; exact k1), if_neg (by rw [pieq]; exact k2), if_neg (by rw [pieq]; exact k3)]
                unfold F_block_Device_Down_2 F_block_Device_Writes_3
                dsimp only
                rw [if_pos (hb2 _), if_pos (he _), eN]

theorem does_law {x : Int} {r1 : List D} (hx : 0 ≤ x ∧ x < 256) (hs : StepsOk r1) : F_tollbarlaw31_BlockDoes x r1 = some true := by
  obtain ⟨n, rfl⟩ : ∃ n : Nat, x = (n : Int) := ⟨x.toNat, by omega⟩
  have ec : iconv .i64 (n : Int) = (n : Int) := by simp only [iconv]; rw [pwi64 (by omega) (by omega)]
  unfold F_tollbarlaw31_BlockDoes
  rw [p_awake, ec]
  dsimp only
  rw [if_pos rfl]
  by_cases hl : 100 < r1.length
  · rw [if_pos (by rw [pilt]; simp only [ofN, xlen]; omega)]
  · rw [if_neg (by rw [pilt]; simp only [ofN, xlen]; omega)]
    by_cases h0 : n = 0
    · subst h0
      have e : F_block_New ((0 : Nat) : Int) = some (.inl ()) := by rw [new_eq, if_pos (by rw [pilt]; decide)]
      have e2 : F_block_New 1025 = some (.inl ()) := by rw [new_eq, if_neg (by rw [pilt]; decide), if_pos (by rw [pilt]; decide)]
      have e3 : F_block_Device_Write_3 0 [] = some () := by decide +kernel
      rw [e]
      dsimp only
      rw [if_pos (by decide), e3]
      dsimp only
      rw [if_pos (by decide)]
      unfold F_block_Device_Arm_2
      dsimp only
      rw [if_pos (by decide)]
      unfold F_block_Device_Down_3 F_block_Device_Writes_2 F_block_Device_Blocks_2
      dsimp only
      rw [if_pos (by decide), e2]
    · obtain ⟨q, e1, e2, e3⟩ := p_rnew (n := n) (by omega)
      rw [p_new (by omega), e1]
      dsimp only
      rw [if_neg (by rw [pieq]; omega)]
      exact (does_loop hs (by omega) (by omega) r1.length 0 (by omega)).1 false 0 0 _ _ (Rel.start e2 e3) e2
theorem p_BlockDoes (x : Int) (r : List D) (h1 : (Lit.int .u8 x).wf = true) (h2 : (Ty.row 35 (.st [.int .i64, .int .i64, .int .i64, .str])).rng (.l r)) : F_tollbarlaw31_BlockDoes x r = some true := by
  refine does_law (wf_u8 h1) fun k hk => ?_
  simp only [Ty.rng, Ty.rngL, D.toL] at h2
  have e : getD r k = r[k] := pgetD hk
  rw [e]
  exact (wf_i64 (h2.2 _ (List.getElem_mem hk)).2.1).2
end Go.Proofs.Ytcdjpciocamkiaa
end
section
/-
  BlockTears and BlockOthers, in plain words.
-/
set_option linter.unusedVariables false
set_option linter.unusedSimpArgs false
set_option maxRecDepth 10000
namespace Go.Proofs.Ytcdjpciocamkiaa

def rep64 (c : UInt8) : List UInt8 := List.replicate 64 c
theorem filled_loop {x : Int} (hx : 0 ≤ x ∧ x < 256) : ∀ (m i : Nat) (s : List UInt8), i + m = 64 → s = List.replicate i (byteOf x) ++ List.replicate m 0 →
    iter (F_tollbarlaw31_filled_L1 x) ((i : Int), s) = some (rep64 (byteOf x)) := by
  intro m
  induction m with
  | zero =>
    intro i s hi hs
    apply iter_inr
    unfold F_tollbarlaw31_filled_L1
    dsimp only
    rw [if_neg (by rw [pilt]; omega), hs]
    obtain rfl : i = 64 := by omega
    simp [rep64]
  | succ m ih =>
    intro i s hi hs
    have hl : s.length = 64 := by rw [hs]; simp; omega
    rw [← ih (i + 1) (setB s i x) (by omega) (by
      rw [hs]
      apply List.ext_getElem
      · simp [setB]; omega
      · intro k h1 h2
        simp only [setB, List.getElem_set]
        by_cases e : i = k
        · subst e
          simp [byteOf, List.getElem_append]
        · rw [if_neg e]
          simp only [List.getElem_append, List.length_replicate, List.getElem_replicate]
          by_cases c : k < i
          · rw [dif_pos c, dif_pos (by omega)]
          · rw [dif_neg c, dif_neg (by omega)])]
    apply iter_inl
    unfold F_tollbarlaw31_filled_L1
    dsimp only
    rw [if_pos (by rw [pilt]; omega), if_pos (by simp only [ofN, xlen]; omega), if_pos hx, pnext (by omega)]
    rfl
theorem p_filled {x : Int} (hx : 0 ≤ x ∧ x < 256) : F_tollbarlaw31_filled x = some (rep64 (byteOf x)) := by
  unfold F_tollbarlaw31_filled
  rw [if_pos (by decide)]
  exact filled_loop hx 64 0 _ (by omega) rfl
theorem rep_len (c : UInt8) : (rep64 c).length = 64 := by simp [rep64]
theorem p_filledB (l : List UInt8) (i : Nat) : F_tollbarlaw31_filled (getB l i) = some (rep64 (l.getD i 0)) := by
  rw [p_filled (getB_rng l i)]
  show some (rep64 (byteOf ((l.getD i 0).toNat : Int))) = _
  rw [byteOf_toNat]

/-- What so many blocks hold. -/
structure Holds (r : List D) (n : Nat) (f : Nat → List UInt8) : Prop where
  len : r.length = n
  at_ : ∀ k, k < n → Is (getD r k) (f k)
theorem Holds.set {r : List D} {n : Nat} {f g : Nat → List UInt8} (h : Holds r n f) {k : Nat} (hk : k < n) {d : D} {s : List UInt8} (hi : Is d s) (hg : ∀ j, j < n → g j = if j = k then s else f j) : Holds (setD r k d) n g := by
  have hl := h.len
  refine ⟨by simp [setD, hl], fun j hj => ?_⟩
  rw [hg j hj]
  by_cases e : j = k
  · subst e
    have e1 : getD (setD r j d) j = d := by simp [getD, setD, hl, hj]
    rw [e1, if_pos rfl]
    exact hi
  · have e1 : getD (setD r k d) j = getD r j := by simp [getD, setD, List.getElem?_set_ne (Ne.symm e)]
    rw [e1, if_neg e]
    exact h.at_ j hj
theorem Holds.congr {r : List D} {n : Nat} {f g : Nat → List UInt8} (h : Holds r n f) (hg : ∀ j, j < n → g j = f j) : Holds r n g :=
  ⟨h.len, fun k hk => by rw [hg k hk]; exact h.at_ k hk⟩
theorem Holds.rel {r : List D} {n : Nat} {f : Nat → List UInt8} (h : Holds r n f) : Rel r ((List.range n).map fun k => .s (f k)) := by
  refine ⟨by simp [h.len], fun k hk => ?_⟩
  have hk' : k < n := by simpa using hk
  have : getD ((List.range n).map fun k => D.s (f k)) k = .s (f k) := by rw [pgetD hk]; simp
  rw [this]
  exact h.at_ k hk'
theorem Holds.read {r : List D} {n : Nat} {f : Nat → List UInt8} (h : Holds r n f) {i : Nat} (hi : i < n) (y : Int) : F_block_Device_Read (i : Int) false y r = some (0, f i) := by
  have hl : ((List.range n).map fun k => D.s (f k)).length = n := by simp
  have hm : mayV false ((List.range n).map fun k => D.s (f k)).length (i : Int) = 0 := by
    rw [hl]
    unfold mayV
    rw [if_neg (by simp), if_neg (by omega), if_neg (by omega)]
  have hr : readV false ((List.range n).map fun k => D.s (f k)) (i : Int) = f i := by
    unfold readV
    rw [if_pos hm, ptoN, pgetD (by simpa using hi)]
    simp [D.toS]
  rw [p_read h.rel, hm, hr]
theorem Holds.write {r : List D} {n : Nat} {f : Nat → List UInt8} (h : Holds r n f) {i : Nat} (hi : i < n) (y : Int) {s : List UInt8} (hs : s.length = 64) :
    F_block_Device_Write (i : Int) s false y r = some (0, iadd .i64 y 1, setD r i (arr64 s)) := by
  rw [p_write, if_pos (wV_of (by omega) (by rw [h.len]; omega) hs), ptoN]
theorem write_down {r : List D} {i y : Int} {s : List UInt8} : F_block_Device_Write i s true y r = some (3, y, r) := by
  rw [p_write]
  have : wV true r.length i s = 3 := by unfold wV mayV; simp
  rw [if_neg (by omega), this]
theorem Holds.write2 {r : List D} {n : Nat} {f : Nat → List UInt8} (h : Holds r n f) {i : Nat} (hi : i < n) (y z : Int) {u : Nat} (hu : u ≤ 64) {s : List UInt8} (hs : s.length = 64) :
    F_block_Device_Write_2 (i : Int) s false y r z (u : Int) = if z = 0 then some (.inr (setD r i (cpA 64 (getD r i) (s.take u)))) else some (.inl (0, iadd .i64 y 1, setD r i (arr64 s), isub .i64 z 1)) := by
  rw [p_write2 _ _ _ _ _ _ _ ⟨by omega, by omega⟩, if_pos (wV_of (by omega) (by rw [h.len]; omega) hs), ptoN, ptoN]
theorem Is.torn {d : D} {bs s : List UInt8} (h : Is d bs) (hs : s.length = 64) {u : Nat} (hu : u ≤ 64) : Is (cpA 64 d (s.take u)) (s.take u ++ bs.drop u) := by
  have := h.cp (s := s.take u) (by rw [List.length_take]; omega)
  rwa [show (s.take u).length = u by rw [List.length_take]; omega] at this

/-- What a byte should be. -/
def wantV (s1 s2 : List UInt8) (w K i j : Nat) : Int := if i < s2.length ∧ (i < w ∨ (i = w ∧ j < K)) then getB s2 i else getB s1 i
theorem getB_out {l : List UInt8} {i : Nat} (h : l.length ≤ i) : getB l i = 0 := by simp [getB, List.getElem?_eq_none h]
theorem tears_step {s1 s2 s : List UInt8} {w K i j : Nat} {y : Int} {r : List D} (hj : j < 64) (hs : s.length = 64) (hv : getB s j = wantV s1 s2 w K i j) :
    F_tollbarlaw31_BlockTears_L13 (i : Int) s1 s2 (w : Int) (K : Int) y r ((j : Int), s) = some (.inl (((j + 1 : Nat) : Int), setB s j 77)) := by
  have step : ∀ V : Int, getB s j = V → (if 0 ≤ (j : Int) ∧ (j : Int) < ofN (xlen s) then
      if (ieq (getB s (toN (j : Int))) V) = true then if 0 ≤ (j : Int) ∧ (j : Int) < ofN (xlen s) then if 0 ≤ (77 : Int) ∧ (77 : Int) < 256 then
        (some (.inl ((iadd .i64 (j : Int) 1), (setB s (toN (j : Int)) 77))) : Option ((Int × List UInt8) ⊕ (Int ⊕ Bool))) else none else none else some (.inr (.inr false)) else none) = some (.inl (((j + 1 : Nat) : Int), setB s j 77)) := by
    intro V h
    rw [if_pos (by simp only [ofN, xlen]; omega), if_pos (by rw [pieq, ptoN]; exact h), if_pos (by simp only [ofN, xlen]; omega), if_pos (by decide), pnext (by omega)]
    rfl
  unfold F_tollbarlaw31_BlockTears_L13
  dsimp only
  unfold wantV at hv
  rw [if_pos (by rw [pilt]; omega)]
  by_cases a1 : i < s1.length
  · rw [if_pos (by rw [pilt]; simp only [ofN, xlen]; omega), if_pos (by simp only [ofN, xlen]; omega)]
    by_cases a2 : i < s2.length
    · rw [if_pos (by rw [pilt]; simp only [ofN, xlen]; omega)]
      by_cases a3 : i < w
      · rw [if_pos (by rw [pilt]; omega), if_pos (by simp only [ofN, xlen]; omega)]
        exact step _ (by rw [hv, if_pos ⟨a2, .inl a3⟩]; rfl)
      · rw [if_neg (by rw [pilt]; omega)]
        by_cases a4 : i = w
        · rw [if_pos (by rw [pieq]; omega)]
          by_cases a5 : j < K
          · rw [if_pos (by rw [pilt]; omega), if_pos (by simp only [ofN, xlen]; omega)]
            exact step _ (by rw [hv, if_pos ⟨a2, .inr ⟨a4, a5⟩⟩]; rfl)
          · rw [if_neg (by rw [pilt]; omega)]
            exact step _ (by rw [hv, if_neg (by omega)]; rfl)
        · rw [if_neg (by rw [pieq]; omega)]
          exact step _ (by rw [hv, if_neg (by omega)]; rfl)
    · rw [if_neg (by rw [pilt]; simp only [ofN, xlen]; omega)]
      exact step _ (by rw [hv, if_neg (by omega)]; rfl)
  · rw [if_neg (by rw [pilt]; simp only [ofN, xlen]; omega)]
    have z1 : getB s1 i = 0 := getB_out (by omega)
    by_cases a2 : i < s2.length
    · rw [if_pos (by rw [pilt]; simp only [ofN, xlen]; omega)]
      by_cases a3 : i < w
      · rw [if_pos (by rw [pilt]; omega), if_pos (by simp only [ofN, xlen]; omega)]
        exact step _ (by rw [hv, if_pos ⟨a2, .inl a3⟩]; rfl)
      · rw [if_neg (by rw [pilt]; omega)]
        by_cases a4 : i = w
        · rw [if_pos (by rw [pieq]; omega)]
          by_cases a5 : j < K
          · rw [if_pos (by rw [pilt]; omega), if_pos (by simp only [ofN, xlen]; omega)]
            exact step _ (by rw [hv, if_pos ⟨a2, .inr ⟨a4, a5⟩⟩]; rfl)
          · rw [if_neg (by rw [pilt]; omega)]
            exact step _ (by rw [hv, if_neg (by omega), z1])
        · rw [if_neg (by rw [pieq]; omega)]
          exact step _ (by rw [hv, if_neg (by omega), z1])
    · rw [if_neg (by rw [pilt]; simp only [ofN, xlen]; omega)]
      exact step _ (by rw [hv, if_neg (by omega), z1])
theorem getB_set {s : List UInt8} {j k : Nat} (h : j ≠ k) (x : Int) : getB (setB s j x) k = getB s k := by
  simp [getB, setB, List.getElem?_set_ne h]
theorem tears_end {s1 s2 s : List UInt8} {w K i n : Nat} {y : Int} {r : List D} {f : Nat → List UInt8} (hR : Holds r n f) (hi : i < n) (hn : n ≤ 2000) (hv : getB (f i) 63 = wantV s1 s2 w K i 63) :
    F_tollbarlaw31_BlockTears_L13 (i : Int) s1 s2 (w : Int) (K : Int) y r ((64 : Nat), s) = some (.inr (.inl ((i + 1 : Nat) : Int))) := by
  have hl := (hR.at_ i hi).len
  unfold F_tollbarlaw31_BlockTears_L13
  dsimp only
  unfold wantV at hv
  rw [if_neg (by rw [pilt]; omega), hR.read hi]
  dsimp only
  rw [if_pos (by rw [pieq]; simp only [ofN, xlen]; omega), if_pos (by simp only [ofN, xlen]; omega), show toN (63 : Int) = 63 from rfl, pnext (by omega), ptoN]
  by_cases c : getB (f i) 63 = 77
  · rw [if_pos (by rw [pieq]; exact c)]
    by_cases a1 : i < s1.length
    · rw [if_neg (by rw [pile]; simp only [ofN, xlen]; omega), if_pos (by simp only [ofN, xlen]; omega)]
      by_cases b1 : getB s1 i = 77
      · rw [if_pos (by rw [pieq]; exact b1)]
      · rw [if_neg (by rw [pieq]; exact b1)]
        by_cases a2 : i < s2.length
        · rw [if_neg (by rw [pile]; simp only [ofN, xlen]; omega), if_pos (by simp only [ofN, xlen]; omega), if_pos (by
            rw [pieq]
            split at hv
            · omega
            · omega)]
        · rw [if_neg (by omega)] at hv
          omega
    · have z1 : getB s1 i = 0 := getB_out (by omega)
      rw [if_pos (by rw [pile]; simp only [ofN, xlen]; omega)]
      by_cases a2 : i < s2.length
      · rw [if_neg (by rw [pile]; simp only [ofN, xlen]; omega), if_pos (by simp only [ofN, xlen]; omega), if_pos (by
          rw [pieq]
          split at hv
          · omega
          · omega)]
      · rw [if_neg (by omega)] at hv
        omega
  · rw [if_neg (by rw [pieq]; exact c)]
theorem tears_in {s1 s2 : List UInt8} {w K i n : Nat} {y : Int} {r : List D} {f : Nat → List UInt8} (hR : Holds r n f) (hi : i < n) (hn : n ≤ 2000) (hv : ∀ j, j < 64 → getB (f i) j = wantV s1 s2 w K i j) :
    ∀ (m j : Nat) (s : List UInt8), j + m = 64 → s.length = 64 → (∀ k, j ≤ k → k < 64 → getB s k = getB (f i) k) →
      iter (F_tollbarlaw31_BlockTears_L13 (i : Int) s1 s2 (w : Int) (K : Int) y r) ((j : Int), s) = some (.inl ((i + 1 : Nat) : Int)) := by
  intro m
  induction m with
  | zero =>
    intro j s hj hs hk
    obtain rfl : j = 64 := by omega
    exact iter_inr (tears_end hR hi hn (hv 63 (by omega)))
  | succ m ih =>
    intro j s hj hs hk
    rw [← ih (j + 1) (setB s j 77) (by omega) (by simpa [setB] using hs) (fun k h1 h2 => by rw [getB_set (by omega)]; exact hk k (by omega) h2)]
    exact iter_inl (tears_step (by omega) hs (by rw [hk j (Nat.le_refl _) (by omega)]; exact hv j (by omega)))
theorem tears_all {s1 s2 : List UInt8} {w K : Nat} {y : Int} {r : List D} {f : Nat → List UInt8} (hR : Holds r 40 f) (hv : ∀ i j, i < 40 → j < 64 → getB (f i) j = wantV s1 s2 w K i j) :
    ∀ (m i : Nat), i + m = 40 → iter (F_tollbarlaw31_BlockTears_L12 y r s1 s2 (w : Int) (K : Int)) (i : Int) = some true := by
  intro m
  induction m with
  | zero =>
    intro i hi
    apply iter_inr
    unfold F_tollbarlaw31_BlockTears_L12
    rw [if_neg (by rw [pilt]; omega)]
  | succ m ih =>
    intro i hi
    have hl := (hR.at_ i (by omega)).len
    rw [← ih (i + 1) (by omega)]
    apply iter_inl
    unfold F_tollbarlaw31_BlockTears_L12
    rw [if_pos (by rw [pilt]; omega), hR.read (by omega)]
    dsimp only
    rw [if_pos (by rw [pieq]), if_pos (by rw [pieq]; simp only [ofN, xlen]; omega)]
    exact tears_in hR (by omega) (by omega) (fun j hj => hv i j (by omega) hj) 64 0 (f i) (by omega) hl (fun _ _ _ => rfl)
theorem L10_eq (y : Int) (r : List D) (s1 s2 : List UInt8) (x1 : Int) : F_tollbarlaw31_BlockTears_L10 y r s1 s2 x1 = F_tollbarlaw31_BlockTears_L12 y r s1 s2 (iconv .i64 (irem x1 256)) (irem (iconv .i64 (iquo .u16 x1 256)) 65) := rfl

/-- Ahead of the tear. -/
def front (s1 s2 : List UInt8) (i k : Nat) : List UInt8 := if k < i then rep64 (s2.getD k 0) else rep64 (s1.getD k 0)
/-- Behind it. -/
def torn (s1 s2 : List UInt8) (w K k : Nat) : List UInt8 := if k = w then (rep64 (s2.getD w 0)).take K ++ (rep64 (s1.getD w 0)).drop K else front s1 s2 w k
theorem getB_rep (l : List UInt8) (k j : Nat) (hj : j < 64) : getB (rep64 (l.getD k 0)) j = getB l k := by
  rw [pgetB (by rw [rep_len]; exact hj)]
  simp only [rep64, List.getElem_replicate]
  rfl
theorem front_want {s1 s2 : List UInt8} {w K i j : Nat} (hw : s2.length ≤ w) (hj : j < 64) : getB (front s1 s2 s2.length i) j = wantV s1 s2 w K i j := by
  unfold front wantV
  by_cases c : i < s2.length
  · rw [if_pos c, if_pos (by omega), getB_rep _ _ _ hj]
  · rw [if_neg c, if_neg (by omega), getB_rep _ _ _ hj]
theorem torn_want {s1 s2 : List UInt8} {w K i j : Nat} (hw : w < s2.length) (hK : K ≤ 64) (hj : j < 64) : getB (torn s1 s2 w K i) j = wantV s1 s2 w K i j := by
  unfold torn wantV
  by_cases c : i = w
  · subst c
    rw [if_pos rfl]
    have hl : ((rep64 (s2.getD i 0)).take K ++ (rep64 (s1.getD i 0)).drop K).length = 64 := by simp [rep_len]; omega
    by_cases c2 : j < K
    · rw [if_pos (by omega), ← getB_rep s2 i j hj, pgetB (by omega), pgetB (by rw [rep_len]; exact hj), List.getElem_append_left (by rw [List.length_take, rep_len]; omega), List.getElem_take]
    · rw [if_neg (by omega), ← getB_rep s1 i j hj, pgetB (by omega), pgetB (by rw [rep_len]; exact hj), List.getElem_append_right (by rw [List.length_take, rep_len]; omega), List.getElem_drop]
      congr 4
      rw [List.length_take, rep_len]
      omega
  · rw [if_neg c]
    unfold front
    by_cases c2 : i < w
    · rw [if_pos c2, if_pos (by omega), getB_rep _ _ _ hj]
    · rw [if_neg c2, if_neg (by omega), getB_rep _ _ _ hj]

/-- The second writes, behind the tear. -/
theorem tears_next2 {s1 s2 : List UInt8} {x1 : Int} {w K : Nat} (h2 : s2.length ≤ 40) (hK : K ≤ 64) (hw : w < s2.length) {y : Int} {r : List D} (hR : Holds r 40 (torn s1 s2 w K)) :
    ∀ (m i : Nat), i + m = s2.length → w < i → iter (F_tollbarlaw31_BlockTears_L9 s2 x1 s1) (.inr ((K : Int), (w : Int), (i : Int), y, r)) = some true := by
  intro m
  induction m with
  | zero =>
    intro i hi hwi
    apply iter_inr
    unfold F_tollbarlaw31_BlockTears_L9
    dsimp only
    rw [if_neg (by rw [pilt]; simp only [ofN, xlen]; omega)]
    unfold F_block_Device_Down F_block_Device_Up
    dsimp only
    rw [if_pos (by rw [pbeq2]; exact (pilt.mpr (by simp only [ofN, xlen]; omega)).symm), show (0 : Int) = ((0 : Nat) : Int) from rfl, tears_all hR (fun i j _ hj => torn_want hw hK hj) 40 0 (by omega)]
    rfl
  | succ m ih =>
    intro i hi hwi
    rw [← ih (i + 1) (by omega) (by omega)]
    apply iter_inl
    unfold F_tollbarlaw31_BlockTears_L9
    dsimp only
    have h1 : ilt (i : Int) (w : Int) = false := by simp [ilt]; omega
    rw [if_pos (by rw [pilt]; simp only [ofN, xlen]; omega), if_pos (by simp only [ofN, xlen]; omega), ptoN, p_filledB]
    dsimp only
    rw [write_down]
    dsimp only
    rw [h1, if_pos (by decide), if_neg (by decide), if_pos (by decide), pnext (by omega)]
theorem setD_toN (r : List D) (i : Nat) (d : D) : setD r (toN (i : Int)) d = setD r i d := rfl
/-- The second writes, ahead of the tear. -/
theorem tears_next {s1 s2 : List UInt8} {x1 : Int} {w K : Nat} (hw1 : iconv .i64 (irem x1 256) = (w : Int)) (hK1 : irem (iconv .i64 (iquo .u16 x1 256)) 65 = (K : Int)) (h2 : s2.length ≤ 40) (hK : K ≤ 64) (hw : w < 256) :
    ∀ (m i : Nat) (y : Int) (r : List D), i + m = s2.length → i ≤ w → Holds r 40 (front s1 s2 i) → iter (F_tollbarlaw31_BlockTears_L9 s2 x1 s1) (.inl ((i : Int), y, r, ((w - i : Nat) : Int))) = some true := by
  intro m
  induction m with
  | zero =>
    intro i y r hi hwi hR
    apply iter_inr
    unfold F_tollbarlaw31_BlockTears_L9
    dsimp only
    have h1 : ilt (w : Int) (ofN (xlen s2)) = false := by simp only [ilt, ofN, xlen]; exact decide_eq_false (by omega)
    rw [if_neg (by rw [pilt]; simp only [ofN, xlen]; omega)]
    unfold F_block_Device_Down_2 F_block_Device_Up_2
    dsimp only
    obtain rfl : i = s2.length := by omega
    rw [hw1, h1, if_pos (by decide), L10_eq, hw1, hK1, show (0 : Int) = ((0 : Nat) : Int) from rfl, tears_all hR (fun i j _ hj => front_want (by omega) hj) 40 0 (by omega)]
    rfl
  | succ m ih =>
    intro i y r hi hwi hR
    by_cases c : i = w
    · -- the tear
      have hR2 : Holds (setD r i (cpA 64 (getD r i) ((rep64 (s2.getD i 0)).take K))) 40 (torn s1 s2 w K) := by
        refine hR.set (by omega) ((hR.at_ i (by omega)).torn (rep_len _) hK) fun j hj => ?_
        subst c
        unfold torn
        by_cases e : j = i
        · subst e
          rw [if_pos rfl, if_pos rfl]
          unfold front
          rw [if_neg (by omega)]
        · rw [if_neg e, if_neg e]
      rw [← tears_next2 (x1 := x1) (y := y) h2 hK (by omega : w < s2.length) hR2 m (i + 1) (by omega) (by omega)]
      apply iter_inl
      unfold F_tollbarlaw31_BlockTears_L9
      dsimp only
      have h1 : ilt (i : Int) (w : Int) = false := by simp [ilt]; omega
      rw [if_pos (by rw [pilt]; simp only [ofN, xlen]; omega), if_pos (by simp only [ofN, xlen]; omega), ptoN, p_filledB]
      dsimp only
      rw [hK1, hR.write2 (by omega) _ _ hK (rep_len _), if_pos (by omega)]
      dsimp only
      rw [hw1, h1, if_pos (by decide), if_neg (by decide), if_pos (by decide), pnext (by omega)]
    · have hz : isub .i64 ((w - i : Nat) : Int) 1 = ((w - (i + 1) : Nat) : Int) := by simp only [isub]; rw [pwi64 (by omega) (by omega)]; omega
      rw [← ih (i + 1) (iadd .i64 y 1) (setD r i (arr64 (rep64 (s2.getD i 0)))) (by omega) (by omega) (hR.set (by omega) (Is.arr (rep_len _)) fun j hj => by
        unfold front
        by_cases e : j = i
        · subst e; rw [if_pos (by omega), if_pos rfl]
        · rw [if_neg e]
          by_cases e2 : j < i
          · rw [if_pos (by omega), if_pos e2]
          · rw [if_neg (by omega), if_neg e2])]
      apply iter_inl
      unfold F_tollbarlaw31_BlockTears_L9
      dsimp only
      have h1 : ilt (i : Int) (w : Int) = true := by rw [pilt]; omega
      rw [if_pos (by rw [pilt]; simp only [ofN, xlen]; omega), if_pos (by simp only [ofN, xlen]; omega), ptoN, p_filledB]
      dsimp only
      rw [hK1, hR.write2 (by omega) _ _ hK (rep_len _), if_neg (by omega)]
      dsimp only
      rw [hw1, h1, if_pos (by decide), if_pos (by decide), pnext (by omega), hz]
/-- The first writes. -/
theorem tears_first {s1 s2 : List UInt8} {x1 : Int} {w K : Nat} (hw1 : iconv .i64 (irem x1 256) = (w : Int)) (hK1 : irem (iconv .i64 (iquo .u16 x1 256)) 65 = (K : Int)) (h1 : s1.length ≤ 40) (h2 : s2.length ≤ 40) (hK : K ≤ 64) (hw : w < 256) :
    ∀ (m i : Nat) (y : Int) (r : List D), i + m = s1.length → Holds r 40 (front [] s1 i) → iter (F_tollbarlaw31_BlockTears_L5 s1 x1 s2) ((i : Int), y, r) = some true := by
  intro m
  induction m with
  | zero =>
    intro i y r hi hR
    apply iter_inr
    unfold F_tollbarlaw31_BlockTears_L5
    dsimp only
    rw [if_neg (by rw [pilt]; simp only [ofN, xlen]; omega), hw1, hK1, armD, if_neg (by omega)]
    dsimp only
    have hR2 : Holds r 40 (front s1 s2 0) := hR.congr fun j hj => by
      unfold front
      rw [if_neg (by omega)]
      by_cases e : j < i
      · rw [if_pos e]
      · rw [if_neg e]
        congr 1
        rw [List.getD_eq_getElem?_getD, List.getElem?_eq_none (by omega)]
        rfl
    have := tears_next hw1 hK1 h2 hK hw s2.length 0 y r (by omega) (by omega) hR2
    rw [Nat.sub_zero] at this
    rw [show (0 : Int) = ((0 : Nat) : Int) from rfl, this]
    rfl
  | succ m ih =>
    intro i y r hi hR
    rw [← ih (i + 1) (iadd .i64 y 1) (setD r i (arr64 (rep64 (s1.getD i 0)))) (by omega) (hR.set (by omega) (Is.arr (rep_len _)) fun j hj => by
      unfold front
      by_cases e : j = i
      · subst e; rw [if_pos (by omega), if_pos rfl]
      · rw [if_neg e]
        by_cases e2 : j < i
        · rw [if_pos (by omega), if_pos e2]
        · rw [if_neg (by omega), if_neg e2])]
    apply iter_inl
    unfold F_tollbarlaw31_BlockTears_L5
    dsimp only
    rw [if_pos (by rw [pilt]; simp only [ofN, xlen]; omega), if_pos (by simp only [ofN, xlen]; omega), ptoN, p_filledB]
    dsimp only
    rw [hR.write (by omega) _ (rep_len _)]
    dsimp only
    rw [if_pos (by decide), pnext (by omega)]
theorem holds_new {n : Nat} (s : List UInt8) : Holds (List.replicate n Z64) n (front [] s 0) := by
  refine ⟨by simp, fun k hk => ?_⟩
  have : getD (List.replicate n Z64) k = Z64 := by simp [getD, hk]
  rw [this]
  exact Is.zero
theorem tears_law {s1 s2 : List UInt8} {x1 : Int} (hx : 0 ≤ x1 ∧ x1 < 65536) : F_tollbarlaw31_BlockTears s1 s2 x1 = some true := by
  obtain ⟨x, rfl⟩ : ∃ x : Nat, x1 = (x : Int) := ⟨x1.toNat, by omega⟩
  have hw1 : iconv .i64 (irem (x : Int) 256) = ((x % 256 : Nat) : Int) := by
    simp only [iconv, irem]
    rw [Int.tmod_eq_emod_of_nonneg (by omega), pwi64 (by omega) (by omega)]
    omega
  have hK1 : irem (iconv .i64 (iquo .u16 (x : Int) 256)) 65 = ((x / 256 % 65 : Nat) : Int) := by
    simp only [iconv, irem, iquo]
    rw [Int.tdiv_eq_ediv_of_nonneg (by omega), pu16 (by omega) (by omega), pwi64 (by omega) (by omega), Int.tmod_eq_emod_of_nonneg (by omega)]
    omega
  unfold F_tollbarlaw31_BlockTears
  rw [p_awake]
  dsimp only
  rw [if_pos rfl]
  by_cases c1 : 40 < s1.length
  · rw [if_pos (by rw [pilt]; simp only [ofN, xlen]; omega)]
  · rw [if_neg (by rw [pilt]; simp only [ofN, xlen]; omega)]
    by_cases c2 : 40 < s2.length
    · rw [if_pos (by rw [pilt]; simp only [ofN, xlen]; omega)]
    · rw [if_neg (by rw [pilt]; simp only [ofN, xlen]; omega), show (40 : Int) = ((40 : Nat) : Int) from rfl, p_new (by omega)]
      dsimp only
      exact tears_first hw1 hK1 (by omega) (by omega) (by omega) (by omega) s1.length 0 0 _ (by omega) (holds_new s1)
theorem p_BlockTears (s1 s2 : List UInt8) (x : Int) (h1 : (Ty.bytes 5).rng (.s s1)) (h2 : (Ty.bytes 5).rng (.s s2)) (h3 : (Lit.int .u16 x).wf = true) : F_tollbarlaw31_BlockTears s1 s2 x = some true := tears_law (wf_u16 h3)

/-! A write changes no block but its own. -/
theorem others_end {s1 : List UInt8} {x1 x2 : Int} {k : Nat} {c : UInt8} (hk1 : irem (iconv .i64 x1) (ofN (xlen s1)) = (k : Int)) (hc : iconv .u8 (iquo .u16 x2 256) = (c.toNat : Int)) (hk : k < s1.length) (hs : s1.length ≤ 60) {y : Int} {r : List D} {f : Nat → List UInt8} (hR : Holds r s1.length f) (hf : ∀ i, i < s1.length → i ≠ k → f i = rep64 (s1.getD i 0)) :
    ∀ (m i : Nat), i + m = s1.length → iter (F_tollbarlaw31_BlockOthers_L5 s1 y r x1 x2) (i : Int) = some true := by
  intro m
  induction m with
  | zero =>
    intro i hi
    apply iter_inr
    unfold F_tollbarlaw31_BlockOthers_L5
    rw [if_neg (by rw [pilt]; simp only [ofN, xlen]; omega), hc, p_filled (by have := u8lt c; omega), byteOf_toNat, hk1]
    dsimp only
    rw [hR.write hk _ (rep_len _)]
    dsimp only
    have hR2 : Holds (setD r k (arr64 (rep64 c))) s1.length (fun j => if j = k then rep64 c else f j) := hR.set hk (Is.arr (rep_len _)) fun j _ => rfl
    rw [hR2.read hk]
    dsimp only
    rw [if_pos (by decide), if_pos rfl]
    simp [seq]
  | succ m ih =>
    intro i hi
    rw [← ih (i + 1) (by omega)]
    apply iter_inl
    unfold F_tollbarlaw31_BlockOthers_L5
    rw [if_pos (by rw [pilt]; simp only [ofN, xlen]; omega), hR.read (by omega), hk1]
    dsimp only
    rw [if_pos (by decide)]
    by_cases e : i = k
    · rw [if_pos (by rw [pieq]; omega), pnext (by omega)]
    · rw [if_neg (by rw [pieq]; omega), if_pos (by simp only [ofN, xlen]; omega), ptoN, p_filledB]
      dsimp only
      rw [if_pos (by rw [pseq]; exact hf i (by omega) e), pnext (by omega)]
theorem L7_eq (s1 : List UInt8) (y : Int) (r : List D) (x1 x2 : Int) : F_tollbarlaw31_BlockOthers_L7 s1 y r x1 x2 = F_tollbarlaw31_BlockOthers_L5 s1 y r x1 x2 := rfl
theorem L8_eq (s1 : List UInt8) (y : Int) (r : List D) (x1 x2 : Int) : F_tollbarlaw31_BlockOthers_L8 s1 y r x1 x2 = F_tollbarlaw31_BlockOthers_L5 s1 y r x1 x2 := rfl
theorem others_loop {s1 : List UInt8} {x1 x2 : Int} {k u : Nat} {c : UInt8} (hk1 : irem (iconv .i64 x1) (ofN (xlen s1)) = (k : Int)) (hc : iconv .u8 (iquo .u16 x2 256) = (c.toNat : Int)) (hu : irem x2 256 = (u : Int)) (hu2 : u < 256) (hk : k < s1.length) (hs : s1.length ≤ 60) :
    ∀ (m i : Nat) (y : Int) (r : List D), i + m = s1.length → Holds r s1.length (front [] s1 i) → iter (F_tollbarlaw31_BlockOthers_L4 s1 x2 x1) ((i : Int), y, r) = some true := by
  intro m
  have hc2 : F_tollbarlaw31_filled (c.toNat : Int) = some (rep64 c) := by rw [p_filled (by have := u8lt c; omega), byteOf_toNat]
  have hu3 : iconv .i64 (u : Int) = (u : Int) := by simp only [iconv]; rw [pwi64 (by omega) (by omega)]
  induction m with
  | zero =>
    intro i y r hi hR
    apply iter_inr
    unfold F_tollbarlaw31_BlockOthers_L4
    dsimp only
    have hfr : ∀ j, j < s1.length → front [] s1 i j = rep64 (s1.getD j 0) := fun j hj => by unfold front; rw [if_pos (by omega)]
    rw [if_neg (by rw [pilt]; simp only [ofN, xlen]; omega), if_pos (by simp only [ofN, xlen]; omega), hu, hc, hk1, hu3, hc2]
    by_cases c65 : u < 65
    · have e65 : ilt (u : Int) 65 = true := by rw [pilt]; omega
      have hR2 : Holds (setD r k (cpA 64 (getD r k) ((rep64 c).take u))) s1.length (fun j => if j = k then (rep64 c).take u ++ (front [] s1 i k).drop u else front [] s1 i j) := hR.set hk ((hR.at_ k hk).torn (rep_len _) (by omega)) fun j _ => rfl
      rw [e65, if_pos rfl, armD, if_neg (by omega)]
      dsimp only
      rw [hR.write2 hk _ _ (by omega) (rep_len _), if_pos rfl]
      dsimp only
      unfold F_block_Device_Down F_block_Device_Up
      dsimp only
      rw [if_pos (by decide), if_pos (by decide), L7_eq, show (0 : Int) = ((0 : Nat) : Int) from rfl, others_end hk1 hc hk hs hR2 (fun j hj e => by rw [if_neg e]; exact hfr j hj) s1.length 0 (by omega)]
      rfl
    · have e65 : ilt (u : Int) 65 = false := by simp only [ilt]; exact decide_eq_false (by omega)
      have hR2 : Holds (setD r k (arr64 (rep64 c))) s1.length (fun j => if j = k then rep64 c else front [] s1 i j) := hR.set hk (Is.arr (rep_len _)) fun j _ => rfl
      rw [e65, if_neg (by decide)]
      dsimp only
      rw [hR.write hk _ (rep_len _)]
      dsimp only
      unfold F_block_Device_Down F_block_Device_Up
      dsimp only
      rw [if_pos (by decide), if_pos (by decide), L8_eq, show (0 : Int) = ((0 : Nat) : Int) from rfl, others_end hk1 hc hk hs hR2 (fun j hj e => by rw [if_neg e]; exact hfr j hj) s1.length 0 (by omega)]
      rfl
  | succ m ih =>
    intro i y r hi hR
    rw [← ih (i + 1) (iadd .i64 y 1) (setD r i (arr64 (rep64 (s1.getD i 0)))) (by omega) (hR.set (by omega) (Is.arr (rep_len _)) fun j hj => by
      unfold front
      by_cases e : j = i
      · subst e; rw [if_pos (by omega), if_pos rfl]
      · rw [if_neg e]
        by_cases e2 : j < i
        · rw [if_pos (by omega), if_pos e2]
        · rw [if_neg (by omega), if_neg e2])]
    apply iter_inl
    unfold F_tollbarlaw31_BlockOthers_L4
    dsimp only
    rw [if_pos (by rw [pilt]; simp only [ofN, xlen]; omega), if_pos (by simp only [ofN, xlen]; omega), ptoN, p_filledB]
    dsimp only
    rw [hR.write (by omega) _ (rep_len _)]
    dsimp only
    rw [pnext (by omega)]
theorem others_law {s1 : List UInt8} {x1 x2 : Int} (h1 : 0 ≤ x1 ∧ x1 < 256) (h2 : 0 ≤ x2 ∧ x2 < 65536) : F_tollbarlaw31_BlockOthers s1 x1 x2 = some true := by
  obtain ⟨x, rfl⟩ : ∃ x : Nat, x1 = (x : Int) := ⟨x1.toNat, by omega⟩
  obtain ⟨z, rfl⟩ : ∃ z : Nat, x2 = (z : Int) := ⟨x2.toNat, by omega⟩
  unfold F_tollbarlaw31_BlockOthers
  rw [p_awake]
  dsimp only
  rw [if_pos rfl]
  by_cases c1 : s1.length < 1
  · rw [if_pos (by rw [pilt]; simp only [ofN, xlen]; omega)]
  · rw [if_neg (by rw [pilt]; simp only [ofN, xlen]; omega)]
    by_cases c2 : 60 < s1.length
    · rw [if_pos (by rw [pilt]; simp only [ofN, xlen]; omega)]
    · have hu : irem (z : Int) 256 = ((z % 256 : Nat) : Int) := by
        simp only [irem]
        rw [Int.tmod_eq_emod_of_nonneg (by omega)]
        omega
      have hk1 : irem (iconv .i64 (x : Int)) (ofN (xlen s1)) = ((x % s1.length : Nat) : Int) := by
        simp only [irem, iconv, ofN, xlen]
        rw [pwi64 (by omega) (by omega), Int.tmod_eq_emod_of_nonneg (by omega)]
        exact (Int.natCast_emod _ _).symm
      have hc : iconv .u8 (iquo .u16 (z : Int) 256) = ((UInt8.ofNat (z / 256)).toNat : Int) := by
        simp only [iconv, iquo]
        rw [Int.tdiv_eq_ediv_of_nonneg (by omega), pu16 (by omega) (by omega), pu8 (by omega) (by omega), UInt8.toNat_ofNat', Nat.mod_eq_of_lt (by omega)]
        omega
      rw [if_neg (by rw [pilt]; simp only [ofN, xlen]; omega), show ofN (xlen s1) = ((s1.length : Nat) : Int) from rfl, p_new (by omega)]
      dsimp only
      exact others_loop hk1 hc hu (by omega) (Nat.mod_lt _ (by omega)) (by omega) s1.length 0 0 _ (by omega) (holds_new s1)
theorem p_BlockOthers (s : List UInt8) (x y : Int) (h1 : (Ty.bytes 5).rng (.s s)) (h2 : (Lit.int .u8 x).wf = true) (h3 : (Lit.int .u16 y).wf = true) : F_tollbarlaw31_BlockOthers s x y = some true := others_law (wf_u8 h2) (wf_u16 h3)
end Go.Proofs.Ytcdjpciocamkiaa
end
