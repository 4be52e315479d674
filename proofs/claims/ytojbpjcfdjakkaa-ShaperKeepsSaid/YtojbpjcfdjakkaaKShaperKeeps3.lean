/-
  Texts that the row of this claim stands on, one behind the other.
-/
import Derived.Deep.LoopGhost
import Derived.Laws.Sem
import Derived.RangeFuncLeaves
import Derived.RangeFuncRecord
import Derived.RangeFuncOwn
import Derived.Orders
import Derived.KernelRfl
import Derived.Test.YtojbpjcfdjakkaaKShaperKeeps1
import Derived.Test.YtojbpjcfdjakkaaKShaperKeeps2
section
set_option linter.unusedVariables false
set_option linter.unusedSimpArgs false
namespace Go.Proofs.Ytojbpjcfdjakkaa
open Go.RowKit
section
variable {P : Program} {C : Ctx} {PL : Nat → Option Pl} {hp hp2 : List (Nat × Ck)} {Fr : Nat → Prop} {w : World} {id : Nat} {r : R}
theorem Z5u (id : Nat) (r : R) : ∀ (l : List (Nat × Ck)) (j : Nat), hget (frzHp id r l) j = match Nat.beq j id with | true => none | false => (hget l j).map (Ck.frz id r)
 | [], j => by simp only [frzHp, hget]; split <;> rfl
 | (i, c) :: l, j => by
  simp only [frzHp]
  cases hb : Nat.beq i id with
  | true =>
   have := (nbeq _ _).1 hb
   subst this
   simp only [hget, Z5u i r l j]
   split
   ·rename_i h; simp only [h]
   rename_i h; simp only [h]
  | false =>
   have hne := (Zm _ _).1 hb
   simp only [hget, Z5u id r l j]
   by_cases hji : j = i
   ·subst hji
    simp only [(nbeq j j).2 rfl, hb]
    rfl
   simp only [(Zm _ _).2 hji]
theorem Zca (id : Nat) (r : R) : ∀ (l : List (Option SV)) (j : Nat), fget (frzFr id r l) j = (fget l j).map (SV.frz id r)
 | [], j => rfl
 | some x :: l, 0 => rfl
 | none :: l, 0 => rfl
 | some x :: l, j + 1 => by simp only [frzFr, fget]; exact Zca id r l j
 | none :: l, j + 1 => by simp only [frzFr, fget]; exact Zca id r l j
theorem Z78 (id : Nat) (r : R) : ∀ (l : List (Option SV)), (frzFr id r l).length = l.length
 | [] => rfl
 | some x :: l => by simp [frzFr, Z78 id r l]
 | none :: l => by simp [frzFr, Z78 id r l]
theorem Z79 {c : Ck} {p : Pl} {b : Nat} : (c.frz id r).has p b ↔ c.has p b := by
 cases c with
 | gho tm l o =>
  cases o with
  | none => exact Iff.rfl
  | some o => obtain ⟨k, cs⟩ := o; exact Iff.rfl
 | _ => exact Iff.rfl
theorem Zh4 (hb : ∀ b, Own PL hp b → Own PL hp b) {b : Nat} (h : Own PL (frzHp id r hp) b) : Own PL hp b := by
 obtain ⟨j, c, p, h1, h2, h3⟩ := h
 rw [Z5u] at h1
 split at h1
 ·cases h1
 obtain ⟨d, hd, e⟩ := Option.map_eq_some_iff.1 h1
 subst e
 exact ⟨j, d, p, hd, h2, Z79.1 h3⟩
structure Frz (C : Ctx) (PL : Nat → Option Pl) (hp : List (Nat × Ck)) (Fr : Nat → Prop) (w : World) (id : Nat) (r : R) : Prop where
 H : HSat C PL hp Fr w
 row : rowOf hp id = some r
theorem Frz.A (F : Frz C PL hp Fr w id r) : ∀ b, b < w.heap.size → Avo C PL (frzHp id r hp) b → Avo C PL hp b := by
 rintro b _ (hz | ho)
 ·exact .inl hz
 exact .inr (Zh4 (fun _ h => h) ho)
theorem Frz.no (F : Frz C PL hp Fr w id r) : ∀ p b, PL id = some p → p.a = some ⟨b, 0, none⟩ → ¬ Avo C PL (frzHp id r hp) b := by
 intro p b hp0 ha hx
 rcases hx with hz | ho
 ·exact (F.H.own b ⟨id, _, p, Zf F.row, hp0, ha⟩).1 hz
 obtain ⟨j, c, q, h1, h2, h3⟩ := ho
 rw [Z5u] at h1
 split at h1
 ·cases h1
 rename_i hb
 obtain ⟨d, hd, e⟩ := Option.map_eq_some_iff.1 h1
 subst e
 have := F.H.dj j id d _ q p b hd (Zf F.row) h2 hp0 (Z79.1 h3) ha
 exact (Zm _ _).1 hb this
mutual
theorem Zh2 (F : Frz C PL hp Fr w id r) : ∀ (v : SV) (x : Value), Den PL w (Avo C PL hp) v x → Den PL w (Avo C PL (frzHp id r hp)) (v.frz id r) x
 | .v u, x, d => by cases d; exact .v _
 | .str l, x, d => by cases d; exact .str _
 | .ptr i o, x, d => d.mono (fun _ _ h => h) (Nat.le_refl _) (fun _ _ _ => rfl) F.A
 | .ept i k o, x, d => d.mono (fun _ _ h => h) (Nat.le_refl _) (fun _ _ _ => rfl) F.A
 | .esl i k, x, d => d.mono (fun _ _ h => h) (Nat.le_refl _) (fun _ _ _ => rfl) F.A
 | .rpt q i o, x, d => d.mono (fun _ _ h => h) (Nat.le_refl _) (fun _ _ _ => rfl) F.A
 | .rsl q, x, d => d.mono (fun _ _ h => h) (Nat.le_refl _) (fun _ _ _ => rfl) F.A
 | .mpv q, x, d => d.mono (fun _ _ h => h) (Nat.le_refl _) (fun _ _ _ => rfl) F.A
 | .nsl, x, d => by cases d; exact .nsl
 | .wsl j, x, d => by
  simp only [SV.frz]
  split
  ·rename_i h
   have := (nbeq _ _).1 h
   subst this
   exact Z3w F.H (id := j) (.inl rfl) (by simpa [rowS] using F.row) d F.A F.no
  exact d.mono (fun _ _ h => h) (Nat.le_refl _) (fun _ _ _ => rfl) F.A
 | .sl j lo n, x, d => by
  simp only [SV.frz]
  split
  ·rename_i h
   have := (nbeq _ _).1 h
   subst this
   exact Z3w F.H (id := j) (.inr ⟨lo, n, rfl⟩) (by simp [rowS, F.row]) d F.A F.no
  exact d.mono (fun _ _ h => h) (Nat.le_refl _) (fun _ _ _ => rfl) F.A
 | .agg l, x, d => by
  cases d with
  | agg _ cs hl hd h1 => obtain ⟨e1, e2⟩ := Z4x F l cs ⟨hl, hd⟩; exact .agg _ cs e1 e2 h1
 | .tup l, x, d => by
  cases d with
  | tup _ cs hl hd => obtain ⟨e1, e2⟩ := Z4x F l cs ⟨hl, hd⟩; exact .tup _ cs e1 e2
 | .fn f l, x, d => by
  cases d with
  | fn _ _ cs hl hd => obtain ⟨e1, e2⟩ := Z4x F l cs ⟨hl, hd⟩; exact .fn _ _ cs e1 e2
theorem Z4x (F : Frz C PL hp Fr w id r) : ∀ (l : List SV) (cs : List Value), DensA PL w (Avo C PL hp) l cs → DensA PL w (Avo C PL (frzHp id r hp)) (SV.frzL id r l) cs
 | [], cs, d => ⟨d.1, fun j a _ => absurd a (by simp [SV.frzL])⟩
 | x :: l, [], d => by have := d.1; simp at this
 | x :: l, c :: cs, d => by
  have h0 := Zh2 F x c (d.2 0 (by simp) (by simp))
  have hl := Z4x F l cs ⟨by simpa using d.1, fun j a b => by have := d.2 (j + 1) (by simpa using a) (by simpa using b); simpa using this⟩
  refine ⟨by simp [SV.frzL, hl.1], fun j a b => ?_⟩
  cases j with
  | zero => exact h0
  | succ j => exact hl.2 j (by simpa [SV.frzL] using a) (by simpa using b)
end
theorem Z5v (id : Nat) (r : R) : ∀ l : List SV, (SV.frzL id r l).length = l.length
 | [] => rfl
 | x :: l => by simp [SV.frzL, Z5v id r l]
theorem Frz.hsat (F : Frz C PL hp Fr w id r) : HSat C PL (frzHp id r hp) Fr w := by
 have H := F.H
 have back : ∀ {j c}, hget (frzHp id r hp) j = some c → ∃ d, hget hp j = some d ∧ d.frz id r = c := by
  intro j c h
  rw [Z5u] at h
  split at h
  ·cases h
  exact Option.map_eq_some_iff.1 h
 refine ⟨?_, ?_, ?_, H.os, H.tape, H.output, H.size, H.old, H.zlt, H.fr, H.arg⟩
 ·intro j c hc
  obtain ⟨d, hd, rfl⟩ := back hc
  have hck := H.ck j d hd
  cases d with
  | blk T vs =>
   obtain ⟨p, b, cs, h1, h2, h3, h4, h5⟩ := hck
   have dd := Z4x F vs cs.toList ⟨by simpa using h4, fun j a b => by have h0 : Den PL w (Avo C PL hp) vs[j] (cs[j]'(by simpa using b)) := (h5 j a (by simpa using b)).1; simpa using h0⟩
   refine ⟨p, b, cs, h1, h2, h3, by rw [Z5v]; exact h4, fun k k1 k2 => ⟨?_, ?_⟩⟩
   ·have := dd.2 k k1 (by simpa using k2)
    show Den PL w (Avo C PL (frzHp id r hp)) _ _
    simpa using this
   exact (h5 k (by rw [Z5v] at k1; exact k1) k2).2
  | row q => exact hck.mono (fun _ _ h => h) (Nat.le_refl _) (fun _ _ _ => rfl) F.A (fun _ _ _ _ => rfl)
  | prow T tm n g => exact hck
  | mp t l => exact hck.mono (fun _ _ h => h) (Nat.le_refl _) (fun _ _ _ => rfl) F.A (fun _ _ _ _ => rfl)
  | gho tm l o =>
   cases o with
   | none => exact hck.mono (fun _ _ h => h) (Nat.le_refl _) (fun _ _ _ => rfl) F.A (fun _ _ _ _ => rfl)
   | some o =>
    obtain ⟨k, cs⟩ := o
    obtain ⟨p, hp, h1, h2, h3⟩ := hck
    refine ⟨p, hp, h1, h2, fun i e he => ⟨fun hk => ?_, fun hk => TmOk.mono (Nat.le_refl _) (fun _ _ _ => rfl) F.A _ _ _ _ ((h3 i e he).2 hk) fun _ _ => rfl⟩⟩
    obtain ⟨a1, a2, a3⟩ := (h3 i e he).1 hk
    have dd := Z4x F cs e.1 ⟨by omega, fun j x y => (a3 j x y).1⟩
    exact ⟨by rw [Z5v]; exact a1, a2, fun j x y => ⟨dd.2 j x y, (a3 j (by rw [Z5v] at x; exact x) y).2⟩⟩
 ·intro i j c d p q b h1 h2
  obtain ⟨c', h1', e1⟩ := back h1
  obtain ⟨d', h2', e2⟩ := back h2
  subst e1; subst e2
  exact fun h3 h4 h5 h6 => H.dj i j c' d' p q b h1' h2' h3 h4 (Z79.1 h5) (Z79.1 h6)
 intro b hb
 exact H.own b (Zh4 (fun _ h => h) hb)
end
section
variable {P : Program} {C : Ctx} {PL : Nat → Option Pl} {s : St} {Fr : Nat → Prop} {a : Act} {w : World}
theorem Zv3 (h : Sat C PL s Fr a w) (id : Nat) : Sat C PL (s.frz1 id) Fr a w := by
 unfold St.frz1
 split
 ·rename_i r hr
  have F : Frz C PL s.hp Fr w id r := ⟨h.toHSat, by unfold rowOf; rw [hr]⟩
  refine { F.hsat with len := ?_, def_ := h.def_.mono (Nat.le_refl _) (fun _ _ _ => rfl) F.A, slot := ?_ }
  ·rw [Z78]; exact h.len
  intro i v hi
  rw [Zca] at hi
  obtain ⟨u, hu, rfl⟩ := Option.map_eq_some_iff.1 hi
  exact Zh2 F u _ (h.slot i u hu)
 exact h
theorem Zrk (s : St) (id : Nat) : (s.frz1 id).nx = s.nx ∧ (s.frz1 id).fr.length = s.fr.length := by
 unfold St.frz1
 split
 ·exact ⟨rfl, Z78 _ _ _⟩
 exact ⟨rfl, rfl⟩
theorem Zlf : ∀ (l : List Nat) {s : St}, Sat C PL s Fr a w → Sat C PL (s.frz l) Fr a w
 | [], s, h => h
 | i :: l, s, h => Zlf l (Zv3 h i)
theorem Zh3 : ∀ (l : List Nat) (s : St), (s.frz l).nx = s.nx ∧ (s.frz l).fr.length = s.fr.length
 | [], s => ⟨rfl, rfl⟩
 | i :: l, s => by
  have h1 := Zh3 l (s.frz1 i)
  have h2 := Zrk s i
  exact ⟨h1.1.trans h2.1, h1.2.trans h2.2⟩
theorem Zl1 (Γ : FuncId → Option Con) (s : St) (op : IOp) : ∃ l, s.pre Γ op = s.frz l := by
 unfold St.pre
 split
 ·split
  ·split
   ·exact ⟨[], rfl⟩
   split
   ·exact ⟨_, rfl⟩
   exact ⟨[], rfl⟩
  exact ⟨[], rfl⟩
 ·split
  ·exact ⟨_, rfl⟩
  exact ⟨[], rfl⟩
 ·split
  ·split
   ·exact ⟨_, rfl⟩
   exact ⟨[], rfl⟩
  exact ⟨[], rfl⟩
 exact ⟨[], rfl⟩
theorem Zv4 (h : Sat C PL s Fr a w) (Γ : FuncId → Option Con) (op : IOp) : Sat C PL (s.pre Γ op) Fr a w := by
 obtain ⟨l, e⟩ := Zl1 Γ s op
 rw [e]
 exact Zlf l h
theorem Zur (Γ : FuncId → Option Con) (s : St) (op : IOp) : (s.pre Γ op).nx = s.nx ∧ (s.pre Γ op).fr.length = s.fr.length := by
 obtain ⟨l, e⟩ := Zl1 Γ s op
 rw [e]
 exact Zh3 l s
end
end Go.Proofs.Ytojbpjcfdjakkaa
end
section
set_option linter.unusedVariables false
set_option linter.unusedSimpArgs false
namespace Go.Proofs.Ytojbpjcfdjakkaa
open Go.RowKit
theorem Z7q : ∀ {ps : List Prop} {B : Prop}, runOb ps B → (∀ p ∈ ps, p) ∧ B
 | [], B, h => ⟨by simp, h⟩
 | p :: ps, B, h => by
  obtain ⟨h1, h2⟩ := h
  obtain ⟨h3, h4⟩ := Z7q h2
  refine ⟨fun q hq => ?_, h4⟩
  rcases List.mem_cons.1 hq with rfl | hq
  ·exact h1
  exact h3 q hq
section
variable {P : Program} {C : Ctx} {PL : Nat → Option Pl} {s : St} {Fr : Nat → Prop} {a : Act} {w : World} {o : Oper} {Q : Exit → Act → World → Prop} {Γ : FuncId → Option Con}
theorem Zrd {io : Io} (hsnd : Snd P C Γ o io.op) (hdst : io.dst = o.dst) {K : St → Prop} {fresh : Nat} (h : Sat C PL s Fr a w) (hfr : ∀ i, fresh ≤ i → i < fresh + 8 → Fr i) (hk : C.k ≤ fresh) (hv : vcExec Γ io fresh s K) :
  o.wp P a w (fun a' w' => ∃ PL' s', K s' ∧ s'.nx = s.nx ∧ s'.fr.length = s.fr.length ∧ Sat C PL' s' (fun i => Fr i ∧ ¬ (fresh ≤ i ∧ i < fresh + 8)) a' w') Q := by
 unfold vcExec at hv
 obtain ⟨n1, n2⟩ := Zur Γ s io.op
 replace h := Zv4 h Γ io.op
 cases hst : step Γ io.op (s.pre Γ io.op) fresh with
 | none => rw [hst] at hv; exact hv.elim
 | some E =>
  rw [hst] at hv
  simp only [Eff.go] at hv
  obtain ⟨h1, h2⟩ := Z7q hv
  refine Oper.wp_mono (fun a' w' hp => ?_) (hsnd PL (s.pre Γ io.op) Fr a w Q fresh E h hfr hk hst h1)
  have hlen : ∀ v u, ((s.pre Γ io.op).put o.dst v u).fr.length = s.fr.length := fun v u => by cases ho : o.dst <;> simp [St.put, Z5t, n2]
  unfold Eff.post at hp
  rw [hdst] at h2
  split at hp
  ·rename_i v u hout
   rw [hout] at h2
   obtain ⟨PL', hs⟩ := hp
   exact ⟨PL', _, h2, n1, hlen _ _, hs⟩
  rename_i X Pr v u hout
  rw [hout] at h2
  obtain ⟨x, hx, PL', hs⟩ := hp
  exact ⟨PL', _, (h2 x hx).out, n1, hlen _ _, hs⟩
theorem Z7u (h : Sat C PL s Fr a w) {g : Nat} {b : Bool} (hg : fget s.fr g = some (.v (.bool b))) : Sat C PL (s.put (some g) (some (.v (.bool b))) []) Fr a w := by
 refine { h.toHSat with len := ?_, def_ := h.def_, slot := ?_ }
 ·simp only [St.put, Z5t]; exact h.len
 intro i v hi
 simp only [St.put] at hi
 by_cases hig : g = i
 ·subst hig
  rw [Zc6 _ _ _ (Z5s _ _ _ hg)] at hi
  injection hi with hi
  subst hi
  exact h.slot g _ hg
 rw [Z77 _ _ _ _ hig] at hi
 exact h.slot i v hi
theorem Zv7 (h : Sat C PL s Fr a w) {g : Nat} {b : Bool} (hg : fget s.fr g = some (.v (.bool b))) : a.tmps[g]? = some (.bool b) := by
 have d := h.slot g _ hg
 have hl : g < a.tmps.size := by rw [h.len]; exact Z5s _ _ _ hg
 generalize hq : a.tmps.getD g undef = q at d
 cases d
 simp only [Array.getD, hl, dif_pos] at hq
 rw [Array.getElem?_eq_getElem hl]
 exact congrArg some hq
theorem Zfl {ops : Array Oper} {j g : Nat} {want b : Bool} {p : Oper} (hgd : o.guard = some (j, want)) (hp : ops[j]? = some p) (hd : p.dst = some g) (h : Sat C PL s Fr a w) (hg : fget s.fr g = some (.v (.bool b))) : Region.wanted o (yielded ops a.tmps) = (b == want) := by
 have hs := Zv7 h hg
 simp [Region.wanted, hgd, yielded, hp, hd, hs]
theorem Znu {v : SV} (hv : (some (.tup []) : Option SV) = some v) : Den PL w (Avo C PL s.hp) v undef := by
 injection hv with hv
 subst hv
 exact Den.tup [] [] rfl (fun j h => absurd h (by simp))
theorem Zfm {ops : Array Oper} {j g : Nat} {want : Bool} {p : Oper} (hgd : o.guard = some (j, want)) (hp : ops[j]? = some p) (hd : p.dst = some g) (h : Sat C PL s Fr a w) (hg : fget s.fr g = some (.tup [])) : Region.wanted o (yielded ops a.tmps) = false := by
 have d := h.slot g _ hg
 have hl : g < a.tmps.size := by rw [h.len]; exact Z5s _ _ _ hg
 have hs : a.tmps[g]? = some (.tuple #[]) := by
  generalize hq : a.tmps.getD g undef = q at d
  cases d
  rename_i cs hl2 hd2
  have : cs = [] := List.length_eq_zero_iff.1 (by simpa using hl2)
  subst this
  simp only [Array.getD, hl, dif_pos] at hq
  rw [Array.getElem?_eq_getElem hl]
  exact congrArg some hq
 simp [Region.wanted, hgd, yielded, hp, hd, hs]
theorem Ztg {ops : Array Oper} {rest : List Oper} {io : Io} (hsnd : Snd P C Γ o io.op) (hdst : io.dst = o.dst) (hg : (o.guard = none ∧ io.g = none) ∨ ∃ j want p g, o.guard = some (j, want) ∧ ops[j]? = some p ∧ p.dst = some g ∧ io.g = some (g, want))
  {K : St → Prop} {fresh : Nat} (h : Sat C PL s Fr a w) (hfr : ∀ i, fresh ≤ i → i < fresh + 8 → Fr i) (hk : C.k ≤ fresh) (hv : vcOp Γ io fresh s K)
  (next : ∀ PL' s' a' w', K s' → s'.nx = s.nx → Sat C PL' s' (fun i => Fr i ∧ ¬ (fresh ≤ i ∧ i < fresh + 8)) a' w' → wpList P ops Q rest a' w') : wpList P ops Q (o :: rest) a w := by
 unfold wpList
 have skip : ∀ s', Sat C PL s' Fr a w → s'.nx = s.nx → K (s'.put io.dst (some (.tup [])) []) → wpList P ops Q rest (a.put o.dst undef) w := by
  intro s' hs hn hK
  refine next PL _ _ _ hK hn ?_
  have := hs.pure o.dst (some (.tup [])) undef (fun v hv => Znu hv)
  rw [hdst]
  exact this.fr_mono (fun i hi => hi.1)
 have exec : ∀ s', Sat C PL s' Fr a w → s'.nx = s.nx → vcExec Γ io fresh s' K → o.wp P a w (wpList P ops Q rest) Q := by
  intro s' hs hn hE
  refine Oper.wp_mono (fun a' w' hp => ?_) (Zrd (Q := Q) hsnd hdst hs hfr hk hE)
  obtain ⟨PL', s'', hK, hn', _, hS⟩ := hp
  exact next PL' s'' a' w' hK (hn'.trans hn) hS
 rcases hg with ⟨h1, h2⟩ | ⟨j, want, p, g, h1, h2, h3, h4⟩
 ·rw [if_pos (by simp [Region.wanted, h1])]
  unfold vcOp at hv
  rw [h2] at hv
  exact .inl (exec s h rfl hv)
 unfold vcOp at hv
 rw [h4] at hv
 cases want with
 | true =>
  simp only [] at hv
  split at hv
  ·rename_i b hb
   rw [Zfl h1 h2 h3 h hb]
   cases b with
   | true => exact .inl (exec _ (Z7u h hb) rfl hv)
   | false => exact skip _ (Z7u h hb) rfl hv
  ·rename_i hb
   rw [Zfm h1 h2 h3 h hb]
   exact skip _ h rfl hv
  exact hv.elim
 | false =>
  simp only [] at hv
  split at hv
  ·rename_i b hb
   rw [Zfl h1 h2 h3 h hb]
   cases b with
   | true => exact skip _ (Z7u h hb) rfl hv
   | false => exact .inl (exec _ (Z7u h hb) rfl hv)
  ·rename_i hb
   rw [Zfm h1 h2 h3 h hb]
   exact skip _ h rfl hv
  exact hv.elim
theorem Zgf {all : Array Oper} {draw : Bool} {o : Oper} {pre : List Nat} {os : List (Oper × List Nat)} {ios : List Io} (h : cOps P all draw ((o, pre) :: os) = some ios) :
  ∃ x g ios', ios = ⟨o.dst, g, if draw then pre else [], x⟩ :: ios' ∧ cOp P o = some x ∧ cOps P all draw os = some ios' ∧ ((o.guard = none ∧ g = none) ∨ ∃ j want p d, o.guard = some (j, want) ∧ all[j]? = some p ∧ p.dst = some d ∧ g = some (d, want)) := by
 simp only [cOps, Option.bind_eq_bind, Option.bind_eq_some_iff, Option.pure_def] at h
 obtain ⟨x, hx, h⟩ := h
 cases hgd : o.guard with
 | none =>
  rw [hgd] at h
  simp only [Option.bind_some, Option.bind_eq_some_iff, Option.some.injEq] at h
  obtain ⟨l, hl, rfl⟩ := h
  exact ⟨x, none, l, rfl, hx, hl, .inl ⟨rfl, rfl⟩⟩
 | some q =>
  obtain ⟨j, want⟩ := q
  rw [hgd] at h
  simp only [Option.bind_some, Option.bind_eq_some_iff, Option.some.injEq] at h
  obtain ⟨p, hp, d, hd, l, hl, rfl⟩ := h
  exact ⟨x, some (d, want), l, rfl, hx, hl, .inr ⟨j, want, p, d, rfl, hp, hd, rfl⟩⟩
theorem Zkb (T : Tab P Γ) {all : Array Oper} {K : St → Prop} : ∀ (os : List (Oper × List Nat)) (ios : List Io) (fresh : Nat) (PL : Nat → Option Pl) (s : St) (a : Act) (w : World), cOps P all false os = some ios → Sat C PL s (fun i => fresh ≤ i) a w → C.k ≤ fresh → vcOps Γ ios fresh s K →
  (∀ PL' s' a' w', K s' → s'.nx = s.nx → Sat C PL' s' (fun i => fresh + 8 * ios.length ≤ i) a' w' → Q .normal a' w') → wpList P all Q (os.map (·.1)) a w
 | [], ios, fresh, PL, s, a, w, hc, h, hk, hv, hQ => by
  simp only [cOps] at hc
  injection hc with hc
  subst hc
  exact hQ PL s a w hv rfl (by simpa using h)
 | (o, pre) :: os, ios, fresh, PL, s, a, w, hc, h, hk, hv, hQ => by
  obtain ⟨x, g, ios', rfl, hx, hl, hg⟩ := Zgf hc
  simp only [vcOps] at hv
  refine Ztg (io := ⟨o.dst, g, [], x⟩) (Zge T hx) rfl (by
   rcases hg with ⟨h1, h2⟩ | ⟨j, want, p, d, h1, h2, h3, h4⟩
   ·exact .inl ⟨h1, h2⟩
   exact .inr ⟨j, want, p, d, h1, h2, h3, h4⟩) h (fun i h1 _ => h1) hk hv ?_
  intro PL' s' a' w' hK hn hS
  refine Zkb T os ios' (fresh + 8) PL' s' a' w' hl (hS.fr_mono fun i hi => ⟨by omega, by omega⟩) (by omega) hK ?_
  intro PL2 s2 a2 w2 hK2 hn2 hS2
  refine hQ PL2 s2 a2 w2 hK2 (hn2.trans hn) ?_
  refine hS2.fr_mono fun i hi => ?_
  simp only [List.length_cons] at hi
  omega
theorem Z8e : ∀ (os : List Oper) (acc : List (List Nat)), (ancsL os acc).length = acc.length + os.length
 | [], acc => by simp [ancsL]
 | o :: os, acc => by simp only [ancsL, Z8e os, List.length_append, List.length_cons, List.length_nil]; omega
def exOf : Ex → Exit
 | .nxt => .normal
 | .ret => .ret
 | .exit id => .exit id
def SatN (C : Ctx) (PL : Nat → Option Pl) (s : St) (a : Act) (w : World) : Prop := Sat C PL s (fun i => s.nx ≤ i) a w ∧ C.k ≤ s.nx
def KQ (C : Ctx) (K : Ex → St → Prop) (Q : Exit → Act → World → Prop) : Prop := ∀ e s' PL' a' w', K e s' → SatN C PL' s' a' w' → Q (exOf e) a' w'
def DrawOK (P : Program) (C : Ctx) (Γ : FuncId → Option Con) : Prop := ∀ (id : Nat) (ops : Array Oper) (ios : List Io) (s : St) (K : Ex → St → Prop) (PL : Nat → Option Pl) (a : Act) (w : World) (Q : Exit → Act → World → Prop),
 comp P (.region id ops true) = some (.reg true ios) → vcOpsD Γ ios 0 s.nx [] ⟨s.fr, s.hp, s.nx + 8 * ios.length⟩ (K .nxt) → SatN C PL s a w → KQ C K Q → (Code.region id ops true).wp P Q a w
structure LoopOK (P : Program) (C : Ctx) (Γ : FuncId → Option Con) (c : IC) (s : St) (K : Ex → St → Prop) : Prop where
 out : ∀ (code : Code) (PL : Nat → Option Pl) (a : Act) (w : World) (Q : Exit → Act → World → Prop), comp P code = some c → SatN C PL s a w → KQ C K Q → code.wp P Q a w
theorem Zgm {P : Program} {code : Code} {c : IC} (h : comp P code = some (.loop c)) : ∃ c', code = .loop c' ∧ comp P c' = some c := by
 cases code with
 | loop x =>
  simp only [comp, Option.map_eq_some_iff, IC.loop.injEq] at h
  obtain ⟨d, h1, rfl⟩ := h
  exact ⟨x, rfl, h1⟩
 | region id ops draw => cases draw <;> simp only [comp] at h <;> (repeat' split at h) <;> cases h
 | seq x y => simp only [comp, Option.bind_eq_bind, Option.bind_eq_some_iff, Option.pure_def, Option.some.injEq] at h; obtain ⟨_, _, _, _, h⟩ := h; cases h
 | cond g x y =>
  simp only [comp] at h
  split at h
  ·simp only [Option.bind_eq_bind, Option.bind_eq_some_iff, Option.pure_def, Option.some.injEq] at h; obtain ⟨_, _, _, _, h⟩ := h; cases h
  cases h
 | block id x => simp only [comp, Option.map_eq_some_iff] at h; obtain ⟨_, _, h⟩ := h; cases h
 | rangeFunc g ps x y =>
  simp only [comp] at h
  split at h
  ·simp only [Option.bind_eq_bind, Option.bind_eq_some_iff, Option.pure_def, Option.some.injEq] at h; obtain ⟨_, _, _, _, h⟩ := h; cases h
  cases h
 | _ => simp only [comp] at h; cases h
theorem Z2u (T : Tab P Γ) (hD : DrawOK P C Γ) : ∀ (code : Code) (ic : IC) (s : St) (K : Ex → St → Prop) (PL : Nat → Option Pl) (a : Act) (w : World) (Q : Exit → Act → World → Prop), comp P code = some ic → vc Γ (LoopOK P C Γ) ic s K → SatN C PL s a w → KQ C K Q → code.wp P Q a w
 | .skip, ic, s, K, PL, a, w, Q, hc, hv, h, hQ => by
  simp only [comp] at hc; injection hc with hc; subst hc
  exact wp_skip (hQ .nxt s PL a w hv h)
 | .ret, ic, s, K, PL, a, w, Q, hc, hv, h, hQ => by
  simp only [comp] at hc; injection hc with hc; subst hc
  exact wp_ret (hQ .ret s PL a w hv h)
 | .exit id, ic, s, K, PL, a, w, Q, hc, hv, h, hQ => by
  simp only [comp] at hc; injection hc with hc; subst hc
  exact wp_exit (hQ (.exit id) s PL a w hv h)
 | .region id ops draw, ic, s, K, PL, a, w, Q, hc, hv, h, hQ => by
  cases draw with
  | true =>
   have hc0 := hc
   simp only [comp] at hc
   split at hc
   ·split at hc
    ·injection hc with hc; subst hc
     exact hD id ops _ s K PL a w Q hc0 hv h hQ
    injection hc with hc; subst hc; exact hv.elim
   injection hc with hc; subst hc; exact hv.elim
  | false =>
   simp only [comp] at hc
   cases hcc : cOps P ops false (ops.toList.zip (ancsL ops.toList [])) with
   | none => rw [hcc] at hc; injection hc with hc; subst hc; exact hv.elim
   | some ios =>
   have hios := hcc
   rw [hcc] at hc
   injection hc with hc
   subst hc
   simp only [vc] at hv
   refine wp_region_list ?_
   have hmap : (ops.toList.zip (ancsL ops.toList [])).map (·.1) = ops.toList := by
    rw [List.map_fst_zip]
    rw [Z8e]; simp
   rw [← hmap]
   have hS : Sat C PL (⟨s.fr, s.hp, s.nx + 8 * ios.length⟩ : St) (fun i => s.nx ≤ i) a w := { h.1.toHSat with len := h.1.len, def_ := h.1.def_, slot := h.1.slot }
   refine Zkb T _ ios s.nx PL _ a w hios hS h.2 hv ?_
   intro PL' s' a' w' hK hn hS'
   refine hQ .nxt s' PL' a' w' hK ⟨?_, ?_⟩
   ·rw [hn]; exact hS'
   rw [hn]; have := h.2; simp only []; omega
 | .seq x y, ic, s, K, PL, a, w, Q, hc, hv, h, hQ => by
  simp only [comp, Option.bind_eq_bind, Option.bind_eq_some_iff, Option.pure_def, Option.some.injEq] at hc
  obtain ⟨x', hx, y', hy, rfl⟩ := hc
  simp only [vc] at hv
  refine wp_seq (Z2u T hD x x' s _ PL a w _ hx hv h ?_)
  intro e s' PL' a' w' hK hS
  cases e with
  | nxt => exact Z2u T hD y y' s' K PL' a' w' Q hy hK hS hQ
  | ret => exact hQ .ret s' PL' a' w' hK hS
  | exit id => exact hQ (.exit id) s' PL' a' w' hK hS
 | .cond c x y, ic, s, K, PL, a, w, Q, hc, hv, h, hQ => by
  simp only [comp] at hc
  cases hcc : cX c with
  | none => rw [hcc] at hc; injection hc with hc; subst hc; exact hv.elim
  | some c' =>
  rw [hcc] at hc
  simp only [Option.bind_eq_bind, Option.bind_eq_some_iff, Option.pure_def, Option.some.injEq] at hc
  obtain ⟨x', hx, y', hy, rfl⟩ := hc
  simp only [vc] at hv
  split at hv
  ·rename_i b hb
   have d := Z4 h.1 hcc hb
   generalize hq : a.eval c = q at d
   cases d
   refine wp_cond hq ?_
   cases b with
   | true => exact Z2u T hD x x' s K PL a w Q hx hv h hQ
   | false => exact Z2u T hD y y' s K PL a w Q hy hv h hQ
  exact hv.elim
 | .block id c, ic, s, K, PL, a, w, Q, hc, hv, h, hQ => by
  simp only [comp, Option.map_eq_some_iff] at hc
  obtain ⟨c', hcc, rfl⟩ := hc
  simp only [vc] at hv
  refine wp_block (Z2u T hD c c' s _ PL a w _ hcc hv h ?_)
  intro e s' PL' a' w' hK hS
  cases e with
  | nxt => exact hQ .nxt s' PL' a' w' hK hS
  | ret => exact hQ .ret s' PL' a' w' hK hS
  | exit j =>
   simp only [] at hK
   simp only [exOf, Exit.inBlock]
   split at hK
   ·rename_i hj
    rw [if_pos ((nbeq j id).1 hj)]
    exact hQ .nxt s' PL' a' w' hK hS
   rename_i hj
   rw [if_neg ((Zm j id).1 hj)]
   exact hQ (.exit j) s' PL' a' w' hK hS
 | .loop c, ic, s, K, PL, a, w, Q, hc, hv, h, hQ => by
  have hc0 := hc
  simp only [comp, Option.map_eq_some_iff] at hc
  obtain ⟨c', hcc, rfl⟩ := hc
  simp only [vc] at hv
  exact hv.out (.loop c) PL a w Q hc0 h hQ
 | .rangeFunc f ps x y, ic, s, K, PL, a, w, Q, hc, hv, h, hQ => by
  have hc0 := hc
  simp only [comp] at hc
  split at hc
  ·simp only [Option.bind_eq_bind, Option.bind_eq_some_iff, Option.pure_def, Option.some.injEq] at hc
   obtain ⟨a', h1, b', h2, rfl⟩ := hc
   simp only [vc] at hv
   exact hv.out _ PL a w Q hc0 h hQ
  injection hc with hc; subst hc; exact hv.elim
 | .scope c, ic, s, K, PL, a, w, Q, hc, hv, h, hQ => by simp only [comp] at hc; injection hc with hc; subst hc; exact hv.elim
 | .label l, ic, s, K, PL, a, w, Q, hc, hv, h, hQ => by simp only [comp] at hc; injection hc with hc; subst hc; exact hv.elim
 | .goto l, ic, s, K, PL, a, w, Q, hc, hv, h, hQ => by simp only [comp] at hc; injection hc with hc; subst hc; exact hv.elim
 | .refuse r, ic, s, K, PL, a, w, Q, hc, hv, h, hQ => by simp only [comp] at hc; injection hc with hc; subst hc; exact hv.elim
def Le (C : Ctx) (s t : St) : Prop := ∀ PL a w, SatN C PL s a w → ∃ PL', SatN C PL' t a w
theorem LoopOK.intro (T : Tab P Γ) (hD : DrawOK P C Γ) {c : IC} {s : St} {K : Ex → St → Prop} {X : Type} (inv : X → St) (μ : X → Nat) (x0 : X) (h0 : Le C s (inv x0))
  (hr : ∀ x, vc Γ (LoopOK P C Γ) c (inv x) (fun e s' => match e with | .nxt => ∃ x', Le C s' (inv x') ∧ μ x' < μ x | .ret => K .ret s' | .exit id => K (.exit id) s')) : LoopOK P C Γ (.loop c) s K where
 out := by
  intro code PL a w Q hc h hQ
  obtain ⟨code', e0, hc'⟩ := Zgm hc
  subst e0
  clear hc
  have hc := hc'
  clear hc'
  obtain ⟨code, e0⟩ : ∃ code, code = code' := ⟨_, rfl⟩
  subst e0
  obtain ⟨PL0, h1⟩ := h0 PL a w h
  refine wp_loop_ghost (fun n a w => ∃ x PL, μ x = n ∧ SatN C PL (inv x) a w) (μ x0) ⟨x0, PL0, rfl, h1⟩ ?_
  rintro n a w ⟨x, PL, rfl, hx⟩
  refine Z2u T hD code c (inv x) _ PL a w _ hc (hr x) hx ?_
  intro e s' PL' a' w' hK hS
  cases e with
  | nxt =>
   obtain ⟨x', hle, hlt⟩ := hK
   obtain ⟨PL2, h2⟩ := hle PL' a' w' hS
   exact ⟨μ x', hlt, x', PL2, rfl, h2⟩
  | ret => exact hQ .ret s' PL' a' w' hK hS
  | exit id => exact hQ (.exit id) s' PL' a' w' hK hS
end
end Go.Proofs.Ytojbpjcfdjakkaa
end
section
set_option linter.unusedVariables false
set_option linter.unusedSimpArgs false
namespace Go.Proofs.Ytojbpjcfdjakkaa
open Go.RowKit
def allOb : List Prop → Prop
 | [] => True
 | [p] => p
 | p :: ps => p ∧ allOb ps
theorem Z8d : ∀ {ps : List Prop}, allOb ps → ∀ p ∈ ps, p
 | [], _, p, hp => by simp at hp
 | [q], h, p, hp => by rcases List.mem_singleton.1 hp with rfl; exact h
 | q :: r :: ps, h, p, hp => by
  obtain ⟨h1, h2⟩ := h
  rcases List.mem_cons.1 hp with rfl | hp
  ·exact h1
  exact Z8d h2 p hp
def alook : List (Nat × Nat) → Nat → Option Nat
 | [], _ => none
 | (j, i) :: l, k => match Nat.beq k j with | true => some i | false => alook l k
def sig (σ : List (Nat × Nat)) (nils : List Nat) (nx j : Nat) : Option Nat :=
 match nmem j nils with
 | true => none
 | false => match Nat.ble (j + 1) nx with
  | true => match alook σ j with
   | some i => some i
   | none => some j
  | false => none
def idOk (g : Nat → Option Nat) (id j : Nat) : Bool := match g j with | some i => Nat.beq id i | none => false
def vcmp : Value → Value → Option (List Prop)
 | .int k x, .int j y => match k == j with | true => some [x = y] | false => none
 | .bool x, .bool y => some [x = y]
 | .pointer none, .pointer none => some []
 | .nilFunc, .nilFunc => some []
 | .func (.yield l) u v, .func (.yield m) p q => some [Value.func (.yield l) u v = Value.func (.yield m) p q]
 | _, _ => none
def R.cmp : R → R → Option (List Prop)
 | .bs T l, .bs U m => match Nat.beq T U with | true => some [l = m] | false => none
 | .ints T k l, .ints U j m => match Nat.beq T U && k == j with | true => some [l = m] | false => none
 | .row T e l, .row U f m => match Nat.beq T U && e.eq f with | true => some [l = m] | false => none
 | _, _ => none
def R.nilP : R → Prop
 | .bs _ l => l = []
 | .ints _ _ l => l = []
 | .row _ _ l => l = []
mutual
noncomputable def SV.cmp (h : List (Nat × Ck)) (g : Nat → Option Nat) (nl : List Nat) : SV → SV → Option (List Prop × List Nat)
 | .v x, .v y => match vcmp x y with | some ps => some (ps, []) | none => none
 | .str l, .str m => some ([l = m], [])
 | .ptr id o, .ptr j q => match idOk g id j && Nat.beq o q with | true => some ([], []) | false => none
 | .ept id i o, .ept j k q => match idOk g id j && Nat.beq o q with | true => some ([i = k], []) | false => none
 | .esl id i, .esl j k => match idOk g id j with | true => some ([i = k], []) | false => none
 | .rpt r i o, .rpt t k q => match Nat.beq o q, R.cmp r t with | true, some ps => some (ps ++ [i = k], []) | _, _ => none
 | .sl id lo n, .sl j lo' n' => match idOk g id j with | true => some ([lo = lo', n = n'], []) | false => none
 | .wsl id, .wsl j => match idOk g id j with | true => some ([], []) | false => none
 | .mpv id, .mpv j => match idOk g id j with | true => some ([], []) | false => none
 | .wsl id, .sl j lo n => match idOk g id j, rowOf h id with | true, some r => some ([lo = 0, n = r.len], []) | _, _ => none
 | .nsl, .sl j lo n => match nmem j nl with | true => some ([lo = 0, n = 0], []) | false => none
 | .nsl, .nsl => some ([], [])
 | .nsl, .wsl j => match nmem j nl with | true => some ([], []) | false => none
 | .nsl, .rsl r => some ([r.nilP], [])
 | .rsl r, .rsl t => match R.cmp r t with | some ps => some (ps, []) | none => none
 | .wsl id, .rsl t => match rowOf h id with
  | some r => match R.cmp r t with | some ps => some (ps, [id]) | none => none
  | none => none
 | .sl id lo n, .rsl t => match rowOf h id with
  | some r => match R.cmp (r.sub lo n) t with | some ps => some (ps, [id]) | none => none
  | none => none
 | .agg l, .agg m => SV.cmpL h g nl l m
 | .tup l, .tup m => SV.cmpL h g nl l m
 | .fn f l, .fn q m => match Nat.beq f q with | true => SV.cmpL h g nl l m | false => none
 | _, _ => none
noncomputable def SV.cmpL (h : List (Nat × Ck)) (g : Nat → Option Nat) (nl : List Nat) : List SV → List SV → Option (List Prop × List Nat)
 | [], [] => some ([], [])
 | x :: xs, y :: ys => match SV.cmp h g nl x y with
  | some (ps, fs) => match SV.cmpL h g nl xs ys with
   | some (qs, gs) => some (ps ++ qs, fs ++ gs)
   | none => none
  | none => none
 | _, _ => none
end
noncomputable def Ck.cmp (h : List (Nat × Ck)) (g : Nat → Option Nat) (nl : List Nat) : Ck → Ck → Option (List Prop × List Nat)
 | .blk T l, .blk U m => match Nat.beq T U with | true => SV.cmpL h g nl l m | false => none
 | .row r, .row t => match R.cmp r t with | some ps => some (ps, []) | none => none
 | .prow T a n i, .prow U b m j => match Nat.beq T U && a.eq b && idOk g i j with | true => some ([n = m], []) | false => none
 | .gho a l none, .gho b m none => match a.eq b with | true => some ([l = m], []) | false => none
 | .gho a l (some (k, cs)), .gho b m (some (j, ds)) => match a.eq b with
  | true => (match SV.cmpL h g nl cs ds with
   | some (ps, fs) => some ((l = m) :: (k = j) :: ps, fs)
   | none => none)
  | false => none
 | .mp t l, .mp u m => match t.eq u with | true => some ([l = m], []) | false => none
 | _, _ => none
noncomputable def hpCmp (h : List (Nat × Ck)) (g : Nat → Option Nat) (nl : List Nat) : List (Nat × Ck) → Option (List Prop × List Nat)
 | [] => some ([], [])
 | (j, c) :: l => match nmem j nl with
  | true => (match c with
   | .row r => (match Nat.ble 1 r.sz with
    | true => (match hpCmp h g nl l with | some (qs, gs) => some (r.nilP :: qs, gs) | none => none)
    | false => none)
   | .prow _ tm n i => (match Nat.ble 1 tm.size && nmem i nl with
    | true => (match hpCmp h g nl l with | some (qs, gs) => some ((n = 0) :: qs, gs) | none => none)
    | false => none)
   | .gho _ d none => (match hpCmp h g nl l with | some (qs, gs) => some ((d = []) :: qs, gs) | none => none)
   | _ => none)
  | false => match g j with
   | some i => (match hget h i with
    | some d => (match Ck.cmp h g nl d c with
     | some (ps, fs) => (match hpCmp h g nl l with | some (qs, gs) => some (ps ++ qs, fs ++ gs) | none => none)
     | none => none)
    | none => none)
   | none => none
noncomputable def frCmp (h : List (Nat × Ck)) (g : Nat → Option Nat) (nl : List Nat) : List (Option SV) → List (Option SV) → Option (List Prop × List Nat)
 | [], [] => some ([], [])
 | _ :: xs, none :: ys => frCmp h g nl xs ys
 | some x :: xs, some y :: ys => match SV.cmp h g nl x y with
  | some (ps, fs) => (match frCmp h g nl xs ys with | some (qs, gs) => some (ps ++ qs, fs ++ gs) | none => none)
  | none => none
 | _, _ => none
def liveOf (g : Nat → Option Nat) : List (Nat × Ck) → List Nat
 | [] => []
 | (j, _) :: l => match g j with | some i => i :: liveOf g l | none => liveOf g l
def hnodup : List (Nat × Ck) → Bool
 | [] => true
 | (j, _) :: l => match hget l j with | some _ => false | none => hnodup l
def argsId (g : Nat → Option Nat) : Nat → Bool
 | 0 => true
 | n + 1 => match idOk g n n with | true => argsId g n | false => false
def nlts : List Nat → Nat → Bool
 | [], _ => true
 | i :: l, n => match Nat.ble (i + 1) n with | true => nlts l n | false => false
theorem Zjn : ∀ (l : List Nat) (n : Nat), nlts l n = true → ∀ i ∈ l, i < n
 | [], n, _, i, hi => by simp at hi
 | j :: l, n, h, i, hi => by
  unfold nlts at h
  cases hb : Nat.ble (j + 1) n with
  | false => rw [hb] at h; cases h
  | true =>
   rw [hb] at h
   rcases List.mem_cons.1 hi with rfl | hi
   ·have := Nat.le_of_ble_eq_true hb; omega
   exact Zjn l n h i hi
noncomputable def leP (k : Nat) (σ : List (Nat × Nat)) (nl : List Nat) (s t : St) : Prop :=
 match hpCmp s.hp (sig σ nl t.nx) nl t.hp, frCmp s.hp (sig σ nl t.nx) nl s.fr t.fr with
 | some (ps, fs), some (qs, gs) => match ndisj (fs ++ gs) (liveOf (sig σ nl t.nx) t.hp) && nnodup (liveOf (sig σ nl t.nx) t.hp) && hnodup t.hp && argsId (sig σ nl t.nx) k && Nat.ble k t.nx && nlts nl t.nx with
  | true => allOb (ps ++ qs)
  | false => False
 | _, _ => False
theorem Zcr {r : R} (h : r.nilP) : rlen r = 0 := by cases r <;> simp only [R.nilP] at h <;> subst h <;> rfl
theorem Zyh {x y : Value} {ps : List Prop} (h : vcmp x y = some ps) (hp : ∀ p ∈ ps, p) : x = y := by
 unfold vcmp at h
 split at h
 ·split at h
  ·rename_i hk
   injection h with h; subst h
   have := LawfulBEq.eq_of_beq hk
   subst this
   rw [hp _ (List.mem_singleton.2 rfl)]
  cases h
 ·injection h with h; subst h
  rw [hp _ (List.mem_singleton.2 rfl)]
 ·rfl
 ·rfl
 ·injection h with h; subst h
  exact hp _ (List.mem_singleton.2 rfl)
 cases h
theorem Z6a {r t : R} {ps : List Prop} (h : R.cmp r t = some ps) (hp : ∀ p ∈ ps, p) : r = t := by
 cases r <;> cases t <;> simp only [R.cmp] at h <;> try (cases h; done)
 ·split at h
  ·rename_i hk
   injection h with h; subst h
   have := (nbeq _ _).1 hk
   subst this
   rw [hp _ (List.mem_singleton.2 rfl)]
  cases h
 ·split at h
  ·rename_i hk
   injection h with h; subst h
   rw [Bool.and_eq_true] at hk
   have e1 := (nbeq _ _).1 hk.1
   have e2 := LawfulBEq.eq_of_beq hk.2
   subst e1; subst e2
   rw [hp _ (List.mem_singleton.2 rfl)]
  cases h
 split at h
 ·rename_i hk
  injection h with h; subst h
  rw [Bool.and_eq_true] at hk
  have e1 := (nbeq _ _).1 hk.1
  have e2 := Zv _ _ hk.2
  subst e1; subst e2
  rw [hp _ (List.mem_singleton.2 rfl)]
 cases h
theorem Z1u {g : Nat → Option Nat} {id j : Nat} (h : idOk g id j = true) : g j = some id := by
 unfold idOk at h
 cases hg : g j with
 | none => rw [hg] at h; cases h
 | some i => rw [hg] at h; simp only [] at h; rw [(nbeq id i).1 h]
theorem Zl9 {h : List (Nat × Ck)} {id : Nat} {r : R} (e : rowOf h id = some r) : ∃ r, hget h id = some (.row r) := ⟨r, Zf e⟩
section
variable {C : Ctx} {PL PL' : Nat → Option Pl} {hp hp2 : List (Nat × Ck)} {Fr : Nat → Prop} {w : World} {Av' : Nat → Prop} {g : Nat → Option Nat} {nl : List Nat}
structure Tell (C : Ctx) (PL PL' : Nat → Option Pl) (hp : List (Nat × Ck)) (Fr : Nat → Prop) (w : World) (Av' : Nat → Prop) (g : Nat → Option Nat) (nl fz : List Nat) : Prop where
 H : HSat C PL hp Fr w
 A : ∀ b, b < w.heap.size → Av' b → Avo C PL hp b
 P : ∀ j i p, g j = some i → PL i = some p → PL' j = some p
 nil : ∀ j, j ∈ nl → ∃ sz, PL' j = some ⟨none, 0, 0, sz, []⟩
 fz : ∀ id ∈ fz, ∀ p b, PL id = some p → p.a = some ⟨b, 0, none⟩ → (∃ r, hget hp id = some (.row r)) → ¬ Av' b
mutual
theorem Z8m : ∀ (a b : SV) (ps : List Prop) (fs : List Nat) (x : Value), SV.cmp hp g nl a b = some (ps, fs) → (∀ p ∈ ps, p) → Tell C PL PL' hp Fr w Av' g nl fs → Den PL w (Avo C PL hp) a x → Den PL' w Av' b x
 | .v u, b, ps, fs, x, h, hps, T, d => by
  cases b <;> simp only [SV.cmp] at h <;> try (cases h; done)
  split at h
  ·rename_i qs hq
   injection h with h; injection h with h1 h2; subst h1
   have := Zyh hq hps
   subst this
   cases d
   exact .v _
  cases h
 | .str l, b, ps, fs, x, h, hps, T, d => by
  cases b <;> simp only [SV.cmp] at h <;> try (cases h; done)
  injection h with h; injection h with h1 h2; subst h1
  have := hps _ (List.mem_singleton.2 rfl)
  subst this
  cases d
  exact .str _
 | .ptr id o, b, ps, fs, x, h, hps, T, d => by
  cases b <;> simp only [SV.cmp] at h <;> try (cases h; done)
  split at h
  ·rename_i hk
   rw [Bool.and_eq_true] at hk
   have e1 := Z1u hk.1
   have e2 := (nbeq _ _).1 hk.2
   subst e2
   cases d with
   | ptr _ _ bb p hp' ha => exact .ptr _ _ bb p (T.P _ _ _ e1 hp') ha
  cases h
 | .ept id i o, b, ps, fs, x, h, hps, T, d => by
  cases b <;> simp only [SV.cmp] at h <;> try (cases h; done)
  split at h
  ·rename_i hk
   injection h with h; injection h with h1 h2; subst h1
   have := hps _ (List.mem_singleton.2 rfl)
   subst this
   rw [Bool.and_eq_true] at hk
   have e1 := Z1u hk.1
   have e2 := (nbeq _ _).1 hk.2
   subst e2
   cases d with
   | ept _ _ _ bb p hp' ha hi => exact .ept _ _ _ bb p (T.P _ _ _ e1 hp') ha hi
  cases h
 | .esl id i, b, ps, fs, x, h, hps, T, d => by
  cases b <;> simp only [SV.cmp] at h <;> try (cases h; done)
  split at h
  ·rename_i hk
   injection h with h; injection h with h1 h2; subst h1
   have := hps _ (List.mem_singleton.2 rfl)
   subst this
   have e1 := Z1u hk
   cases d with
   | esl _ _ bb p hp' ha hi => exact .esl _ _ bb p (T.P _ _ _ e1 hp') ha hi
  cases h
 | .rpt r i o, b, ps, fs, x, h, hps, T, d => by
  cases b <;> simp only [SV.cmp] at h <;> try (cases h; done)
  split at h
  ·rename_i qs hk hq
   injection h with h; injection h with h1 h2; subst h1
   have e0 := Z6a hq (fun p hp => hps p (List.mem_append_left _ hp))
   have e1 := hps _ (List.mem_append_right _ (List.mem_singleton.2 rfl))
   have e2 := (nbeq _ _).1 hk
   subst e0; subst e1; subst e2
   cases d with
   | rpt _ _ _ A cap hd hi => exact .rpt _ _ _ A cap (Zw T.A _ _ hd) hi
  cases h
 | .sl id lo n, b, ps, fs, x, h, hps, T, d => by
  cases b with
  | sl j lo' n' =>
   simp only [SV.cmp] at h
   split at h
   ·rename_i hk
    injection h with h; injection h with h1 h2; subst h1
    have e1 := Z1u hk
    have e2 := hps _ (List.mem_cons_self ..)
    have e3 := hps _ (List.mem_cons_of_mem _ (List.mem_singleton.2 rfl))
    subst e2; subst e3
    cases d with
    | sl _ _ _ p A cap hp' a1 a2 a3 a4 => exact .sl _ _ _ p A cap (T.P _ _ _ e1 hp') a1 a2 a3 a4
   cases h
  | rsl t =>
   simp only [SV.cmp] at h
   split at h
   ·rename_i r hr
    split at h
    ·rename_i qs hq
     injection h with h; injection h with h1 h2; subst h1; subst h2
     have e := Z6a hq hps
     rw [← e]
     exact Zw (fun _ _ h => h) _ _ (Z3w T.H (id := id) (.inr ⟨lo, n, rfl⟩) (by simp [rowS, hr]) d T.A (fun p b a1 a2 => T.fz id (List.mem_singleton.2 rfl) p b a1 a2 (Zl9 hr)))
    cases h
   cases h
  | _ => simp only [SV.cmp] at h; cases h
 | .mpv id, b, ps, fs, x, h, hps, T, d => by
  cases b <;> simp only [SV.cmp] at h <;> try (cases h; done)
  split at h
  ·rename_i hk
   have e1 := Z1u hk
   cases d with
   | mpv _ bb p hp' ha => exact .mpv _ bb p (T.P _ _ _ e1 hp') ha
  cases h
 | .wsl id, b, ps, fs, x, h, hps, T, d => by
  cases b with
  | wsl j =>
   simp only [SV.cmp] at h
   split at h
   ·rename_i hk
    have e1 := Z1u hk
    cases d with
    | wsl _ p hp' => exact .wsl _ p (T.P _ _ _ e1 hp')
   cases h
  | sl j lo n =>
   simp only [SV.cmp] at h
   split at h
   ·rename_i r hk hr
    injection h with h; injection h with h1 h2; subst h1
    have e1 := Z1u hk
    have e2 := hps _ (List.mem_cons_self ..)
    have e3 := hps _ (List.mem_cons_of_mem _ (List.mem_singleton.2 rfl))
    subst e2
    rw [R.len_eq] at e3
    cases d with
    | wsl _ p hp' =>
     have hck : CkOk PL w (fun b => C.Z b ∨ Own PL hp b) id (.row r) := T.H.ck id _ (by
      unfold rowOf at hr
      split at hr
      ·rename_i q hq; injection hr with hr; subst hr; exact hq
      cases hr)
     obtain ⟨p2, g1, g2, g3, g4, g5⟩ := hck
     rw [hp'] at g1; injection g1 with g1; subst g1
     have e4 : n = p.len := by rw [e3, g2]
     subst e4
     refine .sl j 0 p.len p p.a p.cap (T.P _ _ _ e1 hp') (by omega) ?_ Iff.rfl ?_
     ·rcases g5 with ⟨_, k2, k3⟩ | ⟨_, _, _, _, k3, _⟩ <;> omega
     intro _
     rcases g5 with ⟨k1, _, _⟩ | ⟨b, _, k1, _⟩
     ·rw [k1]; rfl
     rw [k1, Nat.zero_mul]; rfl
   cases h
  | rsl t =>
   simp only [SV.cmp] at h
   split at h
   ·rename_i r hr
    split at h
    ·rename_i qs hq
     injection h with h; injection h with h1 h2; subst h1; subst h2
     have e := Z6a hq hps
     rw [← e]
     exact Zw (fun _ _ h => h) _ _ (Z3w T.H (id := id) (.inl rfl) (by simpa [rowS] using hr) d T.A (fun p b a1 a2 => T.fz id (List.mem_singleton.2 rfl) p b a1 a2 (Zl9 hr)))
    cases h
   cases h
  | _ => simp only [SV.cmp] at h; cases h
 | .nsl, b, ps, fs, x, h, hps, T, d => by
  cases b with
  | nsl => cases d; exact .nsl
  | wsl j =>
   simp only [SV.cmp] at h
   split at h
   ·rename_i hk
    obtain ⟨sz, hsz⟩ := T.nil j ((Zk _ _).1 hk)
    cases d
    exact .wsl j _ hsz
   cases h
  | sl j lo n =>
   simp only [SV.cmp] at h
   split at h
   ·rename_i hk
    injection h with h; injection h with h1 h2; subst h1
    have e2 := hps _ (List.mem_cons_self ..)
    have e3 := hps _ (List.mem_cons_of_mem _ (List.mem_singleton.2 rfl))
    subst e2; subst e3
    obtain ⟨sz, hsz⟩ := T.nil j ((Zk _ _).1 hk)
    cases d
    exact .sl j 0 0 _ none 0 hsz (by simp) (Nat.le_refl _) (by simp) (fun h => absurd rfl h)
   cases h
  | rsl r =>
   simp only [SV.cmp] at h
   injection h with h; injection h with h1 h2; subst h1
   cases d
   exact Z1j (Zcr (hps _ (List.mem_singleton.2 rfl))) .nsl
  | _ => simp only [SV.cmp] at h; cases h
 | .rsl r, b, ps, fs, x, h, hps, T, d => by
  cases b <;> simp only [SV.cmp] at h <;> try (cases h; done)
  split at h
  ·rename_i qs hq
   injection h with h; injection h with h1 h2; subst h1
   have e := Z6a hq hps
   subst e
   exact Zw T.A _ _ d
  cases h
 | .agg l, b, ps, fs, x, h, hps, T, d => by
  cases b <;> simp only [SV.cmp] at h <;> try (cases h; done)
  cases d with
  | agg _ cs hl hd h1 => obtain ⟨e1, e2⟩ := Z4v l _ ps fs cs h hps T ⟨hl, hd⟩; exact .agg _ cs e1 e2 h1
 | .tup l, b, ps, fs, x, h, hps, T, d => by
  cases b <;> simp only [SV.cmp] at h <;> try (cases h; done)
  cases d with
  | tup _ cs hl hd => obtain ⟨e1, e2⟩ := Z4v l _ ps fs cs h hps T ⟨hl, hd⟩; exact .tup _ cs e1 e2
 | .fn f l, b, ps, fs, x, h, hps, T, d => by
  cases b <;> simp only [SV.cmp] at h <;> try (cases h; done)
  split at h
  ·rename_i hk
   have e := (nbeq _ _).1 hk
   subst e
   cases d with
   | fn _ _ cs hl hd => obtain ⟨e1, e2⟩ := Z4v l _ ps fs cs h hps T ⟨hl, hd⟩; exact .fn _ _ cs e1 e2
  cases h
theorem Z4v : ∀ (l m : List SV) (ps : List Prop) (fs : List Nat) (cs : List Value), SV.cmpL hp g nl l m = some (ps, fs) → (∀ p ∈ ps, p) → Tell C PL PL' hp Fr w Av' g nl fs → DensA PL w (Avo C PL hp) l cs → DensA PL' w Av' m cs
 | [], m, ps, fs, cs, h, hps, T, d => by
  cases m <;> simp only [SV.cmpL] at h <;> try (cases h; done)
  exact ⟨d.1, fun j a _ => absurd a (by simp)⟩
 | x :: xs, m, ps, fs, cs, h, hps, T, d => by
  cases m with
  | nil => simp only [SV.cmpL] at h; cases h
  | cons y ys =>
   simp only [SV.cmpL] at h
   split at h
   ·rename_i p1 f1 h1
    split at h
    ·rename_i p2 f2 h2
     injection h with h; injection h with e1 e2; subst e1; subst e2
     obtain ⟨c, cs', rfl⟩ : ∃ c cs', cs = c :: cs' := by
      cases cs with
      | nil => have := d.1; simp at this
      | cons c cs' => exact ⟨c, cs', rfl⟩
     have d0 := Z8m x y p1 f1 c h1 (fun p hp => hps p (List.mem_append_left _ hp)) ⟨T.H, T.A, T.P, T.nil, fun id hid => T.fz id (List.mem_append_left _ hid)⟩ (d.2 0 (by simp) (by simp))
     have dr := Z4v xs ys p2 f2 cs' h2 (fun p hp => hps p (List.mem_append_right _ hp)) ⟨T.H, T.A, T.P, T.nil, fun id hid => T.fz id (List.mem_append_right _ hid)⟩ ⟨by have := d.1; simpa using this, fun j a b => d.2 (j + 1) (by simpa using a) (by simpa using b)⟩
     refine ⟨by simp [dr.1], fun j a b => ?_⟩
     cases j with
     | zero => exact d0
     | succ j => exact dr.2 j (by simpa using a) (by simpa using b)
    cases h
   cases h
end
theorem Z2m : ∀ {l : List (Nat × Ck)} {j : Nat} {c : Ck}, hget l j = some c → (j, c) ∈ l
 | [], j, c, h => by simp [hget] at h
 | (i, d) :: l, j, c, h => by
  unfold hget at h
  cases hb : Nat.beq j i with
  | true =>
   rw [hb] at h
   simp only [] at h
   injection h with h
   have := (nbeq j i).1 hb
   subst this; subst h
   exact List.mem_cons_self ..
  | false => rw [hb] at h; exact List.mem_cons_of_mem _ (Z2m h)
theorem Z60 : ∀ (l : List (Nat × Ck)) (ps : List Prop) (fs : List Nat), hpCmp hp g nl l = some (ps, fs) → (∀ p ∈ ps, p) → ∀ j c, (j, c) ∈ l →
  (j ∈ nl ∧ ((∃ r, c = .row r ∧ r.nilP ∧ 0 < r.sz) ∨ (∃ T tm i, c = .prow T tm 0 i ∧ 0 < tm.size ∧ i ∈ nl) ∨ ∃ tm, c = .gho tm [] none)) ∨ (j ∉ nl ∧ ∃ i d qs gs, g j = some i ∧ hget hp i = some d ∧ Ck.cmp hp g nl d c = some (qs, gs) ∧ (∀ p ∈ qs, p) ∧ ∀ id ∈ gs, id ∈ fs)
 | [], ps, fs, h, hps, j, c, hm => by simp at hm
 | (j0, c0) :: l, ps, fs, h, hps, j, c, hm => by
  unfold hpCmp at h
  cases hn : nmem j0 nl with
  | true =>
   rw [hn] at h
   simp only [] at h
   split at h
   ·rename_i r
    split at h
    ·rename_i hz
     split at h
     ·rename_i qs gs hrec
      injection h with h; injection h with e1 e2; subst e1; subst e2
      rcases List.mem_cons.1 hm with e | hm
      ·injection e with e1 e2; subst e1; subst e2
       exact .inl ⟨(Zk _ _).1 hn, .inl ⟨r, rfl, hps _ (List.mem_cons_self ..), by have := Nat.le_of_ble_eq_true hz; omega⟩⟩
      exact Z60 l qs gs hrec (fun p hp => hps p (List.mem_cons_of_mem _ hp)) j c hm
     cases h
    cases h
   ·rename_i T tm n i
    split at h
    ·rename_i hz
     rw [Bool.and_eq_true] at hz
     split at h
     ·rename_i qs gs hrec
      injection h with h; injection h with e1 e2; subst e1; subst e2
      rcases List.mem_cons.1 hm with e | hm
      ·injection e with e1 e2; subst e1; subst e2
       have e3 := hps _ (List.mem_cons_self ..)
       subst e3
       exact .inl ⟨(Zk _ _).1 hn, .inr (.inl ⟨T, tm, i, rfl, by have := Nat.le_of_ble_eq_true hz.1; omega, (Zk _ _).1 hz.2⟩)⟩
      exact Z60 l qs gs hrec (fun p hp => hps p (List.mem_cons_of_mem _ hp)) j c hm
     cases h
    cases h
   ·rename_i tm d
    split at h
    ·rename_i qs gs hrec
     injection h with h; injection h with e1 e2; subst e1; subst e2
     rcases List.mem_cons.1 hm with e | hm
     ·injection e with e1 e2; subst e1; subst e2
      have e3 := hps _ (List.mem_cons_self ..)
      subst e3
      exact .inl ⟨(Zk _ _).1 hn, .inr (.inr ⟨tm, rfl⟩)⟩
     exact Z60 l qs gs hrec (fun p hp => hps p (List.mem_cons_of_mem _ hp)) j c hm
    cases h
   cases h
  | false =>
   rw [hn] at h
   simp only [] at h
   split at h
   ·rename_i i hg
    split at h
    ·rename_i d hd
     split at h
     ·rename_i p1 f1 hc
      split at h
      ·rename_i qs gs hrec
       injection h with h; injection h with e1 e2; subst e1; subst e2
       rcases List.mem_cons.1 hm with e | hm
       ·injection e with e1 e2; subst e1; subst e2
        refine .inr ⟨(fun hx => by rw [(Zk _ _).2 hx] at hn; cases hn), i, d, p1, f1, hg, hd, hc, fun p hp => hps p (List.mem_append_left _ hp), fun id hid => List.mem_append_left _ hid⟩
       rcases Z60 l qs gs hrec (fun p hp => hps p (List.mem_append_right _ hp)) j c hm with hq | ⟨a0, a1, a2, a3, a4, a5, a6, a7, a8, a9⟩
       ·exact .inl hq
       exact .inr ⟨a0, a1, a2, a3, a4, a5, a6, a7, a8, fun id hid => List.mem_append_right _ (a9 id hid)⟩
      cases h
     cases h
    cases h
   cases h
theorem Z63 : ∀ (l : List (Nat × Ck)) (j i : Nat) (c : Ck), (j, c) ∈ l → g j = some i → i ∈ liveOf g l
 | [], j, i, c, hm, _ => by simp at hm
 | (j0, c0) :: l, j, i, c, hm, hg => by
  unfold liveOf
  rcases List.mem_cons.1 hm with e | hm
  ·injection e with e1 e2; subst e1
   rw [hg]
   exact List.mem_cons_self ..
  cases hg0 : g j0 with
  | none => exact Z63 l j i c hm hg
  | some i0 => exact List.mem_cons_of_mem _ (Z63 l j i c hm hg)
theorem Zja : ∀ (l : List (Nat × Ck)), hnodup l = true → (liveOf g l).Nodup → ∀ j j' i c c', (j, c) ∈ l → (j', c') ∈ l → g j = some i → g j' = some i → j = j'
 | [], _, _, j, j', i, c, c', hm, _, _, _ => by simp at hm
 | (j0, c0) :: l, hn, hd, j, j', i, c, c', hm, hm', hg, hg' => by
  unfold hnodup at hn
  cases h0 : hget l j0 with
  | some _ => rw [h0] at hn; cases hn
  | none =>
   rw [h0] at hn
   simp only [] at hn
   unfold liveOf at hd
   rcases List.mem_cons.1 hm with e | hmA <;> rcases List.mem_cons.1 hm' with e' | hmB
   ·injection e with e1 _; injection e' with e2 _; rw [e1, e2]
   ·injection e with e1 _; subst e1
    rw [hg] at hd
    exact absurd (Z63 l j' i c' hmB hg') (List.nodup_cons.1 hd).1
   ·injection e' with e1 _; subst e1
    rw [hg'] at hd
    exact absurd (Z63 l j i c hmA hg) (List.nodup_cons.1 hd).1
   refine Zja l hn ?_ j j' i c c' hmA hmB hg hg'
   cases hgg : g j0 with
   | none => rw [hgg] at hd; exact hd
   | some i0 => rw [hgg] at hd; exact (List.nodup_cons.1 hd).2
end
theorem Zlk {σ : List (Nat × Nat)} {nl : List Nat} {nx j i : Nat} (h : sig σ nl nx j = some i) : j ∉ nl ∧ j < nx := by
 unfold sig at h
 cases hn : nmem j nl with
 | true => rw [hn] at h; cases h
 | false =>
  rw [hn] at h
  simp only [] at h
  cases hb : Nat.ble (j + 1) nx with
  | true => exact ⟨(fun hx => by rw [(Zk _ _).2 hx] at hn; cases hn), by have := Nat.le_of_ble_eq_true hb; omega⟩
  | false => rw [hb] at h; cases h
theorem Zg7 {g : Nat → Option Nat} : ∀ (n : Nat), argsId g n = true → ∀ i, i < n → g i = some i
 | 0, _, i, hi => by omega
 | n + 1, h, i, hi => by
  unfold argsId at h
  cases h1 : idOk g n n with
  | false => rw [h1] at h; cases h
  | true =>
   rw [h1] at h
   by_cases e : i = n
   ·subst e; exact Z1u h1
   exact Zg7 n h i (by omega)
section
variable {C : Ctx} {PL : Nat → Option Pl} {hp hp2 : List (Nat × Ck)} {Fr : Nat → Prop} {w : World}
theorem Z8n {h : List (Nat × Ck)} {g : Nat → Option Nat} {nl : List Nat} {d c : Ck} {ps : List Prop} {fs : List Nat} (e : Ck.cmp h g nl d c = some (ps, fs)) (hps : ∀ p ∈ ps, p) (p : Pl) (b : Nat) : c.has p b → d.has p b := by
 unfold Ck.cmp at e
 split at e
 ·exact fun h => h
 ·exact fun h => h
 ·exact fun h => h
 ·exact fun h => h
 ·split at e
  ·split at e
   ·injection e with e; injection e with e1 e2; subst e1
    have := hps _ (List.mem_cons_of_mem _ (List.mem_cons_self ..))
    subst this
    exact fun h => h
   cases e
  cases e
 ·exact fun h => h
 cases e
theorem Zcs {c : Ck} {sz : Nat} {nl : List Nat} (h : (∃ r, c = .row r ∧ r.nilP ∧ 0 < r.sz) ∨ (∃ T tm i, c = .prow T tm 0 i ∧ 0 < tm.size ∧ i ∈ nl) ∨ ∃ tm, c = .gho tm [] none) {b : Nat} (hb : c.has ⟨none, 0, 0, sz, []⟩ b) : False := by
 rcases h with ⟨r, rfl, _⟩ | ⟨T, tm, i, rfl, _⟩ | ⟨tm, rfl⟩
 ·cases hb
 ·cases hb
 obtain ⟨i, e, h1, _⟩ := hb
 simp at h1
open Classical in
theorem tell {hpA : List (Nat × Ck)} (hpe : hpA = hp) (H : HSat C PL hp Fr w) (k : Nat) (hk : C.k = k) (σ : List (Nat × Nat)) (nl : List Nat) (nx : Nat) {ps : List Prop} {fs : List Nat} (hc : hpCmp hp (sig σ nl nx) nl hp2 = some (ps, fs)) (hps : ∀ p ∈ ps, p) (gs : List Nat) (hfs : ∀ id ∈ fs, id ∈ gs)
  (hdj : ndisj gs (liveOf (sig σ nl nx) hp2) = true) (hnd : nnodup (liveOf (sig σ nl nx) hp2) = true) (hhn : hnodup hp2 = true) (hargs : argsId (sig σ nl nx) k = true) :
  ∃ PL', HSat C PL' hp2 (fun i => nx ≤ i ∧ i ∉ nl) w ∧ Tell C PL PL' hp Fr w (Avo C PL' hp2) (sig σ nl nx) nl gs := by
 let szOf : Nat → Nat := fun j => match hget hp2 j with | some (.row r) => r.sz | some (.prow _ tm _ _) => tm.size | _ => 0
 let PL' : Nat → Option Pl := fun j => if j ∈ nl then some ⟨none, 0, 0, szOf j, []⟩ else (sig σ nl nx j).bind PL
 have hpt := Z60 (g := sig σ nl nx) hp2 ps fs hc hps
 have hPsig : ∀ j i, sig σ nl nx j = some i → PL' j = PL i := fun j i e => by simp [PL', (Zlk e).1, e]
 have own2 : ∀ b, Own PL' hp2 b → ∃ j i c d p, hget hp2 j = some c ∧ sig σ nl nx j = some i ∧ hget hp i = some d ∧ PL i = some p ∧ d.has p b ∧ PL' j = some p := by
  rintro b ⟨j, c, p, h1, h2, h3⟩
  rcases hpt j c (Z2m h1) with ⟨hj, hn⟩ | ⟨hj, i, d, qs, gs', e1, e2, e3, e4, _⟩
  ·simp only [PL', if_pos hj] at h2
   injection h2 with h2
   subst h2
   exact (Zcs hn h3).elim
  exact ⟨j, i, c, d, p, h1, e1, e2, by rw [← hPsig j i e1]; exact h2, Z8n e3 e4 p b h3, h2⟩
 have hA : ∀ b, b < w.heap.size → Avo C PL' hp2 b → Avo C PL hp b := by
  rintro b hb (hz | ho)
  ·exact .inl hz
  obtain ⟨j, i, c, d, p, h1, h2, h3, h4, h5, h6⟩ := own2 b ho
  exact .inr ⟨i, d, p, h3, h4, h5⟩
 have hfz : ∀ id ∈ gs, ∀ p b, PL id = some p → p.a = some ⟨b, 0, none⟩ → (∃ r, hget hp id = some (.row r)) → ¬ Avo C PL' hp2 b := by
  intro id hid p b hp0 ha hlive hx
  obtain ⟨r0, hc0⟩ := hlive
  rcases hx with hz | ho
  ·exact (H.own b ⟨id, _, p, hc0, hp0, ha⟩).1 hz
  obtain ⟨j, i, c, d, p', h1, h2, h3, h4, h5, h6⟩ := own2 b ho
  have := H.dj id i _ d p p' b hc0 h3 hp0 h4 ha h5
  subst this
  exact Z2o _ _ hdj id hid (Z63 hp2 j id c (Z2m h1) h2)
 have hnil : ∀ j, j ∈ nl → ∃ sz, PL' j = some ⟨none, 0, 0, sz, []⟩ := fun j hj => ⟨szOf j, by simp [PL', hj]⟩
 have hT : ∀ fz : List Nat, (∀ id ∈ fz, id ∈ gs) → Tell C PL PL' hp Fr w (Avo C PL' hp2) (sig σ nl nx) nl fz := fun fz hz =>
  ⟨H, hA, fun j i p e hp => by rw [hPsig j i e]; exact hp, hnil, fun id hid => hfz id (hz id hid)⟩
 refine ⟨PL', ⟨?_, ?_, ?_, H.os, H.tape, H.output, H.size, H.old, H.zlt, ?_, ?_⟩, hT gs (fun _ h => h)⟩
 ·intro j c hj
  rcases hpt j c (Z2m hj) with ⟨hn, ⟨r, rfl, hr, hz⟩ | ⟨T, tm, i, rfl, hz, hi⟩ | ⟨tm, rfl⟩⟩ | ⟨hn, i, d, qs, gs', e1, e2, e3, e4, e5⟩
  ·refine Z54 (p := ⟨none, 0, 0, r.sz, []⟩) ?_ ?_ rfl hz rfl rfl (Zcr hr)
   ·simp only [PL', if_pos hn, szOf, hj]
   exact (Zcr hr).symm
  ·refine ⟨⟨none, 0, 0, tm.size, []⟩, ⟨none, 0, 0, szOf i, []⟩, by simp only [PL', if_pos hn, szOf, hj], by simp only [PL', if_pos hi], rfl, rfl, rfl, hz, fun i e h => (by simp at h), .inl ⟨rfl, rfl, rfl⟩⟩
  ·exact ⟨⟨none, 0, 0, szOf j, []⟩, by simp only [PL', if_pos hn], rfl, ⟨fun i e h => (by simp at h), fun i j e f b h => (by simp at h)⟩, fun i e h => (by simp at h)⟩
  have hck := H.ck i d e2
  have T := hT gs' (fun id hid => hfs id (e5 id hid))
  have hij : ∀ p, PL i = some p → PL' j = some p := fun p hp => by rw [hPsig j i e1]; exact hp
  subst hpe
  cases d with
  | blk T0 l =>
   cases c with
   | row r => simp only [Ck.cmp] at e3; cases e3
   | prow _ _ _ _ => simp only [Ck.cmp] at e3; cases e3
   | gho _ _ _ => simp only [Ck.cmp] at e3; cases e3
   | mp _ _ => simp only [Ck.cmp] at e3; cases e3
   | blk U m =>
    simp only [Ck.cmp] at e3
    split at e3
    ·rename_i hk
     have := (nbeq _ _).1 hk
     subst this
     obtain ⟨p, b, cs, hp, ha, hh, hl, hd⟩ := hck
     have := Z4v l m qs gs' cs.toList e3 e4 T ⟨by simpa using hl, fun j a b => by have h0 : Den PL w (Avo C PL hpA) l[j] (cs[j]'(by simpa using b)) := (hd j a (by simpa using b)).1; simpa using h0⟩
     refine ⟨p, b, cs, hij _ hp, ha, hh, by have := this.1; simpa using this, fun k h1 h2 => ⟨?_, ?_⟩⟩
     ·have h0 := this.2 k h1 (by simpa using h2)
      show Den PL' w (Avo C PL' hp2) m[k] cs[k]
      simpa using h0
     have hk : k < l.length := by omega
     exact (hd k hk h2).2
    cases e3
  | row r =>
   cases c with
   | blk U m => simp only [Ck.cmp] at e3; cases e3
   | prow _ _ _ _ => simp only [Ck.cmp] at e3; cases e3
   | gho _ _ _ => simp only [Ck.cmp] at e3; cases e3
   | mp _ _ => simp only [Ck.cmp] at e3; cases e3
   | row t =>
    simp only [Ck.cmp] at e3
    split at e3
    ·rename_i ps' hq
     injection e3 with e3; injection e3 with e31 e32; subst e31
     have := Z6a hq e4
     subst this
     exact Z6b (ρ := fun _ => none) (fun _ _ _ h => by cases h) hij rfl (fun r A d => Zw hA _ _ d) hck
    cases e3
  | prow T0 tm n i0 =>
   cases c with
   | prow U b m j0 =>
    simp only [Ck.cmp] at e3
    split at e3
    ·rename_i hk
     simp only [Bool.and_eq_true] at hk
     injection e3 with e3; injection e3 with e31 e32; subst e31
     have k1 := (nbeq _ _).1 hk.1.1
     have k2 := Zb _ _ hk.1.2
     have k3 := Z1u hk.2
     have k4 := e4 _ (List.mem_singleton.2 rfl)
     subst k1; subst k2; subst k4
     obtain ⟨p, q, hp, hq, h1⟩ := hck
     exact ⟨p, q, hij _ hp, by rw [hPsig _ _ k3]; exact hq, h1⟩
    cases e3
   | _ => simp only [Ck.cmp] at e3; cases e3
  | mp t l =>
   cases c with
   | mp u m =>
    simp only [Ck.cmp] at e3
    split at e3
    ·rename_i hk
     injection e3 with e3; injection e3 with e31 e32; subst e31
     have k1 := Zv _ _ hk
     have k4 := e4 _ (List.mem_singleton.2 rfl)
     subst k1; subst k4
     exact Z6b (ρ := fun _ => none) (fun _ _ _ h => by cases h) hij rfl (fun r A d => Zw hA _ _ d) hck
    cases e3
   | _ => simp only [Ck.cmp] at e3; cases e3
  | gho tm l o =>
   cases c with
   | gho b m o2 =>
    cases o with
    | none =>
     cases o2 with
     | some _ => simp only [Ck.cmp] at e3; cases e3
     | none =>
      simp only [Ck.cmp] at e3
      split at e3
      ·rename_i hk
       injection e3 with e3; injection e3 with e31 e32; subst e31
       have k1 := Zb _ _ hk
       have k4 := e4 _ (List.mem_singleton.2 rfl)
       subst k1; subst k4
       exact Z6b (ρ := fun _ => none) (fun _ _ _ h => by cases h) hij rfl (fun r A d => Zw hA _ _ d) hck
      cases e3
    | some o =>
     obtain ⟨k, cs⟩ := o
     cases o2 with
     | none => simp only [Ck.cmp] at e3; cases e3
     | some o2 =>
      obtain ⟨k2, ds⟩ := o2
      simp only [Ck.cmp] at e3
      split at e3
      ·rename_i hk
       split at e3
       ·rename_i ps2 fs2 hq
        injection e3 with e3; injection e3 with e31 e32; subst e31; subst e32
        have k1 := Zb _ _ hk
        have k4 := e4 _ (List.mem_cons_self ..)
        have k5 := e4 _ (List.mem_cons_of_mem _ (List.mem_cons_self ..))
        subst k1; subst k4; subst k5
        obtain ⟨p, hp, h1, h2, h3⟩ := hck
        refine ⟨p, hij _ hp, h1, h2, fun i e he => ⟨fun hk => ?_, fun hk => TmOk.any _ _ _ _ (.inl fun r A d => Zw hA _ _ d) ((h3 i e he).2 hk)⟩⟩
        obtain ⟨a1, a2, a3⟩ := (h3 i e he).1 hk
        have dd := Z4v cs ds ps2 _ e.1 hq (fun p hp => e4 p (List.mem_cons_of_mem _ (List.mem_cons_of_mem _ hp))) T ⟨by omega, fun j x y => (a3 j x y).1⟩
        have hl2 := dd.1
        exact ⟨by omega, a2, fun j x y => ⟨dd.2 j x y, (a3 j (by omega) y).2⟩⟩
       cases e3
      cases e3
   | _ => simp only [Ck.cmp] at e3; cases e3
 ·intro i j c d p q b h1 h2 h3 h4 h5 h6
  obtain ⟨i', hi'⟩ : ∃ i', sig σ nl nx i = some i' ∧ ∃ d, hget hp i' = some d ∧ d.has p b := by
   rcases hpt i c (Z2m h1) with ⟨hn, hnn⟩ | ⟨hn, i0, d0, qs, gs', e1, e2, e3, e4, _⟩
   ·simp only [PL', if_pos hn] at h3
    injection h3 with h3; subst h3; exact (Zcs hnn h5).elim
   exact ⟨i0, e1, d0, e2, Z8n e3 e4 p b h5⟩
  obtain ⟨j', hj'⟩ : ∃ j', sig σ nl nx j = some j' ∧ ∃ d, hget hp j' = some d ∧ d.has q b := by
   rcases hpt j d (Z2m h2) with ⟨hn, hnn⟩ | ⟨hn, i0, d0, qs, gs', e1, e2, e3, e4, _⟩
   ·simp only [PL', if_pos hn] at h4
    injection h4 with h4; subst h4; exact (Zcs hnn h6).elim
   exact ⟨i0, e1, d0, e2, Z8n e3 e4 q b h6⟩
  obtain ⟨e1, d1, hd1, h5⟩ := hi'
  obtain ⟨e2, d2, hd2, h6⟩ := hj'
  rw [hPsig i i' e1] at h3
  rw [hPsig j j' e2] at h4
  have := H.dj i' j' d1 d2 p q b hd1 hd2 h3 h4 h5 h6
  subst this
  exact Zja hp2 hhn (Z50 _ hnd) i j i' c d (Z2m h1) (Z2m h2) e1 e2
 ·intro b hb
  obtain ⟨j, i, c, d, p, h1, h2, h3, h4, h5, h6⟩ := own2 b hb
  exact H.own b ⟨i, d, p, h3, h4, h5⟩
 ·rintro id ⟨h1, h2⟩
  simp only [PL', if_neg h2]
  cases hs : sig σ nl nx id with
  | none => rfl
  | some i => have := (Zlk hs).2; omega
 intro id hid
 have := Zg7 k hargs id (by omega)
 rw [hPsig id id this]
 exact H.arg id hid
end
theorem Zc9 {h : List (Nat × Ck)} {g : Nat → Option Nat} {nl : List Nat} : ∀ (xs ys : List (Option SV)) (ps : List Prop) (fs : List Nat), frCmp h g nl xs ys = some (ps, fs) → (∀ p ∈ ps, p) →
  xs.length = ys.length ∧ ∀ i v, fget ys i = some v → ∃ u qs gs, fget xs i = some u ∧ SV.cmp h g nl u v = some (qs, gs) ∧ (∀ p ∈ qs, p) ∧ ∀ id ∈ gs, id ∈ fs
 | [], ys, ps, fs, hc, hps => by
  cases ys with
  | nil => exact ⟨rfl, fun i v h => by simp [fget] at h⟩
  | cons y ys => simp only [frCmp] at hc; cases hc
 | x :: xs, ys, ps, fs, hc, hps => by
  cases ys with
  | nil => simp only [frCmp] at hc; cases hc
  | cons y ys =>
   cases y with
   | none =>
    simp only [frCmp] at hc
    obtain ⟨h1, h2⟩ := Zc9 xs ys ps fs hc hps
    refine ⟨by simp [h1], fun i v hi => ?_⟩
    cases i with
    | zero => simp [fget] at hi
    | succ i => exact h2 i v hi
   | some y =>
    cases x with
    | none => simp only [frCmp] at hc; cases hc
    | some x =>
     simp only [frCmp] at hc
     split at hc
     ·rename_i p1 f1 h1
      split at hc
      ·rename_i p2 f2 h2
       injection hc with hc; injection hc with e1 e2; subst e1; subst e2
       obtain ⟨h3, h4⟩ := Zc9 xs ys p2 f2 h2 (fun p hp => hps p (List.mem_append_right _ hp))
       refine ⟨by simp [h3], fun i v hi => ?_⟩
       cases i with
       | zero =>
        simp only [fget] at hi
        injection hi with hi; subst hi
        exact ⟨x, p1, f1, rfl, h1, fun p hp => hps p (List.mem_append_left _ hp), fun id hid => List.mem_append_left _ hid⟩
       | succ i =>
        obtain ⟨u, qs, gs, a1, a2, a3, a4⟩ := h4 i v hi
        exact ⟨u, qs, gs, a1, a2, a3, fun id hid => List.mem_append_right _ (a4 id hid)⟩
      cases hc
     cases hc
theorem Zrz {C : Ctx} {k : Nat} (hk : C.k = k) (σ : List (Nat × Nat)) (nl : List Nat) {s t : St} (h : leP k σ nl s t) : Le C s t := by
 intro PL a w hS
 unfold leP at h
 split at h
 ·rename_i ps fs qs gs h1 h2
  split at h
  ·rename_i hc
   simp only [Bool.and_eq_true] at hc
   obtain ⟨⟨⟨⟨⟨c1, c2⟩, c3⟩, c4⟩, c5⟩, c6⟩ := hc
   have hall := Z8d h
   obtain ⟨PL', H', T⟩ := tell rfl hS.1.toHSat k hk σ nl t.nx h1 (fun p hp => hall p (List.mem_append_left _ hp)) (fs ++ gs) (fun id hid => List.mem_append_left _ hid) c1 c2 c3 c4
   obtain ⟨hl, hslot⟩ := Zc9 s.fr t.fr qs gs h2 (fun p hp => hall p (List.mem_append_right _ hp))
   have hkt := Nat.le_of_ble_eq_true c5
   refine ⟨PL', ⟨{ ck := H'.ck, dj := H'.dj, own := H'.own, os := H'.os, tape := H'.tape, output := H'.output, size := H'.size, old := H'.old, zlt := H'.zlt, arg := H'.arg, fr := ?_, len := hS.1.len.trans hl, def_ := hS.1.def_.mono (Nat.le_refl _) (fun _ _ _ => rfl) T.A, slot := ?_ }, by omega⟩⟩
   ·intro i hi
    exact H'.fr i ⟨hi, fun hx => by have := Zjn _ _ c6 i hx; exact absurd hi (by show ¬ t.nx ≤ i; omega)⟩
   intro i v hi
   obtain ⟨u, qs', gs', a1, a2, a3, a4⟩ := hslot i v hi
   exact Z8m u v qs' gs' _ a2 a3 ⟨T.H, T.A, T.P, T.nil, fun id hid => T.fz id (List.mem_append_right _ (a4 id hid))⟩ (hS.1.slot i u a1)
  exact h.elim
 exact h.elim
end Go.Proofs.Ytojbpjcfdjakkaa
end
section
set_option linter.unusedVariables false
set_option linter.unusedSimpArgs false
namespace Go.Proofs.Ytojbpjcfdjakkaa
open Go.RowKit
def regs (h : List (Nat × Ck)) (g f : Nat) : List (Nat × Ck) → List (Nat × Option Ck)
 | [] => []
 | (i, _) :: l => match hget h i with
  | some (.prow T tm n j) => match Nat.beq j g with
   | true => (i, some (.prow T tm n f)) :: regs h g f l
   | false => regs h g f l
  | _ => regs h g f l
theorem Z7n {h : List (Nat × Ck)} {g f : Nat} : ∀ {l : List (Nat × Ck)} {x : Nat × Option Ck}, x ∈ regs h g f l → ∃ T tm n, hget h x.1 = some (.prow T tm n g) ∧ x.2 = some (.prow T tm n f)
 | [], x, hx => by cases hx
 | (i, c) :: l, x, hx => by
  unfold regs at hx
  split at hx
  ·rename_i T tm n j hh
   split at hx
   ·rename_i hb
    have := (nbeq _ _).1 hb
    subst this
    rcases List.mem_cons.1 hx with rfl | hx
    ·exact ⟨T, tm, n, hh, rfl⟩
    exact Z7n hx
   exact Z7n hx
  exact Z7n hx
noncomputable def St.shut1 (s : St) (g : Nat) : St :=
 match ghoOf s.hp g with
 | some (tm, l, some (k, cs)) => match tm.sht s.hp cs with
  | some (d, [], ids) => match nnodup ids && ndisj ids (g :: ukeys (regs s.hp g s.nx s.hp)) with
   | true => ⟨s.fr, hupd (gone (g :: ids) ((s.nx, some (.gho tm (lock setD l k d) none)) :: regs s.hp g s.nx s.hp)) s.hp, s.nx + 1⟩
   | false => s
  | _ => s
 | _ => s
def opened (t : List (Nat × Ck)) : List (Nat × Ck) → List Nat
 | [] => []
 | (i, .gho _ _ (some _)) :: l => match hget t i with
  | some (.gho _ _ (some _)) => opened t l
  | _ => i :: opened t l
 | _ :: l => opened t l
noncomputable def St.shutL (s : St) : List Nat → St
 | [] => s
 | g :: l => (s.shut1 g).shutL l
noncomputable def St.shuts (s : St) (t : List (Nat × Ck)) : St := s.shutL (opened t s.hp)
theorem Znr : ∀ {u : List (Nat × Option Ck)} {x : Nat × Option Ck}, x ∈ u → x.1 ∈ ukeys u
 | (i, c) :: u, x, h => by
  rcases List.mem_cons.1 h with rfl | h
  ·exact List.mem_cons_self
  exact List.mem_cons_of_mem _ (Znr h)
section
variable {C : Ctx} {PL : Nat → Option Pl} {s : St} {a : Act} {w : World}
theorem Zv5 (h : SatN C PL s a w) (g : Nat) : ∃ PL', SatN C PL' (s.shut1 g) a w ∧ ∀ v x, Den PL w (Avo C PL s.hp) v x → Den PL' w (Avo C PL' (s.shut1 g).hp) v x := by
 unfold St.shut1
 split
 ·rename_i tm l k cs hg
  split
  ·rename_i d ids hs
   split
   ·rename_i hc
    rw [Bool.and_eq_true] at hc
    have hids := Z50 _ hc.1
    have hdis := Z2o _ _ hc.2
    have hgc := Z18 hg
    obtain ⟨q, hq, hll, hnd, hgo⟩ := h.1.ck g _ hgc
    have hf : PL s.nx = none := h.1.fr s.nx (Nat.le_refl _)
    obtain ⟨bl, hblN, hblI, hblT⟩ : ∃ bl : List Nat, bl.Nodup ∧ InB PL s.hp ids bl ∧ ∀ e, q.bl[k]? = some e → TmOk w (Avo C PL s.hp) tm d e.1 bl := by
     cases he : q.bl[k]? with
     | none => exact ⟨[], List.nodup_nil, fun b hb => (by cases hb), fun e h => (by cases h)⟩
     | some e =>
      obtain ⟨a1, a2, a3⟩ := (hgo k e he).1 rfl
      obtain ⟨u1, u2, bl, e1, _, _, e4, e5, e6, e7⟩ := Zdi (fun id c hc => h.1.ck id c hc) (fun i j c d p q b => h.1.dj i j c d p q b) tm cs e.1 d [] ids hs ⟨by omega, fun j x y => a3 j x y⟩ hids
      have hu2 : u2 = [] := by have := e5.1; exact List.eq_nil_of_length_eq_zero (by simpa using this)
      rw [hu2, List.append_nil] at e1
      exact ⟨bl, e6, e7, fun e' h' => by injection h' with h'; subst h'; rw [e1]; exact e4⟩
    rw [Zcf]
    have hget' : ∀ (i : Nat) (e' : List Value × List Nat), (q.bl.modify k fun e => (e.1, bl))[i]? = some e' → (i = k ∧ ∃ e, q.bl[k]? = some e ∧ e' = (e.1, bl)) ∨ (i ≠ k ∧ q.bl[i]? = some e') := fun i e' he => by
     rw [List.getElem?_modify] at he
     by_cases hik : k = i
     ·subst hik
      cases hq2 : q.bl[k]? with
      | none => rw [hq2] at he; simp at he
      | some e => rw [hq2] at he; simp at he; exact .inl ⟨rfl, e, rfl, he.symm⟩
     refine .inr ⟨fun e => hik e.symm, ?_⟩
     simpa [hik] using he
    have hlu : ∀ id' c, ulook ((g :: ids).map (fun i => (i, (none : Option Ck))) ++ ((s.nx, some (.gho tm (lock setD l k d) none)) :: regs s.hp g s.nx s.hp)) id' = some (some c) → (id' = s.nx ∧ c = .gho tm (lock setD l k d) none) ∨ ∃ T tm n, hget s.hp id' = some (.prow T tm n g) ∧ c = .prow T tm n s.nx := fun id' c hu => by
     have := Z58 hu
     rw [List.mem_append] at this
     rcases this with hm | hm
     ·obtain ⟨_, _, e⟩ := List.mem_map.1 hm
      injection e with _ e
      cases e
     rcases List.mem_cons.1 hm with e | hm
     ·injection e with e1 e2; injection e2 with e2; exact .inl ⟨e1, e2⟩
     obtain ⟨T, tm, n, h1, h2⟩ := Z7n hm
     injection h2 with h2
     exact .inr ⟨T, tm, n, h1, h2⟩
    have hus : ∀ j ∈ g :: ids, (ulook ((g :: ids).map (fun i => (i, (none : Option Ck))) ++ ((s.nx, some (.gho tm (lock setD l k d) none)) :: regs s.hp g s.nx s.hp)) j).isSome = true := fun j hj =>
     Z59 (List.mem_append_left _ (List.mem_map.2 ⟨j, hj, rfl⟩))
    have hnx : ∀ i p, PL i = some p → i ≠ s.nx := fun i p hi e => by rw [e, hf] at hi; cases hi
    have hghas : ∀ b, (Ck.gho tm (lock setD l k d) none).has ⟨none, 0, 0, 0, q.bl.modify k fun e => (e.1, bl)⟩ b → (∃ id ∈ ids, ∃ c p, hget s.hp id = some c ∧ PL id = some p ∧ c.has p b) ∨ (Ck.gho tm l (some (k, cs))).has q b := fun b ⟨i, e', h1, h2⟩ => by
     rcases hget' i e' h1 with ⟨_, e, _, rfl⟩ | ⟨h3, h4⟩
     ·exact .inl (hblI b h2)
     exact .inr ⟨i, e', h4, h2, h3⟩
    have mv : Mv C PL s.hp w ((g :: ids).map (fun i => (i, none)) ++ ((s.nx, some (.gho tm (lock setD l k d) none)) :: regs s.hp g s.nx s.hp)) (padd PL s.nx ⟨none, 0, 0, 0, q.bl.modify k fun e => (e.1, bl)⟩) (fun i => s.nx + 1 ≤ i) w := by
     refine ⟨Z2p _ hf, fun i hi => Zi _ _ _ _ (fun e => by have := h.2; omega), fun i hi => by rw [Zi _ _ _ _ (by omega)]; exact h.1.fr i (by show s.nx ≤ i; omega), rfl, rfl, rfl, Nat.le_refl _, fun _ _ _ => rfl, ?_, ?_⟩
     ·intro id' c p b hu hp hb
      have hu0 := hu
      rcases hlu id' c hu with ⟨rfl, rfl⟩ | ⟨T, tm1, n, h1, rfl⟩
      ·rw [Zg] at hp
       injection hp with hp; subst hp
       rcases hghas b hb with ⟨id, hid, c, p, h1, h2, h3⟩ | h1
       ·exact .inr ⟨id, c, p, h1, h2, h3, hus id (List.mem_cons_of_mem _ hid)⟩
       exact .inr ⟨g, _, q, hgc, hq, h1, hus g List.mem_cons_self⟩
      obtain ⟨p0, hp0⟩ := (h.1.ck id' _ h1).place
      rw [Zi _ _ _ _ (hnx id' p0 hp0), hp0] at hp
      injection hp with hp; subst hp
      exact .inr ⟨id', _, p0, h1, hp0, hb, by rw [hu0]; rfl⟩
     intro i1 i2 c1 c2 p1 p2 b hi1 hi2 hp1 hp2 hb1 hb2
     have hi10 := hi1
     have hi20 := hi2
     have side : ∀ (id' : Nat) (T : TypeId) (tm1 : Tm) (n : Nat) (p : Pl), hget s.hp id' = some (.prow T tm1 n g) → padd PL s.nx ⟨none, 0, 0, 0, q.bl.modify k fun e => (e.1, bl)⟩ id' = some p → PL id' = some p := by
      intro id' T tm1 n p h1 hp
      obtain ⟨p0, hp0⟩ := (h.1.ck id' _ h1).place
      rw [Zi _ _ _ _ (hnx id' p0 hp0), hp0] at hp
      injection hp with hp; subst hp
      exact hp0
     have cross : ∀ (id' : Nat) (T : TypeId) (tm1 : Tm) (n : Nat) (p p2 : Pl), hget s.hp id' = some (.prow T tm1 n g) → ulook ((g :: ids).map (fun i => (i, (none : Option Ck))) ++ ((s.nx, some (.gho tm (lock setD l k d) none)) :: regs s.hp g s.nx s.hp)) id' = some (some (.prow T tm1 n s.nx)) → padd PL s.nx ⟨none, 0, 0, 0, q.bl.modify k fun e => (e.1, bl)⟩ id' = some p → padd PL s.nx ⟨none, 0, 0, 0, q.bl.modify k fun e => (e.1, bl)⟩ s.nx = some p2 → (Ck.prow T tm1 n s.nx).has p b → (Ck.gho tm (lock setD l k d) none).has p2 b → False := by
      intro id' T tm1 n p p2 h1 hu hp hp2 hb1 hb2
      rw [Zg] at hp2
      injection hp2 with hp2; subst hp2
      have hp := side id' T tm1 n p h1 hp
      rcases hghas b hb2 with ⟨id, hid, c, p3, h4, h5, h6⟩ | h4
      ·have := h.1.dj id' id _ c p p3 b h1 h4 hp h5 hb1 h6
       subst this
       have hm := Z58 hu
       rw [List.mem_append] at hm
       rcases hm with hm | hm
       ·obtain ⟨_, _, e⟩ := List.mem_map.1 hm
        injection e with _ e
        cases e
       rcases List.mem_cons.1 hm with e | hm
       ·injection e with _ e
        injection e with e
        cases e
       exact hdis id' hid (List.mem_cons_of_mem _ (Znr hm))
      have := h.1.dj id' g _ _ p q b h1 hgc hp hq hb1 h4
      subst this
      rw [hgc] at h1
      cases h1
     rcases hlu i1 c1 hi1 with ⟨e1, rfl⟩ | ⟨T1, t1, n1, h1, rfl⟩ <;> rcases hlu i2 c2 hi2 with ⟨e2, rfl⟩ | ⟨T2, t2, n2, h2, rfl⟩
     ·rw [e1, e2]
     ·subst e1; exact (cross i2 T2 t2 n2 p2 p1 h2 hi20 hp2 hp1 hb2 hb1).elim
     ·subst e2; exact (cross i1 T1 t1 n1 p1 p2 h1 hi10 hp1 hp2 hb1 hb2).elim
     exact h.1.dj i1 i2 _ _ p1 p2 b h1 h2 (side _ _ _ _ _ h1 hp1) (side _ _ _ _ _ h2 hp2) hb1 hb2
    have tr := h.1.toHSat.tr mv
    have H := h.1.toHSat.mv mv (fun id' c hu => by
     rcases hlu id' c hu with ⟨e1, rfl⟩ | ⟨T1, t1, n1, h1, rfl⟩
     ·subst e1
      refine ⟨_, Zg _ _ _, ?_, ⟨fun i e' he => ?_, fun i j e1 e2 b he1 he2 hb1 hb2 => ?_⟩, fun i e' he => ?_⟩
      ·simp only [List.length_modify, lock_eq, setD, List.length_set]; exact hll
      ·rcases hget' i e' he with ⟨_, e, _, rfl⟩ | ⟨_, h4⟩
       ·exact hblN
       exact hnd.1 i e' h4
      ·have no : ∀ (i : Nat) (e2 : List Value × List Nat), q.bl[i]? = some e2 → i ≠ k → b ∈ bl → b ∈ e2.2 → False   := fun i e2 h1 h2 h3 h4 => by
        obtain ⟨id, hid, c, p3, k1, k2, k3⟩ := hblI b h3
        have := h.1.dj id g c _ p3 q b k1 hgc k2 hq k3 ⟨i, e2, h1, h4, h2⟩
        subst this
        exact hdis id hid List.mem_cons_self
       rcases hget' i e1 he1 with ⟨h3, e, h4, rfl⟩ | ⟨h3, h4⟩ <;> rcases hget' j e2 he2 with ⟨h5, f, h6, rfl⟩ | ⟨h5, h6⟩
       ·rw [h3, h5]
       ·exact (no j e2 h6 h5 hb1 hb2).elim
       ·exact (no i e1 h4 h3 hb2 hb1).elim
       exact hnd.2 i j e1 e2 b h4 h6 hb1 hb2
      have hlen : i < l.length := by
       have := (List.getElem?_eq_some_iff.1 he).1
       simp only [List.length_modify] at this
       omega
      rcases hget' i e' he with ⟨rfl, e, h4, rfl⟩ | ⟨h3, h4⟩
      ·have e5 : lock getD (lock setD l i d) i = d := by
        simp only [lock_eq, getD, setD, List.getD, List.getElem?_set_self hlen, Option.getD_some]
       rw [e5]
       refine TmOk.mono tr.s tr.wh tr.A _ _ _ _ (hblT e h4) fun _ _ => rfl
      have e5 : lock getD (lock setD l k d) i = lock getD l i := by
       simp only [lock_eq, getD, setD, List.getD, List.getElem?_set_ne (fun e => h3 e.symm)]
      rw [e5]
      exact TmOk.mono tr.s tr.wh tr.A _ _ _ _ ((hgo i e' h4).2 h3) fun _ _ => rfl
     obtain ⟨p, q', hp, hq', k1, k2, k3, k4, k5, k6⟩ := h.1.ck id' _ h1
     rw [hq] at hq'; injection hq' with hq'; subst hq'
     refine ⟨p, _, by rw [Zi _ _ _ _ (hnx id' p hp)]; exact hp, Zg _ _ _, k1, by simp only [List.length_modify]; exact k2, k3, k4, fun i e' he => ?_, ?_⟩
     ·rcases hget' i e' he with ⟨_, e, h4, rfl⟩ | ⟨_, h4⟩
      ·exact k5 k e h4
      exact k5 i e' h4
     rcases k6 with k6 | ⟨b, arr, m1, m2, m3, m4, m5, m6⟩
     ·exact .inl k6
     refine .inr ⟨b, arr, m1, m2, m3, m4, m5, fun i j e' u he hu => ?_⟩
     rcases hget' i e' he with ⟨rfl, e, h4, rfl⟩ | ⟨_, h4⟩
     ·exact m6 i j e u h4 hu
     exact m6 i j e' u h4 hu)
    exact ⟨_, ⟨{ H with len := h.1.len, def_ := h.1.def_.mono (Nat.le_refl _) (fun _ _ _ => rfl) tr.A, slot := fun i v hv => (h.1.slot i v hv).tr tr }, by show C.k ≤ s.nx + 1; have := h.2; omega⟩, fun v x d => d.tr tr⟩
   exact ⟨PL, h, fun _ _ d => d⟩
  exact ⟨PL, h, fun _ _ d => d⟩
 exact ⟨PL, h, fun _ _ d => d⟩
theorem Zlg : ∀ (l : List Nat) {PL : Nat → Option Pl} {s : St}, SatN C PL s a w → ∃ PL', SatN C PL' (s.shutL l) a w ∧ ∀ v x, Den PL w (Avo C PL s.hp) v x → Den PL' w (Avo C PL' (s.shutL l).hp) v x
 | [], PL, s, h => ⟨PL, h, fun _ _ d => d⟩
 | g :: l, PL, s, h => by
  obtain ⟨PL1, h1, k1⟩ := Zv5 h g
  obtain ⟨PL2, h2, k2⟩ := Zlg l h1
  exact ⟨PL2, h2, fun v x d => k2 v x (k1 v x d)⟩
theorem Zdg (h : SatN C PL s a w) (t : List (Nat × Ck)) : ∃ PL', SatN C PL' (s.shuts t) a w ∧ ∀ v x, Den PL w (Avo C PL s.hp) v x → Den PL' w (Avo C PL' (s.shuts t).hp) v x := Zlg _ h
end
inductive RV where
 | t (n : Nat)
 | c (n sz : Nat) (agg : Bool)
def cR (P : Program) : ResultVar → Option RV
 | .tmp t => some (.t t)
 | .cell a t => match aggOf P t with
  | some true => some (.c a (P.cellsOf t) true)
  | some false => some (.c a 1 false)
  | none => none
def cRs (P : Program) : List ResultVar → Option (List RV)
 | [] => some []
 | r :: rs => do pure ((← cR P r) :: (← cRs P rs))
noncomputable def resV (s : St) : RV → Option SV
 | .t n => fget s.fr n
 | .c n sz agg => match fget s.fr n with
  | some p => match cellS s.hp p sz with
   | some l => match agg, l with
    | true, l => some (.agg l)
    | false, [v] => some v
    | _, _ => none
   | none => none
  | none => none
noncomputable def resVs (s : St) : List RV → Option (List SV)
 | [] => some []
 | r :: rs => match resV s r with
  | some v => match resVs s rs with | some vs => some (v :: vs) | none => none
  | none => none
def tupOf : List SV → SV
 | [v] => v
 | l => .tup l
mutual
def mtV : SV → SV → List (Nat × Nat) × List Nat
 | .ptr i _, .ptr j _ => ([(j, i)], [])
 | .ept i _ _, .ept j _ _ => ([(j, i)], [])
 | .esl i _, .esl j _ => ([(j, i)], [])
 | .sl i _ _, .sl j _ _ => ([(j, i)], [])
 | .wsl i, .wsl j => ([(j, i)], [])
 | .mpv i, .mpv j => ([(j, i)], [])
 | .nsl, .wsl j => ([], [j])
 | .wsl i, .sl j _ _ => ([(j, i)], [])
 | .nsl, .sl j _ _ => ([], [j])
 | .agg l, .agg m => mtL l m
 | .tup l, .tup m => mtL l m
 | .fn _ l, .fn _ m => mtL l m
 | _, _ => ([], [])
def mtL : List SV → List SV → List (Nat × Nat) × List Nat
 | x :: xs, y :: ys => match mtV x y, mtL xs ys with | (a, b), (c, d) => (a ++ c, b ++ d)
 | _, _ => ([], [])
end
def mtF : List (Option SV) → List (Option SV) → List (Nat × Nat) × List Nat
 | some x :: xs, some y :: ys => match mtV x y, mtF xs ys with | (a, b), (c, d) => (a ++ c, b ++ d)
 | _ :: xs, _ :: ys => mtF xs ys
 | _, _ => ([], [])
def mtC (h g : List (Nat × Ck)) (i j : Nat) : List (Nat × Nat) × List Nat :=
 match hget h i, hget g j with
 | some (.blk _ l), some (.blk _ m) => mtL l m
 | some (.prow _ _ _ a), some (.prow _ _ _ b) => ([(b, a)], [])
 | some (.gho _ _ (some (_, l))), some (.gho _ _ (some (_, m))) => mtL l m
 | _, _ => ([], [])
def nlG (g : List (Nat × Ck)) : List Nat → List Nat
 | [] => []
 | j :: l => match hget g j with
  | some (.prow _ _ _ i) => j :: i :: nlG g l
  | _ => j :: nlG g l
def mtW (h g : List (Nat × Ck)) : Nat → List (Nat × Nat) → List (Nat × Nat) → List Nat → List (Nat × Nat) × List Nat
 | 0, _, σ, nl => (σ, nl)
 | _, [], σ, nl => (σ, nl)
 | n + 1, (j, i) :: todo, σ, nl => match alook σ j with
  | some _ => mtW h g n todo σ nl
  | none => match mtC h g i j with | (a, b) => mtW h g n (todo ++ a) (σ ++ [(j, i)]) (nl ++ b)
def idPairs : Nat → List (Nat × Nat)
 | 0 => []
 | n + 1 => idPairs n ++ [(n, n)]
noncomputable def leA1 (k : Nat) (s t : St) : Prop :=
 match mtF s.fr t.fr with
 | (a, b) => match mtW s.hp t.hp 200 (idPairs k ++ a) [] b with
  | (σ, nl) => leP k σ (nlG t.hp nl) s t
noncomputable def leA (k : Nat) (s t : St) : Prop := leA1 k (s.shuts t.hp) t
theorem Z11 {C : Ctx} {k : Nat} (hk : C.k = k) {s t : St} (h : leA k s t) : Le C s t := by
 unfold leA leA1 at h
 split at h
 split at h
 intro PL a w hS
 obtain ⟨PL1, h1, _⟩ := Zdg hS t.hp
 exact Zrz hk _ _ h PL1 a w h1
noncomputable def finP1 (k : Nat) (σ : List (Nat × Nat)) (nl : List Nat) (nx : Nat) (s : St) (v u : SV) (hp : List (Nat × Ck)) : Prop :=
 match hpCmp s.hp (sig σ nl nx) nl hp, SV.cmp s.hp (sig σ nl nx) nl v u with
 | some (ps, fs), some (qs, gs) => match ndisj (fs ++ gs) (liveOf (sig σ nl nx) hp) && nnodup (liveOf (sig σ nl nx) hp) && hnodup hp && argsId (sig σ nl nx) k with
  | true => allOb (ps ++ qs)
  | false => False
 | _, _ => False
noncomputable def finV (k : Nat) (c0 : List (Nat × Ck)) (s : St) (v u : SV) (post : List PostC) : Prop :=
 match mtV v u with
 | (a, b) => match mtW s.hp (hupd (pcan 0 post) c0) 200 (idPairs k ++ a) [] b with
  | (σ, nl) => finP1 k σ (nlG (hupd (pcan 0 post) c0) nl) (k + post.length) s v u (hupd (pcan 0 post) c0)
noncomputable def finS (k : Nat) (c0 : List (Nat × Ck)) (s : St) (v u : SV) (post : List PostC) : Prop := finV k c0 (s.shuts (hupd (pcan 0 post) c0)) v u post
noncomputable def finO (k : Nat) (c0 : List (Nat × Ck)) (s : St) (v : SV) : COut → Prop
 | .one u post => finS k c0 s v u post
 | .many X Pr u post => ∃ x : X, Pr x ∧ finS k c0 s v (u x) (post x)
noncomputable def fin (k : Nat) (c0 : List (Nat × Ck)) (rv : List RV) (o : COut) (s : St) : Prop :=
 match resVs s rv with
 | some l => finO k c0 s (tupOf l) o
 | none => False
section
variable {P : Program} {C : Ctx} {PL : Nat → Option Pl} {s : St} {Fr : Nat → Prop} {a : Act} {w : World}
theorem Zgz {k : Nat} {c0 : List (Nat × Ck)} {v u : SV} {post : List PostC} {x : Value} (hk : C.k = k) (h : finV k c0 s v u post) (hS : HSat C PL s.hp Fr w) (d : Den PL w (Avo C PL s.hp) v x) :
  ∃ PL', HSat C PL' (hupd (pcan 0 post) c0) (fun _ => False) w ∧ Den PL' w (Avo C PL' (hupd (pcan 0 post) c0)) u x := by
 unfold finV at h
 split at h
 split at h
 rename_i σ nl0 _
 generalize nlG (hupd (pcan 0 post) c0) nl0 = nl at h
 unfold finP1 at h
 split at h
 ·rename_i ps fs qs gs h1 h2
  split at h
  ·rename_i hc
   simp only [Bool.and_eq_true] at hc
   obtain ⟨⟨⟨c1, c2⟩, c3⟩, c4⟩ := hc
   have hall := Z8d h
   obtain ⟨PL', H', T⟩ := tell rfl hS k hk σ nl _ h1 (fun p hp => hall p (List.mem_append_left _ hp)) (fs ++ gs) (fun id hid => List.mem_append_left _ hid) c1 c2 c3 c4
   refine ⟨PL', { H' with fr := fun _ h => h.elim }, ?_⟩
   exact Z8m v u qs gs x h2 (fun p hp => hall p (List.mem_append_right _ hp)) ⟨T.H, T.A, T.P, T.nil, fun id hid => T.fz id (List.mem_append_right _ hid)⟩ d
  exact h.elim
 exact h.elim
def resSem (tmps : Array Value) : ResultVar → Sem Value
 | .tmp t => pure (tmps.getD t undef)
 | .cell a t => do loadVar t (← asAddr (tmps.getD a undef))
theorem Zuw (h : Sat C PL s Fr a w) {r : ResultVar} {q : RV} {v : SV} (hr : cR P r = some q) (hv : resV s q = some v) : ∃ x, (resSem a.tmps r).run P w = .ok x w ∧ Den PL w (Avo C PL s.hp) v x := by
 cases r with
 | tmp t =>
  simp only [cR] at hr; injection hr with hr; subst hr
  exact ⟨_, rfl, h.slot t v hv⟩
 | cell n t =>
  simp only [cR] at hr
  have hinfo : ∀ b, aggOf P t = some b → ∃ i, P.info? t = some i := by
   intro b ht
   unfold aggOf Program.underlying at ht
   cases hi : P.info? t with
   | none => simp [hi] at ht
   | some i => exact ⟨i, rfl⟩
  split at hr
  ·rename_i ht
   injection hr with hr; subst hr
   simp only [resV] at hv
   split at hv
   ·rename_i p hp
    split at hv
    ·rename_i l hl
     injection hv with hv; subst hv
     obtain ⟨ad, cs, e, hl1, hl2, hcell, hden, h1c⟩ := Z6p h hl (h.slot n p hp)
     obtain ⟨i, hi⟩ := hinfo _ ht
     have hsz : i.size = cs.length := by rw [hl1]; simp [Program.cellsOf, hi]
     have hload : (loadCells ad i.size).run P w = .ok cs.toArray w := by rw [hsz]; exact run_loadCells_list (P := P) w ad cs hcell
     refine ⟨.agg cs.toArray, ?_, .agg l cs (by omega) hden h1c⟩
     simp only [resSem]
     rw [e]
     simp [asAddr, loadVar, Z1m ht, Zn hi, hload]
    cases hv
   cases hv
  ·rename_i ht
   injection hr with hr; subst hr
   simp only [resV] at hv
   split at hv
   ·rename_i p hp
    split at hv
    ·rename_i l hl
     split at hv
     ·rename_i hx; exact Bool.noConfusion hx
     ·injection hv with hv; subst hv
      obtain ⟨ad, cs, e, hl1, _, hcell, hden, _⟩ := Z6p h hl (h.slot n p hp)
      obtain ⟨c, rfl⟩ : ∃ c, cs = [c] := List.length_eq_one_iff.1 hl1
      have h0 := hcell 0 c rfl
      rw [Zu] at h0
      refine ⟨c, ?_, hden 0 (by simp) (by simp)⟩
      simp only [resSem]
      rw [e]
      simp [asAddr, loadVar, Z1m ht, h0]
     cases hv
    cases hv
   cases hv
  cases hr
theorem Zl6 (h : Sat C PL s Fr a w) : ∀ (rs : List ResultVar) (qs : List RV) (vs : List SV), cRs P rs = some qs → resVs s qs = some vs →
  ∃ xs, (rs.mapM (resSem a.tmps)).run P w = .ok xs w ∧ DensA PL w (Avo C PL s.hp) vs xs
 | [], qs, vs, hr, hv => by
  simp only [cRs] at hr; injection hr with hr; subst hr
  simp only [resVs] at hv; injection hv with hv; subst hv
  exact ⟨[], by simp, rfl, fun j h1 _ => absurd h1 (by simp)⟩
 | r :: rs, qs, vs, hr, hv => by
  simp only [cRs, Option.bind_eq_bind, Option.bind_eq_some_iff, Option.pure_def, Option.some.injEq] at hr
  obtain ⟨q, hq, qs', hqs, rfl⟩ := hr
  unfold resVs at hv
  split at hv
  ·rename_i v h1
   split at hv
   ·rename_i vs' h2
    injection hv with hv; subst hv
    obtain ⟨x, e1, d1⟩ := Zuw h hq h1
    obtain ⟨xs, e2, d2⟩ := Zl6 h rs qs' vs' hqs h2
    refine ⟨x :: xs, ?_, by simp [d2.1], ?_⟩
    ·simp [List.mapM_cons, e1, e2]
    intro j a b
    cases j with
    | zero => exact d1
    | succ j => exact d2.2 j (by simpa using a) (by simpa using b)
   cases hv
  cases hv
theorem Zux (h : Sat C PL s Fr a w) {fn : Func} {qs : List RV} {vs : List SV} (hr : cRs P fn.results.toList = some qs) (hv : resVs s qs = some vs) : ∃ x, (results fn a.tmps).run P w = .ok x w ∧ Den PL w (Avo C PL s.hp) (tupOf vs) x := by
 obtain ⟨xs, e, d⟩ := Zl6 (P := P) h fn.results.toList qs vs hr hv
 have e0 : (fn.results.mapM (resSem a.tmps)).run P w = .ok xs.toArray w := by
  rw [Array.mapM_eq_mapM_toList]
  simp [e]
 have e1 : results fn a.tmps = (do let vs ← fn.results.mapM (resSem a.tmps); pure (if h : vs.size = 1 then vs[0] else .tuple vs)) := rfl
 rw [e1]
 by_cases h1 : xs.length = 1
 ·obtain ⟨x, rfl⟩ := List.length_eq_one_iff.1 h1
  obtain ⟨v, rfl⟩ : ∃ v, vs = [v] := List.length_eq_one_iff.1 (by have := d.1; simpa using this.symm)
  exact ⟨x, by simp [e0], d.2 0 (by simp) (by simp)⟩
 refine ⟨.tuple xs.toArray, by simp [e0, h1], ?_⟩
 have : tupOf vs = .tup vs := by
  unfold tupOf
  split
  ·rename_i v
   exact absurd d.1 (by simp; omega)
  rfl
 rw [this]
 exact .tup vs xs d.1 d.2
end
def st0 (cargs : List SV) (ccks : List Ck) (n : Nat) : St := ⟨cargs.map some ++ List.replicate (n - cargs.length) none, canon 0 ccks, ccks.length⟩
def FnVC (P : Program) (Γ : FuncId → Option Con) (ic : IC) (rv : List RV) (n : Nat) (con : Con) : Prop :=
 ∀ cargs ccks ce, con.f cargs ccks = some ce → (∀ p ∈ ce.ob, p) → ∀ C : Ctx, C.k = ccks.length →
  vc Γ (LoopOK P C Γ) ic (st0 cargs ccks n) fun e s => match e with
   | .ret => fin ccks.length (canon 0 ccks) rv ce.out s
   | .nxt => fin ccks.length (canon 0 ccks) rv ce.out s
   | .exit _ => False
theorem Zrf {cargs : List SV} {ccks : List Ck} {n i : Nat} {v : SV} (h : fget (st0 cargs ccks n).fr i = some v) : ∃ hi : i < cargs.length, cargs[i] = v := by
 have key : ∀ (l : List SV) (m i : Nat), fget (l.map some ++ List.replicate m none) i = some v → ∃ hi : i < l.length, l[i] = v := by
  intro l
  induction l with
  | nil =>
   intro m
   induction m with
   | zero => intro i h; simp [fget] at h
   | succ m ih =>
    intro i h
    cases i with
    | zero => simp [List.replicate_succ, fget] at h
    | succ i =>
     have := ih i (by simpa [List.replicate_succ, fget] using h)
     obtain ⟨hi, _⟩ := this
     exact absurd hi (by simp)
  | cons x l ih =>
   intro m i h
   cases i with
   | zero => simp only [List.map_cons, List.cons_append, fget] at h; injection h with h; exact ⟨by simp, h⟩
   | succ i =>
    obtain ⟨hi, e⟩ := ih m i h
    exact ⟨by simpa using hi, by simpa using e⟩
 exact key cargs _ i h
theorem Z52 {w : World} {D b : Nat} {o : Obj} (h : b ≠ D) : (w.putObj D o).heap[b]? = w.heap[b]? := World.putObj_heap_other h
theorem Zpe {w : World} {D : Nat} {o0 : Obj} (h : w.heap[D]? = some o0) (hc : o0.isCells = false) {ad : Addr} {v : Value} (hv : w.cell? ad = some v) : ad.block ≠ D := by
 intro e
 obtain ⟨o, h1, h2⟩ := cells_of_cell hv
 rw [e, h] at h1
 injection h1 with h1
 subst h1
 rw [hc] at h2
 cases h2
theorem Zjk {w : World} {D : Nat} {o0 o : Obj} (hD : w.heap[D]? = some o0) (hc : o0.isCells = false) {b : Nat} {cs : Array Value} {T : TypeId} {z : Nat × Nat} (h : w.heap[b]? = some (.cells cs T z)) : (w.putObj D o).heap[b]? = some (.cells cs T z) := by
 rw [Z52]
 ·exact h
 intro e; subst e; rw [h] at hD; injection hD with hD; subst hD; cases hc
theorem Den.nc {PL : Nat → Option Pl} {w : World} {Av : Nat → Prop} {s : SV} {v : Value} (h : Den PL w Av s v) {D : Nat} {o0 o : Obj} (hD : w.heap[D]? = some o0) (hc : o0.isCells = false) : Den PL (w.putObj D o) Av s v := by
 have hsz : (w.putObj D o).heap.size = w.heap.size := by simp
 induction h with
 | v x => exact .v x
 | str l => exact .str l
 | ptr id off b p h ha => exact .ptr id off b p h ha
 | ept id i off b p h ha hi => exact .ept id i off b p h ha hi
 | esl id i b p h ha hi => exact .esl id i b p h ha hi
 | rpt r i off A cap h hi ih => exact .rpt r i off A cap ih hi
 | sl id lo len p A cap h hl hc hn hA => exact .sl id lo len p A cap h hl hc hn hA
 | wsl id p h => exact .wsl id p h
 | mpv id b p h ha => exact .mpv id b p h ha
 | nsl => exact .nsl
 | agg l cs hl h h1 ih => exact .agg l cs hl (fun j a b => ih j a b) h1
 | tup l cs hl h ih => exact .tup l cs hl (fun j a b => ih j a b)
 | fn f l cs hl h ih => exact .fn f l cs hl (fun j a b => ih j a b)
 | rsl r A cap u hcap hsome hcell hden ih =>
  refine .rsl r A cap u hcap ?_ ?_ (fun i j hi hj => ih i j hi hj)
  ·intro h0
   obtain ⟨ad, e, hl, hv⟩ := hsome h0
   exact ⟨ad, e, by omega, hv⟩
  intro i j ad e hi hj
  obtain ⟨h1, h2⟩ := hcell i j ad e hi hj
  refine ⟨?_, h2⟩
  rw [← h1]
  exact World.cell?_of_block (Z52 (Zpe hD hc h1))
mutual
theorem TmOk.nc {w : World} {Av : Nat → Prop} {B0 : Nat} {o0 o : Obj} (hD : w.heap[B0]? = some o0) (hc : o0.isCells = false) : ∀ (tm : Tm) (d : D) (us : List Value) (bl : List Nat), TmOk w Av tm d us bl → TmOk (w.putObj B0 o) Av tm d us bl
 | .v t, d, us, bl, h => by
  unfold TmOk at h ⊢
  exact ⟨h.1, h.2.1, fun j h1 h2 => ⟨(h.2.2 j h1 h2).1.nc hD hc, (h.2.2 j h1 h2).2⟩⟩
 | .p T fs, d, us, bl, h => by
  unfold TmOk at h ⊢
  obtain ⟨b, cs, bl', h1, h2, h3, h4⟩ := h
  exact ⟨b, cs, bl', h1, h2, Zjk hD hc h3, TmsOk.nc hD hc fs d 0 cs.toList bl' h4⟩
 | .w T e, d, us, bl, h => by
  unfold TmOk at h ⊢
  obtain ⟨p, h1, h2, h3, h5, h6⟩ := h
  refine ⟨p, h1, h2, h3, h5, ?_⟩
  rcases h6 with h6 | ⟨b, cs, g1, g2, g3, g4, g5, g6, g7⟩
  ·exact .inl h6
  exact .inr ⟨b, cs, g1, g2, Zjk hD hc g3, g4, g5, g6, fun i j hi hj h1 => by
   obtain ⟨u, e1, e2, e3⟩ := g7 i j hi hj h1
   exact ⟨u, e1, e2.nc hD hc, e3⟩⟩
theorem TmsOk.nc {w : World} {Av : Nat → Prop} {B0 : Nat} {o0 o : Obj} (hD : w.heap[B0]? = some o0) (hc : o0.isCells = false) : ∀ (ts : List Tm) (d : D) (j : Nat) (us : List Value) (bl : List Nat), TmsOk w Av ts d j us bl → TmsOk (w.putObj B0 o) Av ts d j us bl
 | [], d, j, us, bl, h => by unfold TmsOk at h ⊢; exact h
 | t :: ts, d, j, us, bl, h => by
  unfold TmsOk at h ⊢
  obtain ⟨u1, u2, b1, b2, e1, e2, h1, h2⟩ := h
  exact ⟨u1, u2, b1, b2, e1, e2, TmOk.nc hD hc t _ u1 b1 h1, TmsOk.nc hD hc ts d (j + 1) u2 b2 h2⟩
end
theorem CkOk.nc {PL : Nat → Option Pl} {w : World} {Av : Nat → Prop} {id : Nat} {c : Ck} (hck : CkOk PL w Av id c) {D : Nat} {o0 o : Obj} (hD : w.heap[D]? = some o0) (hc : o0.isCells = false) (hm : ∀ es c, o0 ≠ .map es c) : CkOk PL (w.putObj D o) Av id c := by
 have hb : ∀ {b : Nat} {cs : Array Value} {T z}, w.heap[b]? = some (.cells cs T z) → (w.putObj D o).heap[b]? = some (.cells cs T z) := by
  intro b cs T z h
  rw [Z52]
  ·exact h
  intro e; subst e; rw [h] at hD; injection hD with hD; subst hD; cases hc
 cases c with
 | prow T tm n g =>
  obtain ⟨p, q, h1, h2, h3, h4, h5, h6, h7, h8⟩ := hck
  refine ⟨p, q, h1, h2, h3, h4, h5, h6, h7, ?_⟩
  rcases h8 with h8 | ⟨b, cs, g1, g2, g3⟩
  ·exact .inl h8
  exact .inr ⟨b, cs, g1, hb g2, g3⟩
 | gho tm l o1 =>
  obtain ⟨p, h1, h2, h3, h4⟩ := hck
  refine ⟨p, h1, h2, h3, fun i e he => ?_⟩
  have := h4 i e he
  cases o1 with
  | none => exact TmOk.nc hD hc _ _ _ _ this
  | some o1 =>
   obtain ⟨k, cs⟩ := o1
   exact ⟨fun hk => ⟨(this.1 hk).1, (this.1 hk).2.1, fun j a b => ⟨((this.1 hk).2.2 j a b).1.nc hD hc, ((this.1 hk).2.2 j a b).2⟩⟩, fun hk => TmOk.nc hD hc _ _ _ _ (this.2 hk)⟩
 | mp t l =>
  obtain ⟨p, b, es, c, hp, ha, hh, hl, hd⟩ := hck
  refine ⟨p, b, es, c, hp, ha, ?_, hl, fun i d e h1 h2 => ⟨(hd i d e h1 h2).1, ?_⟩⟩
  ·rw [Z52]
   ·exact hh
   intro e; subst e; rw [hh] at hD; injection hD with hD; exact hm es c hD.symm
  obtain ⟨cs, m1, m2, m3, m4⟩ := (hd i d e h1 h2).2
  exact ⟨cs, m1, m2, m3, fun j x y => ⟨(m4 j x y).1.nc hD hc, (m4 j x y).2⟩⟩
 | blk T vs =>
  obtain ⟨p, b, cs, h1, h2, h3, h4, h5⟩ := hck
  exact ⟨p, b, cs, h1, h2, hb h3, h4, fun j a1 a2 => ⟨(h5 j a1 a2).1.nc hD hc, (h5 j a1 a2).2⟩⟩
 | row r =>
  obtain ⟨p, h1, h2, h3, h4, h5⟩ := hck
  refine ⟨p, h1, h2, h3, h4, ?_⟩
  rcases h5 with h5 | ⟨b, cs, g1, g2, g3, g4, g5, g6⟩
  ·exact .inl h5
  exact .inr ⟨b, cs, g1, hb g2, g3, g4, g5, fun i j a1 a2 a3 => by
   obtain ⟨u, e, d, o⟩ := g6 i j a1 a2 a3
   exact ⟨u, e, d.nc hD hc, o⟩⟩
theorem HSat.nc {C : Ctx} {PL : Nat → Option Pl} {hp : List (Nat × Ck)} {Fr : Nat → Prop} {w : World} (H : HSat C PL hp Fr w) {D : Nat} {o0 o : Obj} (hD : w.heap[D]? = some o0) (hc : o0.isCells = false) (hm : ∀ es c, o0 ≠ .map es c) (h0 : C.w0.heap.size ≤ D) : HSat C PL hp Fr (w.putObj D o) := by
 have hsz : (w.putObj D o).heap.size = w.heap.size := by simp
 refine ⟨fun id c hg => (H.ck id c hg).nc hD hc hm, H.dj, H.own, H.os, H.tape, H.output, by rw [hsz]; exact H.size, ?_, H.zlt, H.fr, H.arg⟩
 intro b hb' ho
 rw [Z52 (by omega)]
 exact H.old b hb' ho
theorem Zcn {P : Program} {fn : Func} {R : Ending → World → Prop} {C : Ctx} {PL : Nat → Option Pl} {s : St} {tm : Array Value} (hC : C.w0.heap.size ≤ C.n0) (hend : ∀ (a' : Act) (w' : World), a'.tmps = tm → SatN C PL s a' w' → ∃ v, (results fn a'.tmps).run P w' = .ok v w' ∧ R (.returned v) w') :
  ∀ (ds : List Deferred) (a : Act) (w : World), a.tmps = tm → a.defers = ds → SatN C PL s a w → LeavesInM Fence.wide 0 P fn a.tmps R ds .returning w
 | [], a, w, ht, hd, hS => by
  obtain ⟨v, h1, h2⟩ := hend a w ht hS
  exact ⟨v, h1, h2⟩
 | d :: ds, a, w, ht, hd, hS => by
  obtain ⟨hn0, l, e, hn, hl⟩ := hS.1.def_
  rw [hd] at e
  cases l with
  | nil => cases e
  | cons D l =>
   simp only [List.map_cons, List.cons.injEq] at e
   obtain ⟨rfl, rfl⟩ := e
   obtain ⟨h1, h2, h3⟩ := hl D (List.mem_cons_self ..)
   refine ⟨by simp, .inl ⟨D, w.putObj D (.deferred none), rfl, run_takeDeferred h1, ?_⟩⟩
   have := Zcn hC hend (l.map Mark) { a with defers := l.map Mark } (w.putObj D (.deferred none)) ht rfl ⟨{ hS.1.toHSat.nc h1 rfl (fun _ _ h => by cases h) (Nat.le_trans hC h3) with len := hS.1.len, def_ := ⟨by rw [show (w.putObj D (.deferred none)).heap.size = w.heap.size by simp]; exact hn0, l, rfl, (List.nodup_cons.1 hn).2, fun D' hD' => ?_⟩, slot := fun i v hv => (hS.1.slot i v hv).nc h1 rfl }, hS.2⟩
   ·exact this
   obtain ⟨g1, g2, g3⟩ := hl D' (List.mem_cons_of_mem _ hD')
   refine ⟨?_, g2, g3⟩
   rw [Z52]
   ·exact g1
   intro e; subst e; exact (List.nodup_cons.1 hn).1 hD'
theorem FnOK.of_vc {P : Program} {Γ : FuncId → Option Con} (T : Tab P Γ) (hD : ∀ C, DrawOK P C Γ) {f : FuncId} {fn : Func} {code : Code} {ic : IC} {rv : List RV} {n : Nat} {con : Con} (hf : P.funcs[f]? = some fn) (hb : fn.body = some code) (hc : comp P code = some ic)
  (hr : cRs P fn.results.toList = some rv) (hn : fn.ntmps = n) (h : FnVC P Γ ic rv n con) : FnOK P f con := by
 intro cargs ccks ce hce hob Z PL w args H d
 subst hn
 have hal := d.1
 refine callsIn_wide.1 (callsIn_of_wp_marks (F := Fence.wide) (n := 0) hf hb trivial (wpIn_wide.2 ?_))
 have hS : SatN (ctxOf w Z PL ccks) PL (st0 cargs ccks fn.ntmps) { tmps := args.toArray ++ Array.replicate (fn.ntmps - args.toArray.size) undef, defers := [] } w := by
  refine ⟨{ ck := H.ck, dj := H.dj, own := H.own, os := H.os, tape := H.tape, output := H.output, size := H.size, old := H.old, zlt := H.zlt, arg := H.arg, fr := H.fr, len := ?_, def_ := .nil (Nat.le_refl _), slot := ?_ }, Nat.le_refl _⟩
  ·simp [st0, hal]
  intro i v hi
  obtain ⟨h1, rfl⟩ := Zrf hi
  have := d.2 i h1 (by omega)
  have h2 : i < args.length := by omega
  show Den PL w (Avo (ctxOf w Z PL ccks) PL (canon 0 ccks)) _ _
  have e : (args.toArray ++ Array.replicate (fn.ntmps - args.toArray.size) undef).getD i undef = args[i] := by
   simp [Array.getD, Array.getElem_append, h2]
   omega
  rw [e]
  exact this
 refine Z2u T (hD _) code ic _ _ PL _ w _ hc (h cargs ccks ce hce hob (ctxOf w Z PL ccks) rfl) hS ?_
 have key : ∀ s' PL' a' w', fin ccks.length (canon 0 ccks) rv ce.out s' → SatN (ctxOf w Z PL ccks) PL' s' a' w' → ∃ v, (results fn a'.tmps).run P w' = .ok v w' ∧ ∃ u PL', Ending.returned v = .returned u ∧ ce.out.holds fun v post =>
   HSat (ctxOf w Z PL ccks) PL' (hupd (pcan 0 post) (canon 0 ccks)) (fun _ => False) w' ∧ Den PL' w' (Avo (ctxOf w Z PL ccks) PL' (hupd (pcan 0 post) (canon 0 ccks))) v u := by
  intro s' PL' a' w' hK hS'
  unfold fin at hK
  split at hK
  ·rename_i vs hvs
   obtain ⟨x, e, dx⟩ := Zux hS'.1 hr hvs
   refine ⟨x, e, ?_⟩
   revert hK
   generalize ce.out = co
   intro hK
   cases co
   ·simp only [finO] at hK
    simp only [COut.holds]
    obtain ⟨PL1, hS1, dS⟩ := Zdg hS' (hupd (pcan 0 _) (canon 0 ccks))
    obtain ⟨PL2, h1, h2⟩ := Zgz (C := ctxOf w Z PL ccks) rfl hK hS1.1.toHSat (dS _ _ dx)
    exact ⟨x, PL2, rfl, h1, h2⟩
   simp only [finO] at hK
   simp only [COut.holds]
   obtain ⟨y, hy, hK⟩ := hK
   obtain ⟨PL1, hS1, dS⟩ := Zdg hS' (hupd (pcan 0 _) (canon 0 ccks))
   obtain ⟨PL2, h1, h2⟩ := Zgz (C := ctxOf w Z PL ccks) rfl hK hS1.1.toHSat (dS _ _ dx)
   exact ⟨x, PL2, rfl, y, hy, h1, h2⟩
  exact hK.elim
 intro e s' PL' a' w' hK hS'
 cases e with
 | nxt => exact Zcn (tm := a'.tmps) (Nat.le_refl _) (fun a2 w2 e2 hS2 => key s' PL' a2 w2 hK hS2) _ a' w' rfl rfl hS'
 | ret => exact Zcn (tm := a'.tmps) (Nat.le_refl _) (fun a2 w2 e2 hS2 => key s' PL' a2 w2 hK hS2) _ a' w' rfl rfl hS'
 | exit _ => exact hK.elim
def compF (P : Program) (fn : Func) : Option (IC × List RV × Nat) := do
 let c ← fn.body
 let ic ← comp P c
 let rv ← cRs P fn.results.toList
 pure (ic, rv, fn.ntmps)
theorem FnOK.of_comp {P : Program} {Γ : FuncId → Option Con} (T : Tab P Γ) (hD : ∀ C, DrawOK P C Γ) {f : FuncId} {fn : Func} {ic : IC} {rv : List RV} {n : Nat} {con : Con} (hf : P.funcs[f]? = some fn) (hc : compF P fn = some (ic, rv, n))
  (h : FnVC P Γ ic rv n con) : FnOK P f con := by
 simp only [compF, Option.bind_eq_bind, Option.bind_eq_some_iff, Option.pure_def, Option.some.injEq, Prod.mk.injEq] at hc
 obtain ⟨c, h1, ic', h2, rv', h3, rfl, rfl, h4⟩ := hc
 exact FnOK.of_vc T hD hf h1 h2 h3 h4 h
end Go.Proofs.Ytojbpjcfdjakkaa
end
section
set_option linter.unusedVariables false
set_option linter.unusedSimpArgs false
namespace Go.Proofs.Ytojbpjcfdjakkaa
open Go.RowKit
section
variable {s t : St}
theorem Z6 {x : Opnd} {l : List Nat} (h : ∀ i ∈ l, fget s.fr i = fget t.fr i) (hx : ∀ i ∈ x.slots, i ∈ l) : t.ev x = s.ev x := by
 cases x with
 | t n => exact (h n (hx n (by simp [Opnd.slots]))).symm
 | k v => rfl
 | f f => rfl
theorem Z76 : ∀ {xs : List Opnd} {l : List Nat}, (∀ i ∈ l, fget s.fr i = fget t.fr i) → (∀ i ∈ Opnd.lslots xs, i ∈ l) → t.evs xs = s.evs xs
 | [], _, _, _ => rfl
 | x :: xs, l, h, hx => by
  unfold St.evs
  rw [Z6 h (x := x) fun i hi => hx i (by simp [Opnd.lslots, hi]), Z76 h (xs := xs) fun i hi => hx i (by simp [Opnd.lslots, hi])]
theorem Zd3 : ∀ {ps : List (Nat × Nat × Opnd)} {l : List Nat}, (∀ i ∈ l, fget s.fr i = fget t.fr i) → (∀ i ∈ Opnd.pslots ps, i ∈ l) → t.parts ps = s.parts ps
 | [], _, _, _ => rfl
 | (o, n, x) :: xs, l, h, hx => by
  unfold St.parts
  rw [Z6 h (x := x) fun i hi => hx i (by simp [Opnd.pslots, hi]), Zd3 h (ps := xs) fun i hi => hx i (by simp [Opnd.pslots, hi])]
theorem Zq {h h' : List (Nat × Ck)} {id : Nat} (e : hget h id = hget h' id) : rowOf h' id = rowOf h id := by unfold rowOf; rw [e]
theorem Zkx {h h' : List (Nat × Ck)} : ∀ (l : List (Nat × Nat × SV)), (∀ i ∈ partW l, hget h i = hget h' i) → partG h' l = partG h l
 | [], _ => rfl
 | (o, n, v) :: l, e => by
  simp only [partG]
  rw [Zkx l (fun i hi => e i (by simp only [partW]; exact List.mem_append_right _ hi))]
  congr 3
  cases v with
  | wsl id => simp only [SV.giv]; rw [Zq (e id (by simp [partW, SV.wid1]))]
  | _ => rfl
theorem Zcg : ∀ (ids : List Nat) (u : List (Nat × Option Ck)) (i : Nat) (c : Option Ck), (i, c) ∈ gone ids u → i ∈ ids ∨ (i, c) ∈ u
 | [], u, i, c, h => .inr h
 | k :: ids, u, i, c, h => by
  simp only [gone] at h
  rcases List.mem_cons.1 h with e | h
  ·injection e with e1 e2; subst e1; exact .inl (List.mem_cons_self ..)
  rcases Zcg ids u i c h with h | h
  ·exact .inl (List.mem_cons_of_mem _ h)
  exact .inr h
theorem Z41 {h h' : List (Nat × Ck)} {id : Nat} (e : hget h id = hget h' id) : prowOf h' id = prowOf h id := by unfold prowOf; rw [e]
theorem Z5y {h h' : List (Nat × Ck)} {id : Nat} (e : hget h id = hget h' id) : ghoOf h' id = ghoOf h id := by unfold ghoOf; rw [e]
theorem Zjh {h h' : List (Nat × Ck)} {id : Nat} (e : hget h id = hget h' id) : mpOf h' id = mpOf h id := by unfold mpOf; rw [e]
theorem Zj6 {h : List (Nat × Ck)} {id i off f : Nat} {E : Eff} (e : ldP h id i off f = some E) : ∃ T tm n g, prowOf h id = some (T, tm, n, g) ∧ E.rd = [id, g] := by
 unfold ldP at e
 split at e
 ·rename_i T tm n g hr
  refine ⟨T, tm, n, g, hr, ?_⟩
  split at e
  ·unfold opnS at e
   split at e
   split at e
   ·injection e with e; subst e; rfl
   cases e
  ·split at e
   ·injection e with e; subst e; rfl
   cases e
  cases e
 cases e
theorem Zrx {h h' : List (Nat × Ck)} {id i off f : Nat} {E : Eff} (e : ldP h id i off f = some E) (hr : ∀ id ∈ E.rd, hget h id = hget h' id) : ldP h' id i off f = some E := by
 obtain ⟨T, tm, n, g, h1, h2⟩ := Zj6 e
 rw [h2] at hr
 unfold ldP at e ⊢
 rw [Z41 (hr id (by simp)), h1]
 rw [h1] at e
 simp only [] at e ⊢
 rw [Z5y (hr g (by simp))]
 exact e
theorem Zlx {h : List (Nat × Ck)} {id i off f : Nat} {v : SV} {E : Eff} (e : stP h id i off v f = some E) : ∃ T tm n g, prowOf h id = some (T, tm, n, g) ∧ E.rd = [id, g] := by
 unfold stP at e
 split at e
 ·rename_i T tm n g hr
  refine ⟨T, tm, n, g, hr, ?_⟩
  split at e
  ·split at e
   ·injection e with e; subst e; rfl
   cases e
  cases e
 cases e
theorem Zwj {h h' : List (Nat × Ck)} {id i off f : Nat} {v : SV} {E : Eff} (e : stP h id i off v f = some E) (hr : ∀ id ∈ E.rd, hget h id = hget h' id) : stP h' id i off v f = some E := by
 obtain ⟨T, tm, n, g, h1, h2⟩ := Zlx e
 rw [h2] at hr
 unfold stP at e ⊢
 rw [Z41 (hr id (by simp)), h1]
 rw [h1] at e
 simp only [] at e ⊢
 rw [Z5y (hr g (by simp))]
 exact e
mutual
theorem Zlh {h h' : List (Nat × Ck)} : ∀ (tm : Tm) (vs : List SV) (d : D) (rest : List SV) (ids : List Nat), Tm.sht h tm vs = some (d, rest, ids) → (∀ id ∈ ids, hget h id = hget h' id) → Tm.sht h' tm vs = some (d, rest, ids)
 | .v t, vs, d, rest, ids, e, he => by
  unfold Tm.sht at e ⊢
  exact e
 | .p T fs, vs, d, rest, ids, e, he => by
  unfold Tm.sht at e ⊢
  split at e
  ·rename_i e1; cases e1
  ·rename_i T0 fs0 id vs e1
   injection e1 with e1 e2
   subst e1; subst e2
   try simp only []
   split at e
   ·rename_i U cs hg
    split at e
    ·rename_i hb
     split at e
     ·rename_i ds ids' hs2
      injection e with e; injection e with e1 e; injection e with e2 e3; subst e1; subst e2; subst e3
      rw [← he id List.mem_cons_self, hg]
      simp only [hb]
      rw [Zli fs cs ds [] ids' hs2 fun i hi => he i (List.mem_cons_of_mem _ hi)]
     cases e
    cases e
   cases e
  ·rename_i e1; cases e1
  ·rename_i e1; cases e1
  cases e
 | .w T u, vs, d, rest, ids, e, he => by
  unfold Tm.sht at e ⊢
  split at e
  ·rename_i e1; cases e1
  ·rename_i e1; cases e1
  ·rename_i T0 e0 id vs e1
   injection e1 with e1 e2
   subst e1; subst e2
   try simp only []
   split at e
   ·rename_i U f l hg
    split at e
    ·rename_i hb
     injection e with e; injection e with e1 e; injection e with e2 e3; subst e1; subst e2; subst e3
     rw [← he id (List.mem_singleton.2 rfl), hg]
     simp only [hb]
    cases e
   cases e
  ·rename_i e1; cases e1; exact e
  cases e
theorem Zli {h h' : List (Nat × Ck)} : ∀ (ts : List Tm) (vs : List SV) (ds : List D) (rest : List SV) (ids : List Nat), Tm.shts h ts vs = some (ds, rest, ids) → (∀ id ∈ ids, hget h id = hget h' id) → Tm.shts h' ts vs = some (ds, rest, ids)
 | [], vs, ds, rest, ids, e, he => by
  unfold Tm.shts at e ⊢
  exact e
 | t :: ts, vs, ds, rest, ids, e, he => by
  unfold Tm.shts at e ⊢
  split at e
  ·rename_i d r i1 h1
   split at e
   ·rename_i ds' r2 i2 h2
    injection e with e; injection e with e1 e; injection e with e2 e3; subst e1; subst e2; subst e3
    rw [Zlh t vs d r i1 h1 fun i hi => he i (List.mem_append_left _ hi)]
    simp only []
    rw [Zli ts r ds' r2 i2 h2 fun i hi => he i (List.mem_append_right _ hi)]
   cases e
  cases e
end
theorem Z8i {h h' : List (Nat × Ck)} {id : Nat} (e : hget h id = hget h' id) : blkOf h' id = blkOf h id := by unfold blkOf; rw [e]
theorem Z44 {h h' : List (Nat × Ck)} {v : SV} (e : ∀ id ∈ rdS v, hget h id = hget h' id) : rowS h' v = rowS h v := by
 cases v <;> simp only [rowS] <;> rw [Zq (e _ (by simp [rdS]))]
theorem Zj7 {h h' : List (Nat × Ck)} {v : SV} (e : ∀ id ∈ rdS v, hget h id = hget h' id) : lenS h' v = lenS h v := by
 cases v <;> simp only [lenS]
 rw [Zq (e _ (by simp [rdS]))]
theorem Z8k {h h' : List (Nat × Ck)} {v : SV} {n : Nat} (e : ∀ id ∈ rdS v, hget h id = hget h' id) : cellS h' v n = cellS h v n := by
 cases v <;> simp only [cellS]
 ·rw [Z8i (e _ (by simp [rdS]))]
 rw [Zq (e _ (by simp [rdS]))]
theorem Zv6 {v : SV} {len : Nat} {lo hi : Option Opnd} {l : List Nat} (h : ∀ i ∈ l, fget s.fr i = fget t.fr i) (h1 : ∀ i ∈ Opnd.oslots lo, i ∈ l) (h2 : ∀ i ∈ Opnd.oslots hi, i ∈ l) : slS t v len lo hi = slS s v len lo hi := by
 cases lo <;> cases hi <;> simp only [slS]
 ·rw [Z6 h h2]
 ·rw [Z6 h h1]
 rw [Z6 h h1, Z6 h h2]
theorem Zll {v : SV} {len : Nat} {lo hi : Option Opnd} {E : Eff} (h : slS s v len lo hi = some E) : E.rd = rdS v ∧ E.wr = [] ∧ ∃ u, E.out = .one u [] := by
 cases lo <;> cases hi <;> simp only [slS] at h <;> (repeat (first | (split at h)))
 all_goals first
  | (cases h; done)
  | (injection h with h; subst h; exact ⟨rfl, rfl, _, rfl⟩)
theorem Zd7 {h : List (Nat × Ck)} : ∀ (n : Nat) (rest done : List Nat), ∀ i ∈ done, i ∈ reach h n rest done
 | 0, rest, done, i, hi => by simpa [reach] using hi
 | n + 1, [], done, i, hi => by simpa [reach] using hi
 | n + 1, j :: rest, done, i, hi => by
  unfold reach
  split
  ·exact Zd7 n _ _ i hi
  split <;> exact Zd7 n _ _ i (by simp [hi])
theorem Zd6 {h h' : List (Nat × Ck)} : ∀ (n : Nat) (rest done : List Nat), (∀ i ∈ reach h n rest done, hget h i = hget h' i) → reach h' n rest done = reach h n rest done
 | 0, rest, done, _ => by simp [reach]
 | n + 1, [], done, _ => by simp [reach]
 | n + 1, j :: rest, done, he => by
  unfold reach at he ⊢
  split
  ·rename_i hm
   rw [hm] at he
   exact Zd6 n _ _ he
  rename_i hm
  rw [hm] at he
  simp only [] at he
  have hj : hget h j = hget h' j := by
   refine he j ?_
   split <;> exact Zd7 n _ _ j (by simp)
  rw [← hj]
  split <;> (rename_i e; rw [e] at he; exact Zd6 n _ _ he)
theorem Zgj {h h' : List (Nat × Ck)} : ∀ (ids : List Nat), (∀ i ∈ ids, hget h i = hget h' i) → cksOf h' ids = cksOf h ids
 | [], _ => rfl
 | i :: is, he => by
  unfold cksOf
  rw [Zgj is fun j hj => he j (List.mem_cons_of_mem _ hj), he i (List.mem_cons_self ..)]
theorem Zs2 {h h' : List (Nat × Ck)} {b : Option RK} {x : SV} (he : ∀ id ∈ lentIds [b] [x], hget h id = hget h' id) : lend h' b x = lend h b x := by
 cases b with
 | none => rfl
 | some rk => cases x <;> first | rfl | (simp only [lend]; rw [he _ (by simp [lentIds])])
theorem Zs3 {b : Option RK} {bs : List (Option RK)} {x : SV} {xs : List SV} : lentIds (b :: bs) (x :: xs) = lentIds [b] [x] ++ lentIds bs xs := by
 cases b <;> cases x <;> simp [lentIds]
theorem Zcp {h h' : List (Nat × Ck)} : ∀ (bs : List (Option RK)) (xs : List SV), (∀ id ∈ lentIds bs xs, hget h id = hget h' id) → lends h' bs xs = lends h bs xs
 | bs, [], _ => by cases bs <;> rfl
 | [], x :: xs, he => by
  unfold lends
  rw [Zcp [] xs fun id hid => absurd hid (by cases xs <;> simp [lentIds])]
 | b :: bs, x :: xs, he => by
  unfold lends
  rw [Zs3] at he
  rw [Zs2 fun id hid => he id (List.mem_append_left _ hid), Zcp bs xs fun id hid => he id (List.mem_append_right _ hid)]
theorem Zr9 {ids lent : List Nat} {cks ccks : List Ck} {fresh : Nat} {b : Bool} {ce : CEff} {E : Eff} (h : effOf ids lent cks ccks fresh b ce = some E) : E.rd = ids ++ lent := by
 unfold effOf at h
 split at h
 ·split at h
  ·injection h with h; subst h; rfl
  cases h
 injection h with h; subst h; rfl
theorem Zpd {con : Con} {vs ws : List SV} {b : Bool} {fresh : Nat} {ids : List Nat} {E : Eff} (h : callT con vs ws b s fresh ids = some E) : E.rd = ids ++ lentIds con.ro vs := by
 unfold callT at h
 repeat (first | split at h)
 all_goals first
  | (cases h; done)
  | exact Zr9 h
theorem Zgh {Γ : FuncId → Option Con} {f : FuncId} {vs : List SV} {fresh : Nat} {E : Eff} (h : callS Γ f vs s fresh = some E) (hr : ∀ id ∈ E.rd, hget s.hp id = hget t.hp id) : callS Γ f vs t fresh = some E := by
 unfold callS at h ⊢
 cases hΓ : Γ f with
 | none => rw [hΓ] at h; cases h
 | some con =>
  rw [hΓ] at h
  simp only [] at h ⊢
  cases hl : lends s.hp con.ro vs with
  | none => rw [hl] at h; cases h
  | some p =>
   obtain ⟨ws, b⟩ := p
   rw [hl] at h
   simp only [] at h
   have e := Zpd h
   rw [Zcp con.ro vs fun id hid => hr id (by rw [e]; exact List.mem_append_right _ hid), hl]
   simp only []
   have e2 : reach t.hp 40 (SV.idsL ws) [] = reach s.hp 40 (SV.idsL ws) [] := Zd6 _ _ _ fun i hi => hr i (by rw [e]; exact List.mem_append_left _ hi)
   rw [e2]
   unfold callT at h ⊢
   rw [Zgj _ fun i hi => hr i (by rw [e]; exact List.mem_append_left _ hi)]
   exact h
theorem Zwl {Γ : FuncId → Option Con} {op : IOp} {f : Nat} {E : Eff} (h : step Γ op s f = some E) (hs : ∀ i ∈ op.slots, fget s.fr i = fget t.fr i) (hr : ∀ id ∈ E.rd, hget s.hp id = hget t.hp id) : step Γ op t f = some E := by
 cases op with
 | pick a b c => simp only [step] at h ⊢; rw [Z6 hs (x := a) (by simp [IOp.slots]; grind), Z6 hs (x := b) (by simp [IOp.slots]; grind), Z6 hs (x := c) (by simp [IOp.slots]; grind)]; exact h
 | isn kind ne x =>
  simp only [step] at h ⊢
  rw [Z6 hs (x := x) (by simp [IOp.slots])]
  cases hx : s.ev x with
  | none => rw [hx] at h; cases h
  | some v =>
   rw [hx] at h
   simp only [] at h ⊢
   cases hn : nilS kind v with
   | some b => rw [hn] at h; exact h
   | none =>
    rw [hn] at h
    simp only [] at h ⊢
    have hrd : E.rd = rdS v := by have h' := h; ((repeat' (split at h')) <;> first | (cases h'; done) | (injection h' with hh; subst hh; first | rfl | (simp; done)))
    rw [hrd] at hr
    rw [Zj7 hr]
    exact h
 | idx x i sz =>
  simp only [step] at h ⊢
  rw [Z6 hs (x := x) (by simp [IOp.slots]; grind), Z6 hs (x := i) (by simp [IOp.slots]; grind)]
  split at h
  ·rename_i id k n hx hi
   try rw [hx, hi]
   try simp only []
   have hrd : E.rd = [id] := by have h' := h; ((repeat' (split at h')) <;> first | (cases h'; done) | (injection h' with hh; subst hh; first | rfl | (simp; done)))
   rw [Zq (hr id (by rw [hrd]; simp)), Z41 (hr id (by rw [hrd]; simp))]
   exact h
  ·rename_i id lo len k n hx hi
   try rw [hx, hi]
   try simp only []
   have hrd : E.rd = [id] := by have h' := h; ((repeat' (split at h')) <;> first | (cases h'; done) | (injection h' with hh; subst hh; first | rfl | (simp; done)))
   rw [Zq (hr id (by rw [hrd]; simp))]
   exact h
  ·rename_i r k n hx hi
   try rw [hx, hi]
   exact h
  cases h
 | ld x =>
  simp only [step] at h ⊢
  rw [Z6 hs (x := x) (by simp [IOp.slots])]
  cases hx : s.ev x with
  | none => rw [hx] at h; cases h
  | some p =>
   rw [hx] at h
   simp only [] at h ⊢
   split at h
   ·rename_i v hv
    have hrd : E.rd = rdS p := by injection h with h; subst h; rfl
    rw [hrd] at hr
    rw [Z8k hr, hv]
    exact h
   rename_i hne
   split at h
   ·rename_i id i off
    obtain ⟨T, tm, n, g, h1, h2⟩ := Zj6 h
    have hc : cellS t.hp (.ept id i off) 1 = cellS s.hp (.ept id i off) 1 := Z8k fun j hj => hr j (by rw [h2]; simp [rdS] at hj; simp [hj])
    have hcn : cellS s.hp (.ept id i off) 1 = none := by
     have : rowOf s.hp id = none := by
      have := Z1v h1
      unfold rowOf; rw [this]
     simp [cellS, this]
    rw [hc, hcn]
    exact Zrx h hr
   cases h
 | lda x n =>
  simp only [step] at h ⊢
  rw [Z6 hs (x := x) (by simp [IOp.slots])]
  cases hx : s.ev x with
  | none => rw [hx] at h; cases h
  | some p =>
   rw [hx] at h
   simp only [] at h ⊢
   have hrd : E.rd = rdS p := by have h' := h; ((repeat' (split at h')) <;> first | (cases h'; done) | (injection h' with hh; subst hh; first | rfl | (simp; done)))
   rw [hrd] at hr
   rw [Z8k hr]
   exact h
 | st x v n =>
  simp only [step] at h ⊢
  rw [Z6 hs (x := x) (by simp [IOp.slots]; grind), Z6 hs (x := v) (by simp [IOp.slots]; grind)]
  split at h
  ·rename_i id off a hx hv
   try rw [hx, hv]
   try simp only []
   have hrd : E.rd = [id] := by have h' := h; ((repeat' (split at h')) <;> first | (cases h'; done) | (injection h' with hh; subst hh; first | rfl | (simp; done)))
   rw [Z8i (hr id (by rw [hrd]; simp))]
   exact h
  ·rename_i id i off a hx hv
   try rw [hx, hv]
   try simp only []
   cases hro : rowOf s.hp id with
   | some r =>
    rw [hro] at h
    simp only [] at h
    have hrd : E.rd = [id] := by have h' := h; ((repeat' (split at h')) <;> first | (cases h'; done) | (injection h' with hh; subst hh; first | rfl | (simp; done)))
    rw [Zq (hr id (by rw [hrd]; simp)), hro]
    exact h
   | none =>
    rw [hro] at h
    simp only [] at h
    split at h
    ·rename_i hb
     obtain ⟨T, tm, n, g, h1, h2⟩ := Zlx h
     rw [Zq (hr id (by rw [h2]; simp)), hro]
     simp only [hb]
     exact Zwj h hr
    cases h
  cases h
 | b2s x =>
  simp only [step] at h ⊢
  rw [Z6 hs (x := x) (by simp [IOp.slots])]
  split at h
  ·exact h
  ·rename_i v hne hx
   have hrd : E.rd = rdS v := by have h' := h; ((repeat' (split at h')) <;> first | (cases h'; done) | (injection h' with hh; subst hh; first | rfl | (simp; done)))
   rw [hrd] at hr
   (try simp only [])
   rw [Z44 hr]
   exact h
  cases h
 | ssl x lo hi =>
  simp only [step] at h ⊢
  rw [Z6 hs (x := x) (by simp [IOp.slots]; grind)]
  cases lo <;> cases hi <;> simp only [] at h ⊢
  ·exact h
  ·rename_i b; rw [Z6 hs (x := b) (by simp [IOp.slots, Opnd.oslots]; grind)]; exact h
  ·rename_i b; rw [Z6 hs (x := b) (by simp [IOp.slots, Opnd.oslots]; grind)]; exact h
  rename_i b c; rw [Z6 hs (x := b) (by simp [IOp.slots, Opnd.oslots]; grind), Z6 hs (x := c) (by simp [IOp.slots, Opnd.oslots]; grind)]; exact h
 | sls x lo hi sz =>
  have hf : ∀ v len, slS t v len lo hi = slS s v len lo hi := fun v len => Zv6 hs (by simp [IOp.slots]; grind) (by simp [IOp.slots]; grind)
  have hlo : ∀ y, lo = some y → t.ev y = s.ev y := fun y e => Z6 hs (by subst e; simp [IOp.slots, Opnd.oslots]; grind)
  have hhi : ∀ y, hi = some y → t.ev y = s.ev y := fun y e => Z6 hs (by subst e; simp [IOp.slots, Opnd.oslots]; grind)
  simp only [step] at h ⊢
  rw [Z6 hs (x := x) (by simp [IOp.slots]; grind)]
  simp only [hf]
  cases lo <;> cases hi <;> (try simp only [hlo _ rfl]) <;> (try simp only [hhi _ rfl])
  all_goals
   split at h
   ·exact h
   ·rename_i v hne hx
    have hrd : E.rd = rdS v := by
     have h' := h
     split at h'
     ·split at h'
      ·exact (Zll h').1
      cases h'
     cases h'
    rw [hrd] at hr
    (try simp only [])
    rw [Zj7 hr, Z44 hr]
    exact h
   cases h
 | app rk bytes a x =>
  simp only [step] at h ⊢
  rw [Z6 hs (x := x) (by simp [IOp.slots]; grind), Z6 hs (x := a) (by simp [IOp.slots]; grind)]
  split at h
  ·rename_i h1 h2; exact h
  ·rename_i id h1 h2
   try rw [h1, h2]
   have hrd : E.rd = [id] := by have h' := h; ((repeat' (split at h')) <;> first | (cases h'; done) | (injection h' with hh; subst hh; first | rfl | (simp; done)))
   rw [Zq (hr id (by rw [hrd]; simp))]
   exact h
  ·rename_i u hne h1 h2
   have hrd : E.rd = rdS u := by have h' := h; ((repeat' (split at h')) <;> first | (cases h'; done) | (injection h' with hh; subst hh; first | rfl | (simp; done)))
   rw [Z44 fun j hj => hr j (by rw [hrd]; simp [hj])]
   exact h
  ·rename_i id u hne h1 h2
   have hrd : E.rd = id :: rdS u := by have h' := h; ((repeat' (split at h')) <;> first | (cases h'; done) | (injection h' with hh; subst hh; first | rfl | (simp; done)))
   rw [Zq (hr id (by rw [hrd]; simp)), Z44 fun j hj => hr j (by rw [hrd]; simp [hj])]
   exact h
  cases h
 | copy a x sz =>
  simp only [step] at h ⊢
  rw [Z6 hs (x := x) (by simp [IOp.slots]; grind), Z6 hs (x := a) (by simp [IOp.slots]; grind)]
  split at h
  ·rename_i id h1 h2
   (try rw [h1, h2]); exact h
  ·rename_i id lo n h1 h2
   (try rw [h1, h2]); exact h
  ·rename_i id u hn h1 h2
   try rw [h1, h2]
   try simp only []
   have hrd : E.rd = id :: rdS u := by have h' := h; ((repeat' (split at h')) <;> first | (cases h'; done) | (injection h' with hh; subst hh; first | rfl | (simp; done)))
   rw [Zq (hr id (by rw [hrd]; simp)), Z44 fun j hj => hr j (by rw [hrd]; simp [hj])]
   exact h
  ·rename_i id lo n u hn h1 h2
   try rw [h1, h2]
   try simp only []
   have hrd : E.rd = id :: rdS u := by have h' := h; ((repeat' (split at h')) <;> first | (cases h'; done) | (injection h' with hh; subst hh; first | rfl | (simp; done)))
   rw [Zq (hr id (by rw [hrd]; simp)), Z44 fun j hj => hr j (by rw [hrd]; simp [hj])]
   exact h
  ·rename_i id i u h1 h2
   try rw [h1, h2]
   try simp only []
   have hrd : E.rd = id :: rdS u := by have h' := h; ((repeat' (split at h')) <;> first | (cases h'; done) | (injection h' with hh; subst hh; first | rfl | (simp; done)))
   rw [Zq (hr id (by rw [hrd]; simp)), Z44 fun j hj => hr j (by rw [hrd]; simp [hj])]
   exact h
  cases h
 | len str x =>
  simp only [step] at h ⊢
  rw [Z6 hs (x := x) (by simp [IOp.slots])]
  cases hx : s.ev x with
  | none => rw [hx] at h; cases h
  | some v =>
   rw [hx] at h
   simp only [] at h ⊢
   cases v with
   | wsl id =>
    have hrd : E.rd = [id] := by
     have h' := h
     cases str <;> cases hq : lenS s.hp (SV.wsl id) <;> rw [hq] at h' <;> simp only [] at h' <;> first
      | (cases h'; done)
      | (injection h' with hh; subst hh; rfl)
      | (split at h' <;> first | (cases h'; done) | (injection h' with hh; subst hh; rfl))
    have hl : lenS t.hp (.wsl id) = lenS s.hp (.wsl id) := by
     simp only [lenS]
     rw [Zq (hr id (by rw [hrd]; simp))]
    rw [hl]
    cases hq : lenS s.hp (.wsl id) with
    | some n => rw [hq] at h; cases str <;> exact h
    | none =>
     rw [hq] at h
     cases str with
     | true => cases h
     | false =>
      simp only [] at h ⊢
      rw [Z41 (hr id (by rw [hrd]; simp))]
      exact h
   | _ => cases str <;> exact h
 | clear rk x =>
  simp only [step] at h ⊢
  rw [Z6 hs (x := x) (by simp [IOp.slots])]
  split at h
  ·rename_i hx; exact h
  ·rename_i id hx
   try rw [hx]
   try simp only []
   have hrd : E.rd = [id] := by have h' := h; ((repeat' (split at h')) <;> first | (cases h'; done) | (injection h' with hh; subst hh; first | rfl | (simp; done)))
   rw [Zq (hr id (by rw [hrd]; simp))]
   exact h
  cases h
 | call f args =>
  simp only [step] at h ⊢
  rw [Z76 hs (xs := args) (by simp [IOp.slots])]
  split at h
  ·rename_i vs hv
   try rw [hv]
   exact Zgh h hr
  cases h
 | callv g args =>
  simp only [step] at h ⊢
  rw [Z6 hs (x := g) (by simp [IOp.slots]; grind), Z76 hs (xs := args) (by simp [IOp.slots]; grind)]
  split at h
  ·rename_i vs hg hv
   try rw [hg, hv]
   exact Zgh h hr
  cases h
 | mksd T tm b x y => simp only [step] at h ⊢; rw [Z6 hs (x := x) (by simp [IOp.slots]; grind), Z6 hs (x := y) (by simp [IOp.slots]; grind)]; exact h
 | mkm u => exact h
 | mpg u ok m k =>
  simp only [step] at h ⊢
  rw [Z6 hs (x := m) (by simp [IOp.slots]; grind), Z6 hs (x := k) (by simp [IOp.slots]; grind)]
  split at h
  ·rename_i id b h1 h2
   have hrd : E.rd = [id] := by have h' := h; ((repeat' (split at h')) <;> first | (cases h'; done) | (injection h' with hh; subst hh; rfl))
   rw [Zjh (hr id (by rw [hrd]; simp))]
   exact h
  cases h
 | mpu u m k v =>
  simp only [step] at h ⊢
  rw [Z6 hs (x := m) (by simp [IOp.slots]; grind), Z6 hs (x := k) (by simp [IOp.slots]; grind), Z6 hs (x := v) (by simp [IOp.slots]; grind)]
  split at h
  ·rename_i id b x h1 h2 h3
   have hrd : E.rd = [id] := by have h' := h; ((repeat' (split at h')) <;> first | (cases h'; done) | (injection h' with hh; subst hh; rfl))
   rw [Zjh (hr id (by rw [hrd]; simp))]
   exact h
  cases h
 | bsld T tm x =>
  simp only [step] at h ⊢
  rw [Z6 hs (x := x) (by simp [IOp.slots])]
  split at h
  ·rename_i v h1
   split at h
   ·rename_i d ids hsh
    have hrd : E.rd = ids := by have h' := h; ((repeat' (split at h')) <;> first | (cases h'; done) | (injection h' with hh; subst hh; rfl))
    rw [hrd] at hr
    rw [Zlh tm [v] d [] ids hsh hr]
    exact h
   cases h
  cases h
 | appd T tm b x y =>
  simp only [step] at h ⊢
  rw [Z6 hs (x := x) (by simp [IOp.slots]; grind), Z6 hs (x := y) (by simp [IOp.slots]; grind)]
  split at h
  ·rename_i id h1 h2
   cases hp : prowOf s.hp id with
   | none => rw [hp] at h; cases h
   | some q =>
    obtain ⟨U, tm', n, g⟩ := q
    rw [hp] at h
    simp only [] at h
    have hrd : E.rd = [id, g] := by have h' := h; ((repeat' (split at h')) <;> first | (cases h'; done) | (injection h' with hh; subst hh; rfl))
    rw [Z41 (hr id (by rw [hrd]; simp)), hp]
    simp only []
    rw [Z5y (hr g (by rw [hrd]; simp))]
    exact h
  ·rename_i i0 id h1 h2
   cases hp0 : prowOf s.hp i0 with
   | none => rw [hp0] at h; cases h
   | some q0 =>
    obtain ⟨V, tm0, m, g0⟩ := q0
    rw [hp0] at h
    cases hp : prowOf s.hp id with
    | none => rw [hp] at h; cases h
    | some q =>
     obtain ⟨U, tm', n, g⟩ := q
     rw [hp] at h
     simp only [] at h
     have hrd : E.rd = [i0, g0, id, g] := by have h' := h; ((repeat' (split at h')) <;> first | (cases h'; done) | (injection h' with hh; subst hh; rfl))
     rw [Z41 (hr i0 (by rw [hrd]; simp)), hp0, Z41 (hr id (by rw [hrd]; simp)), hp]
     simp only []
     rw [Z5y (hr g0 (by rw [hrd]; simp)), Z5y (hr g (by rw [hrd]; simp))]
     exact h
  cases h
 | new T zs => exact h
 | build zs ps => simp only [step] at h ⊢; rw [Zd3 hs (ps := ps) (by simp [IOp.slots])]; exact h
 | bsl rk n zs ps =>
  simp only [step] at h ⊢
  rw [Zd3 hs (ps := ps) (by simp [IOp.slots])]
  split at h
  ·rename_i l hl
   have hrd : E.rd = partW l := by have h' := h; ((repeat' (split at h')) <;> first | (cases h'; done) | (injection h' with hh; subst hh; rfl))
   (try rw [hl])
   (try simp only [])
   rw [Zkx l (fun i hi => hr i (by rw [hrd]; exact hi))]
   exact h
  cases h
 | mkfn f l => simp only [step] at h ⊢; rw [Z76 hs (xs := l) (by simp [IOp.slots])]; exact h
 | box T n x => simp only [step] at h ⊢; rw [Z6 hs (x := x) (by simp [IOp.slots])]; exact h
 | mv x => simp only [step] at h ⊢; rw [Z6 hs (x := x) (by simp [IOp.slots])]; exact h
 | bnot x => simp only [step] at h ⊢; rw [Z6 hs (x := x) (by simp [IOp.slots])]; exact h
 | ineg k x => simp only [step] at h ⊢; rw [Z6 hs (x := x) (by simp [IOp.slots])]; exact h
 | icom k x => simp only [step] at h ⊢; rw [Z6 hs (x := x) (by simp [IOp.slots])]; exact h
 | fld x off => simp only [step] at h ⊢; rw [Z6 hs (x := x) (by simp [IOp.slots])]; exact h
 | chk x => simp only [step] at h ⊢; rw [Z6 hs (x := x) (by simp [IOp.slots])]; exact h
 | ext x i => simp only [step] at h ⊢; rw [Z6 hs (x := x) (by simp [IOp.slots])]; exact h
 | part x off n g => simp only [step] at h ⊢; rw [Z6 hs (x := x) (by simp [IOp.slots])]; exact h
 | conv k x => simp only [step] at h ⊢; rw [Z6 hs (x := x) (by simp [IOp.slots])]; exact h
 | smv x => simp only [step] at h ⊢; rw [Z6 hs (x := x) (by simp [IOp.slots])]; exact h
 | cvs x =>
  simp only [step] at h ⊢
  rw [Z6 hs (x := x) (by simp [IOp.slots])]
  split at h
  ·rename_i id hx
   have hrd : E.rd = [id] := by have h' := h; ((repeat' (split at h')) <;> first | (cases h'; done) | (injection h' with hh; subst hh; first | rfl | (simp; done)))
   rw [Zq (hr id (by rw [hrd]; simp))]
   exact h
  cases h
 | sla n x =>
  simp only [step] at h ⊢
  rw [Z6 hs (x := x) (by simp [IOp.slots])]
  split at h
  ·rename_i id hx
   have hrd : E.rd = [id] := by have h' := h; ((repeat' (split at h')) <;> first | (cases h'; done) | (injection h' with hh; subst hh; first | rfl | (simp; done)))
   rw [Z8i (hr id (by rw [hrd]; simp))]
   exact h
  ·rename_i id i hx
   have hrd : E.rd = [id] := by have h' := h; ((repeat' (split at h')) <;> first | (cases h'; done) | (injection h' with hh; subst hh; first | rfl | (simp; done)))
   rw [Zq (hr id (by rw [hrd]; simp))]
   exact h
  cases h
 | s2a T n x => simp only [step] at h ⊢; rw [Z6 hs (x := x) (by simp [IOp.slots])]; exact h
 | gix g x => simp only [step] at h ⊢; rw [Z6 hs (x := x) (by simp [IOp.slots])]; exact h
 | s2b T x => simp only [step] at h ⊢; rw [Z6 hs (x := x) (by simp [IOp.slots])]; exact h
 | ib o k x y => simp only [step] at h ⊢; rw [Z6 hs (x := x) (by simp [IOp.slots]; grind), Z6 hs (x := y) (by simp [IOp.slots]; grind)]; exact h
 | sh o k x y => simp only [step] at h ⊢; rw [Z6 hs (x := x) (by simp [IOp.slots]; grind), Z6 hs (x := y) (by simp [IOp.slots]; grind)]; exact h
 | sb o x y => simp only [step] at h ⊢; rw [Z6 hs (x := x) (by simp [IOp.slots]; grind), Z6 hs (x := y) (by simp [IOp.slots]; grind)]; exact h
 | bb n x y => simp only [step] at h ⊢; rw [Z6 hs (x := x) (by simp [IOp.slots]; grind), Z6 hs (x := y) (by simp [IOp.slots]; grind)]; exact h
 | steq k n x y => simp only [step] at h ⊢; rw [Z6 hs (x := x) (by simp [IOp.slots]; grind), Z6 hs (x := y) (by simp [IOp.slots]; grind)]; exact h
 | sidx x y => simp only [step] at h ⊢; rw [Z6 hs (x := x) (by simp [IOp.slots]; grind), Z6 hs (x := y) (by simp [IOp.slots]; grind)]; exact h
 | mks rk b x y => simp only [step] at h ⊢; rw [Z6 hs (x := x) (by simp [IOp.slots]; grind), Z6 hs (x := y) (by simp [IOp.slots]; grind)]; exact h
 | mx x y => simp only [step] at h ⊢; rw [Z6 hs (x := x) (by simp [IOp.slots]; grind), Z6 hs (x := y) (by simp [IOp.slots]; grind)]; exact h
 | mn x y => simp only [step] at h ⊢; rw [Z6 hs (x := x) (by simp [IOp.slots]; grind), Z6 hs (x := y) (by simp [IOp.slots]; grind)]; exact h
def Eff.kOK (E : Eff) : Prop :=
 match E.out with
 | .one _ u => ∀ i c, (i, c) ∈ u → i ∈ E.wr
 | .many _ _ _ u => ∀ x i c, (i, c) ∈ u x → i ∈ E.wr
theorem Z2n {ob : List Prop} {rd wr : List Nat} {v : SV} {u : List (Nat × Option Ck)} (h : ∀ i c, (i, c) ∈ u → i ∈ wr) : Eff.kOK ⟨ob, rd, wr, .one v u⟩ := h
theorem Z8g : ∀ (n fresh i : Nat), fresh ≤ i → i < fresh + n → i ∈ below fresh n
 | 0, fresh, i, h1, h2 => by omega
 | n + 1, fresh, i, h1, h2 => by
  unfold below
  by_cases e : i = fresh
  ·subst e; exact List.mem_cons_self ..
  exact List.mem_cons_of_mem _ (Z8g n (fresh + 1) i (by omega) (by omega))
theorem Zle : ∀ (ids : List Nat) (cks : List Ck) (i : Nat) (c : Option Ck), (i, c) ∈ sameU ids cks → i ∈ ids
 | [], cks, i, c, h => by cases cks <;> simp [sameU] at h
 | j :: ids, [], i, c, h => by simp [sameU] at h
 | j :: ids, d :: cks, i, c, h => by
  simp only [sameU, List.mem_cons, Prod.mk.injEq] at h
  rcases h with h | h
  ·rw [h.1]; exact List.mem_cons_self ..
  exact List.mem_cons_of_mem _ (Zle ids cks i c h)
theorem Zg8 {ids : List Nat} {fresh i j : Nat} (h : back ids fresh i = some j) : j ∈ ids ++ below fresh 8 := by
 unfold back nth at h
 split at h
 ·rename_i k hk
  injection h with h; subst h
  exact List.mem_append_left _ (List.mem_of_getElem? hk)
 rename_i hk
 split at h
 ·rename_i hb
  injection h with h; subst h
  have h1 := List.getElem?_eq_none_iff.1 hk
  have h2 := Nat.le_of_ble_eq_true hb
  exact List.mem_append_right _ (Z8g _ _ _ (by omega) (by omega))
 cases h
theorem Z7k {ids : List Nat} {fresh : Nat} : ∀ (post : List PostC) (k : Nat) (u : List (Nat × Option Ck)), postUpd ids fresh k post = some u → ∀ i c, (i, c) ∈ u → i ∈ ids ++ below fresh 8
 | [], k, u, h, i, c, hm => by simp only [postUpd] at h; injection h with h; subst h; simp at hm
 | .same :: l, k, u, h, i, c, hm => by simp only [postUpd] at h; exact Z7k l _ u h i c hm
 | .gone :: l, k, u, h, i, c, hm => by
  simp only [postUpd] at h
  split at h
  ·rename_i j u' h1 h2
   injection h with h; subst h
   rcases List.mem_cons.1 hm with e | hm
   ·injection e with e1 e2; subst e1; exact Zg8 h1
   exact Z7k l _ u' h2 i c hm
  cases h
 | .to d :: l, k, u, h, i, c, hm => by
  simp only [postUpd] at h
  split at h
  ·rename_i j d' u' h1 h2 h3
   injection h with h; subst h
   rcases List.mem_cons.1 hm with e | hm
   ·injection e with e1 e2; subst e1; exact Zg8 h1
   exact Z7k l _ u' h3 i c hm
  cases h
theorem Zwr {ids : List Nat} {cks : List Ck} {fresh : Nat} {post : List PostC} {i : Nat} {c : Option Ck} (h : (i, c) ∈ upds ids cks fresh post) : i ∈ ids ++ below fresh 8 := by
 unfold upds at h
 rcases List.mem_append.1 h with h | h
 ·exact List.mem_append_left _ (Zle _ _ _ _ h)
 cases hp : postUpd ids fresh 0 post with
 | none => rw [hp] at h; simp at h
 | some u => rw [hp] at h; exact Z7k post 0 u hp i c h
theorem Zc2 {keep : List Nat} : ∀ (u : List (Nat × Option Ck)) (i : Nat) (c : Option Ck), (i, c) ∈ dropU keep u → (i, c) ∈ u ∧ i ∉ keep
 | [], i, c, h => by simp [dropU] at h
 | (j, d) :: l, i, c, h => by
  simp only [dropU] at h
  cases hj : nmem j keep with
  | true =>
   rw [hj] at h
   obtain ⟨h1, h2⟩ := Zc2 l i c h
   exact ⟨List.mem_cons_of_mem _ h1, h2⟩
  | false =>
   rw [hj] at h
   rcases List.mem_cons.1 h with e | h
   ·injection e with e1 e2
    subst e1; subst e2
    exact ⟨List.mem_cons_self .., fun hk => by rw [(Zk _ _).2 hk] at hj; cases hj⟩
   obtain ⟨h1, h2⟩ := Zc2 l i c h
   exact ⟨List.mem_cons_of_mem _ h1, h2⟩
theorem Zc1 {keep : List Nat} : ∀ (l : List Nat) (i : Nat), i ∈ l → i ∉ keep → i ∈ dropN keep l
 | [], i, h, _ => by simp at h
 | j :: l, i, h, hk => by
  simp only [dropN]
  cases hj : nmem j keep with
  | true =>
   rcases List.mem_cons.1 h with e | h
   ·subst e; exact absurd ((Zk _ _).1 hj) hk
   exact Zc1 l i h hk
  | false =>
   rcases List.mem_cons.1 h with e | h
   ·subst e; exact List.mem_cons_self ..
   exact List.mem_cons_of_mem _ (Zc1 l i h hk)
theorem Zgt {keep ids : List Nat} {cks : List Ck} {fresh : Nat} {post : List PostC} {i : Nat} {c : Option Ck} (h : (i, c) ∈ dropU keep (upds ids cks fresh post)) : i ∈ dropN keep ids ++ below fresh 8 := by
 obtain ⟨h1, h2⟩ := Zc2 _ _ _ h
 rcases List.mem_append.1 (Zwr h1) with h | h
 ·exact List.mem_append_left _ (Zc1 _ _ h h2)
 exact List.mem_append_right _ h
theorem Zgi {Γ : FuncId → Option Con} {f : FuncId} {vs : List SV} {fresh : Nat} {E : Eff} (h : callS Γ f vs s fresh = some E) : E.kOK := by
 unfold callS callT effOf at h
 repeat' (split at h)
 all_goals first
  | (cases h; done)
  | (injection h with h; subst h; intro i c hm; exact Zgt hm)
  | (injection h with h; subst h; intro x i c hm; exact Zgt hm)
mutual
theorem Zk7 : ∀ (tm : Tm) (d : D) (n : Nat), n ≤ (tm.opn d n).2.2 ∧ ∀ x ∈ (tm.opn d n).2.1, n ≤ x.1 ∧ x.1 < (tm.opn d n).2.2
 | .v t, d, n => ⟨Nat.le_refl _, fun x hx => (by cases hx)⟩
 | .p T fs, d, n => by
  obtain ⟨h1, h2⟩ := Zk9 fs d 0 (n + 1)
  rw [Z3x]
  refine ⟨by simp only []; omega, fun x hx => ?_⟩
  simp only [] at hx ⊢
  rcases List.mem_cons.1 hx with rfl | hx
  ·exact ⟨Nat.le_refl _, by simp only []; omega⟩
  have := h2 x hx; omega
 | .w T e, d, n => by
  rw [Z3y]
  refine ⟨by simp only []; omega, fun x hx => ?_⟩
  simp only [] at hx ⊢
  rw [List.mem_singleton.1 hx]
  exact ⟨Nat.le_refl _, by simp only []; omega⟩
theorem Zk9 : ∀ (ts : List Tm) (d : D) (j n : Nat), n ≤ (Tm.opns ts d j n).2.2 ∧ ∀ x ∈ (Tm.opns ts d j n).2.1, n ≤ x.1 ∧ x.1 < (Tm.opns ts d j n).2.2
 | [], d, j, n => ⟨Nat.le_refl _, fun x hx => (by cases hx)⟩
 | t :: ts, d, j, n => by
  obtain ⟨h1, h2⟩ := Zk7 t (lock D.fld d j) n
  obtain ⟨h3, h4⟩ := Zk9 ts d (j + 1) (t.opn (lock D.fld d j) n).2.2
  rw [Z3z]
  refine ⟨by simp only []; omega, fun x hx => ?_⟩
  simp only [] at hx ⊢
  rcases List.mem_append.1 hx with hx | hx
  ·have := h2 x hx; omega
  have := h4 x hx; omega
end
theorem Zry {h : List (Nat × Ck)} {id i off f : Nat} {E : Eff} (e : ldP h id i off f = some E) : E.kOK := by
 unfold ldP at e
 split at e
 ·split at e
  ·rename_i tm' l hg
   unfold opnS at e
   split at e
   rename_i cs chs m hopn
   split at e
   ·rename_i v hv hm
    injection e with e; subst e
    have hm := Nat.le_of_ble_eq_true hm
    refine Z2n fun j c hj => ?_
    rcases List.mem_cons.1 hj with hj | hj
    ·injection hj with hj _; subst hj; exact List.mem_cons_self
    obtain ⟨x, hx, e⟩ := List.mem_map.1 hj
    injection e with e _
    subst e
    have := (Zk7 tm' (lock getD l i) (f + 1)).2 x (by rw [hopn]; exact hx)
    rw [hopn] at this
    exact List.mem_cons_of_mem _ (Z8g _ _ _ (by omega) (by simp only [] at this; omega))
   cases e
  ·split at e
   ·injection e with e; subst e; exact Z2n fun j c hj => (by simp at hj)
   cases e
  cases e
 cases e
theorem Zwk {h : List (Nat × Ck)} {id i off f : Nat} {v : SV} {E : Eff} (e : stP h id i off v f = some E) : E.kOK := by
 unfold stP at e
 split at e
 ·split at e
  ·split at e
   ·injection e with e; subst e
    refine Z2n fun j c hj => ?_
    simp only [List.mem_cons, Prod.mk.injEq, List.not_mem_nil, or_false] at hj
    rcases hj with ⟨h, _⟩ | ⟨h, _⟩ | ⟨h, _⟩ <;> simp [h]
   cases e
  cases e
 cases e
theorem Zwm {Γ : FuncId → Option Con} {op : IOp} {f : Nat} {E : Eff} (h : step Γ op s f = some E) : E.kOK := by
 cases op with
 | call f args =>
  simp only [step] at h
  split at h
  ·exact Zgi h
  cases h
 | callv g args =>
  simp only [step] at h
  split at h
  ·exact Zgi h
  cases h
 | ld x =>
  simp only [step] at h
  repeat' (split at h)
  all_goals first
   | (cases h; done)
   | exact Zry h
   | (injection h with h; subst h; exact Z2n fun i c hm => (by simp at hm))
 | st x v n =>
  simp only [step] at h
  repeat' (split at h)
  all_goals first
   | (cases h; done)
   | exact Zwk h
   | (injection h with h; subst h; exact Z2n fun i c hm => (by simp at hm; simp [hm.1]))
 | bsld T tm x =>
  simp only [step] at h
  repeat' (split at h)
  all_goals first
   | (cases h; done)
   | (injection h with h; subst h; exact Z2n fun i c hm => (Zcg _ _ _ _ hm).elim (fun h => List.mem_append_left _ h) (fun h => by simp at h; rcases h with ⟨h, _⟩ | ⟨h, _⟩ <;> simp [h]))
 | appd T tm b x y =>
  simp only [step] at h
  repeat' (split at h)
  all_goals first
   | (cases h; done)
   | (injection h with h; subst h; exact Z2n fun i c hm => List.mem_map_of_mem (f := Prod.fst) hm)
 | bsl rk n zs ps =>
  simp only [step] at h
  repeat' (split at h)
  all_goals first
   | (cases h; done)
   | (injection h with h; subst h; exact Z2n fun i c hm => (Zcg _ _ _ _ hm).elim (fun h => List.mem_append_left _ h) (fun h => by simp at h; simp [h.1]))
 | sls x lo hi sz =>
  simp only [step] at h
  have key : ∀ v len, slS s v len lo hi = some E → E.kOK := fun v len h => by
   obtain ⟨h1, h2, u, h3⟩ := Zll h
   unfold Eff.kOK
   rw [h3]
   intro i c hm
   simp at hm
  repeat' (split at h)
  all_goals first
   | (cases h; done)
   | exact key _ _ h
   | (injection h with h; subst h; simp [Eff.kOK, Eff.pure, Eff.pureOb]; done)
 | _ =>
  simp only [step] at h
  (repeat' (split at h)) <;> first
   | (cases h; done)
   | (injection h with h; subst h; simp [Eff.kOK, Eff.pure, Eff.pureOb]; done)
   | (injection h with h; subst h; simp only [Eff.kOK, List.mem_cons, Prod.mk.injEq, List.not_mem_nil, or_false]; rintro i c (⟨h, _⟩ | ⟨h, _⟩) <;> simp [h])
end
end Go.Proofs.Ytojbpjcfdjakkaa
end
section
set_option linter.unusedVariables false
set_option linter.unusedSimpArgs false
namespace Go.Proofs.Ytojbpjcfdjakkaa
open Go.RowKit
structure EffG : Type 1 where
 ob : List Prop
 rd : List Nat
 wr : List Nat
 X : Type
 P : X → Prop
 v : X → Option SV
 u : X → List (Nat × Option Ck)
def Eff.toG (E : Eff) : EffG :=
 match E.out with
 | .one v u => ⟨E.ob, E.rd, E.wr, Unit, fun _ => True, fun _ => some v, fun _ => u⟩
 | .many X P v u => ⟨E.ob, E.rd, E.wr, X, P, fun x => some (v x), u⟩
def mode (io : Io) (s : St) : Option Bool :=
 match io.g with
 | none => some true
 | some (g, w) => match fget s.fr g with
  | some (.v (.bool b)) => some (b == w)
  | some (.tup []) => some false
  | _ => none
def skipG : EffG := ⟨[], [], [], Unit, fun _ => True, fun _ => some (.tup []), fun _ => []⟩
noncomputable def stepG (Γ : FuncId → Option Con) (io : Io) (f : Nat) (s : St) : Option EffG :=
 match mode io s with
 | some true => (step Γ io.op s f).map Eff.toG
 | some false => some skipG
 | none => none
theorem Z45 (E : Eff) : E.toG.rd = E.rd ∧ E.toG.wr = E.wr ∧ E.toG.ob = E.ob := by
 unfold Eff.toG; split <;> exact ⟨rfl, rfl, rfl⟩
theorem Zs6 {io : Io} {s t : St} (hs : ∀ i ∈ io.looks, fget s.fr i = fget t.fr i) : mode io t = mode io s := by
 unfold mode
 cases hg : io.g with
 | none => rfl
 | some p => obtain ⟨g, w⟩ := p; simp only []; rw [hs g (by simp [Io.looks, hg])]
theorem Zdp {Γ : FuncId → Option Con} {io : Io} {f : Nat} {s t : St} {E : EffG} (h : stepG Γ io f s = some E) (hs : ∀ i ∈ io.looks, fget s.fr i = fget t.fr i) (hr : ∀ id ∈ E.rd, hget s.hp id = hget t.hp id) : stepG Γ io f t = some E := by
 unfold stepG at h ⊢
 rw [Zs6 hs]
 split at h
 ·cases hst : step Γ io.op s f with
  | none => rw [hst] at h; cases h
  | some E0 =>
   rw [hst] at h
   simp only [Option.map_some] at h
   injection h with h; subst h
   rw [Zwl hst (fun i hi => hs i (by simp [Io.looks, hi])) fun id hid => hr id (by rw [(Z45 E0).1]; exact hid)]
   rfl
 ·exact h
 cases h
theorem Zly {Γ : FuncId → Option Con} {io : Io} {f : Nat} {s : St} {E : EffG} (h : stepG Γ io f s = some E) : ∀ x i c, (i, c) ∈ E.u x → i ∈ E.wr := by
 unfold stepG at h
 split at h
 ·cases hst : step Γ io.op s f with
  | none => rw [hst] at h; cases h
  | some E0 =>
   rw [hst] at h
   simp only [Option.map_some] at h
   injection h with h; subst h
   have := Zwm hst
   unfold Eff.kOK at this
   unfold Eff.toG
   split
   ·rename_i v u ho; rw [ho] at this; exact fun _ => this
   rename_i X P v u ho; rw [ho] at this; exact this
 ·injection h with h; subst h
  intro x i c hm
  simp [skipG] at hm
 cases h
def Alike (s t : St) : Prop := s.fr = t.fr ∧ s.nx = t.nx ∧ ∀ id, hget s.hp id = hget t.hp id
theorem Alike.refl (s : St) : Alike s s := ⟨rfl, rfl, fun _ => rfl⟩
theorem Alike.symm {s t : St} (h : Alike s t) : Alike t s := ⟨h.1.symm, h.2.1.symm, fun i => (h.2.2 i).symm⟩
theorem Alike.trans {s t u : St} (h : Alike s t) (k : Alike t u) : Alike s u := ⟨h.1.trans k.1, h.2.1.trans k.2.1, fun i => (h.2.2 i).trans (k.2.2 i)⟩
theorem Alike.put {s t : St} (h : Alike s t) (d : Option Nat) (v : Option SV) (u : List (Nat × Option Ck)) : Alike (s.put d v u) (t.put d v u) := by
 refine ⟨?_, h.2.1, fun i => ?_⟩
 ·cases d <;> simp only [St.put] <;> rw [h.1]
 simp only [St.put, Zp, h.2.2 i]
theorem Z81 : ∀ (u : List (Nat × Option Ck)) (i : Nat) (c : Option Ck), ulook u i = some c → (i, c) ∈ u
 | [], i, c, h => by simp [ulook] at h
 | (j, d) :: u, i, c, h => by
  unfold ulook at h
  split at h
  ·rename_i x hx
   injection h with h; subst h
   exact List.mem_cons_of_mem _ (Z81 u i _ hx)
  split at h
  ·rename_i hb
   injection h with h; subst h
   have := (nbeq _ _).1 hb
   subst this
   exact List.mem_cons_self ..
  cases h
theorem Zl4 {s : St} {d : Option Nat} {v : Option SV} {u : List (Nat × Option Ck)} {wr : List Nat} (hw : ∀ i c, (i, c) ∈ u → i ∈ wr) {id : Nat} (h : id ∉ wr) : hget (s.put d v u).hp id = hget s.hp id := by
 simp only [St.put, Zp]
 cases hl : ulook u id with
 | none => rfl
 | some c => exact absurd (hw id c (Z81 _ _ _ hl)) h
theorem Zl3 {s : St} {d : Option Nat} {v : Option SV} {u : List (Nat × Option Ck)} {i : Nat} (h : ∀ e, d = some e → e ≠ i) : fget (s.put d v u).fr i = fget s.fr i := by
 cases d with
 | none => rfl
 | some e => exact Z77 _ _ _ _ (h e rfl)
theorem Zh1 : ∀ (l : List (Option SV)) (i j : Nat) (v u : Option SV), i ≠ j → fput (fput l i v) j u = fput (fput l j u) i v
 | [], i, j, v, u, h => rfl
 | x :: l, 0, 0, v, u, h => absurd rfl h
 | x :: l, 0, j + 1, v, u, h => rfl
 | x :: l, i + 1, 0, v, u, h => rfl
 | x :: l, i + 1, j + 1, v, u, h => by simp only [fput]; rw [Zh1 l i j v u (by omega)]
theorem Zus {s : St} {d e : Option Nat} {v v' : Option SV} {u u' : List (Nat × Option Ck)} {wr wr' : List Nat} (hd : ∀ x y, d = some x → e = some y → x ≠ y) (hw : ∀ i c, (i, c) ∈ u → i ∈ wr) (hw' : ∀ i c, (i, c) ∈ u' → i ∈ wr') (hdj : ∀ i ∈ wr, i ∉ wr') :
  Alike ((s.put d v u).put e v' u') ((s.put e v' u').put d v u) := by
 refine ⟨?_, rfl, fun id => ?_⟩
 ·cases d <;> cases e <;> simp only [St.put]
  rename_i x y
  exact Zh1 _ _ _ _ _ (hd x y rfl rfl)
 simp only [St.put, Zp]
 cases h1 : ulook u id with
 | none => cases h2 : ulook u' id <;> rfl
 | some c =>
  cases h2 : ulook u' id with
  | none => rfl
  | some c' => exact absurd (hw' _ _ (Z81 _ _ _ h2)) (hdj _ (hw _ _ (Z81 _ _ _ h1)))
def runL (Γ : FuncId → Option Con) (f0 : Nat) : List (Nat × Io) → List (Nat × List Nat × List Nat) → St → (St → Prop) → Prop
 | [], acc, s, K => K s
 | (j, io) :: l, acc, s, K => ∃ E, stepG Γ io (f0 + 8 * j) s = some E ∧ accOk io.pre E.rd E.wr acc = true ∧ (∃ x, E.P x) ∧ (∀ p ∈ E.ob, p) ∧ ∀ x, E.P x → runL Γ f0 l ((j, E.rd, E.wr) :: acc) (s.put io.dst (E.v x) (E.u x)) K
def enumL : Nat → List Io → List (Nat × Io)
 | _, [] => []
 | j, io :: l => (j, io) :: enumL (j + 1) l
def AccLe (acc acc' : List (Nat × List Nat × List Nat)) : Prop := ∀ pre rd wr, accOk pre rd wr acc = true → accOk pre rd wr acc' = true
theorem Z3t {pre rd wr : List Nat} {j : Nat} {rdp wrp : List Nat} {acc : List (Nat × List Nat × List Nat)} : accOk pre rd wr ((j, rdp, wrp) :: acc) = true ↔ (j ∈ pre ∨ (ndisj wrp rd = true ∧ ndisj wrp wr = true ∧ ndisj wr rdp = true)) ∧ accOk pre rd wr acc = true := by
 have e : accOk pre rd wr ((j, rdp, wrp) :: acc) = (match nmem j pre with
  | true => accOk pre rd wr acc
  | false => match ndisj wrp rd with
   | true => match ndisj wrp wr with
    | true => match ndisj wr rdp with
     | true => accOk pre rd wr acc
     | false => false
    | false => false
   | false => false) := rfl
 rw [e]
 cases hm : nmem j pre with
 | true => simp [(Zk pre j).1 hm]
 | false =>
  have : j ∉ pre := fun h => by rw [(Zk pre j).2 h] at hm; cases hm
  simp only [this, false_or]
  cases ndisj wrp rd <;> cases ndisj wrp wr <;> cases ndisj wr rdp <;> simp
theorem AccLe.cons {acc acc' : List (Nat × List Nat × List Nat)} (h : AccLe acc acc') (e : Nat × List Nat × List Nat) : AccLe (e :: acc) (e :: acc') := by
 obtain ⟨j, rdp, wrp⟩ := e
 intro pre rd wr hh
 rw [Z3t] at hh ⊢
 exact ⟨hh.1, h _ _ _ hh.2⟩
theorem AccLe.drop (acc : List (Nat × List Nat × List Nat)) (e : Nat × List Nat × List Nat) : AccLe (e :: acc) acc := by
 obtain ⟨j, rdp, wrp⟩ := e
 intro pre rd wr hh
 rw [Z3t] at hh
 exact hh.2
theorem AccLe.dum {acc acc' : List (Nat × List Nat × List Nat)} (h : AccLe acc acc') (j : Nat) : AccLe acc ((j, [], []) :: acc') := by
 intro pre rd wr hh
 rw [Z3t]
 refine ⟨.inr ⟨rfl, rfl, ?_⟩, h _ _ _ hh⟩
 induction wr with
 | nil => rfl
 | cons i l ih => unfold ndisj; simp only [nmem]; exact ih (by
   have : ∀ (acc : List (Nat × List Nat × List Nat)), accOk pre rd (i :: l) acc = true → accOk pre rd l acc = true := by
    have dj1 : ∀ (w : List Nat), ndisj w (i :: l) = true → ndisj w l = true := by
     intro w
     induction w with
     | nil => intro _; rfl
     | cons a w ih2 =>
      intro h
      unfold ndisj at h ⊢
      simp only [nmem] at h
      cases hb : Nat.beq a i <;> rw [hb] at h <;> simp only [] at h
      ·cases hm : nmem a l <;> rw [hm] at h <;> simp only [] at h ⊢
       ·exact ih2 h
       cases h
      cases h
    have dj2 : ∀ (r : List Nat), ndisj (i :: l) r = true → ndisj l r = true := by
     intro r h
     unfold ndisj at h
     cases hm : nmem i r <;> rw [hm] at h <;> simp only [] at h
     ·exact h
     cases h
    intro acc
    induction acc with
    | nil => intro _; rfl
    | cons e acc ih3 =>
     obtain ⟨q, rdp, wrp⟩ := e
     intro h
     rw [Z3t] at h ⊢
     exact ⟨h.1.imp id fun ⟨a, b, c⟩ => ⟨a, dj1 _ b, dj2 _ c⟩, ih3 h.2⟩
   exact this acc hh)
theorem Zda {Γ : FuncId → Option Con} {f0 : Nat} : ∀ (l : List (Nat × Io)) (acc acc' : List (Nat × List Nat × List Nat)) (s : St) (K K' : St → Prop), AccLe acc acc' → (∀ s, K s → K' s) → runL Γ f0 l acc s K → runL Γ f0 l acc' s K'
 | [], acc, acc', s, K, K', ha, hK, h => hK _ h
 | (j, io) :: l, acc, acc', s, K, K', ha, hK, h => by
  obtain ⟨E, h1, h2, h3, h4, h5⟩ := h
  exact ⟨E, h1, ha _ _ _ h2, h3, h4, fun x hx => Zda l _ _ _ K K' (ha.cons _) hK (h5 x hx)⟩
def Kal (K : St → Prop) (t : St) : Prop := ∃ s, K s ∧ Alike s t
theorem Kal.idem {K : St → Prop} {t : St} (h : Kal (Kal K) t) : Kal K t := by
 obtain ⟨s, ⟨r, h1, h2⟩, h3⟩ := h
 exact ⟨r, h1, h2.trans h3⟩
theorem Zla {Γ : FuncId → Option Con} {f0 : Nat} : ∀ (l : List (Nat × Io)) (acc : List (Nat × List Nat × List Nat)) (s t : St) (K : St → Prop), Alike s t → runL Γ f0 l acc s K → runL Γ f0 l acc t (Kal K)
 | [], acc, s, t, K, ha, h => ⟨s, h, ha⟩
 | (j, io) :: l, acc, s, t, K, ha, h => by
  obtain ⟨E, h1, h2, h3, h4, h5⟩ := h
  exact ⟨E, Zdp h1 (fun i _ => by rw [ha.1]) (fun i _ => ha.2.2 i), h2, h3, h4, fun x hx => Zla l _ _ _ K (ha.put _ _ _) (h5 x hx)⟩
theorem Zpc {a b : Io} (h : apartIO a b = true) : (∀ d, a.dst = some d → d ∉ b.looks) ∧ (∀ d e, a.dst = some d → b.dst = some e → d ≠ e) ∧ (∀ e, b.dst = some e → e ∉ a.looks) := by
 unfold apartIO at h
 rw [Bool.and_eq_true] at h
 obtain ⟨h1, h2⟩ := h
 refine ⟨fun d hd hm => ?_, fun d e hd he hde => ?_, fun e he hm => ?_⟩
 ·rw [hd] at h1
  simp only [Bool.and_eq_true, Bool.not_eq_true'] at h1
  rw [(Zk _ d).2 hm] at h1
  exact absurd h1.1 (by simp)
 ·rw [hd, he] at h1
  simp only [Bool.and_eq_true, Bool.not_eq_true'] at h1
  have := (Zm d e).1 h1.2
  exact this hde
 rw [he] at h2
 simp only [Bool.not_eq_true'] at h2
 rw [(Zk _ e).2 hm] at h2
 cases h2
theorem pull {Γ : FuncId → Option Con} {f0 : Nat} {i : Nat} {io : Io} {L2 : List (Nat × Io)} : ∀ (L1 : List (Nat × Io)) (acc : List (Nat × List Nat × List Nat)) (s : St) (K : St → Prop), (∀ p ∈ L1, p.1 ∉ io.pre ∧ apartIO p.2 io = true) → runL Γ f0 (L1 ++ (i, io) :: L2) acc s K →
  ∃ E, stepG Γ io (f0 + 8 * i) s = some E ∧ accOk io.pre E.rd E.wr acc = true ∧ (∃ x, E.P x) ∧ (∀ p ∈ E.ob, p) ∧ ∀ x, E.P x → runL Γ f0 (L1 ++ L2) acc (s.put io.dst (E.v x) (E.u x)) (Kal K)
 | [], acc, s, K, hL, h => by
  obtain ⟨E, h1, h2, h3, h4, h5⟩ := h
  exact ⟨E, h1, h2, h3, h4, fun x hx => Zda L2 _ _ _ K (Kal K) (AccLe.drop acc _) (fun s hs => ⟨s, hs, Alike.refl s⟩) (h5 x hx)⟩
 | (j, a) :: L1, acc, s, K, hL, h => by
  obtain ⟨EA, a1, a2, ⟨x0, hx0⟩, a4, a5⟩ := h
  obtain ⟨hpre, hap⟩ := hL (j, a) (List.mem_cons_self ..)
  obtain ⟨p1, p2, p3⟩ := Zpc hap
  have ih := fun x hx => pull L1 _ _ K (fun p hp => hL p (List.mem_cons_of_mem _ hp)) (a5 x hx)
  have awr := Zly a1
  have back : ∀ x E, stepG Γ io (f0 + 8 * i) (s.put a.dst (EA.v x) (EA.u x)) = some E → accOk io.pre E.rd E.wr ((j, EA.rd, EA.wr) :: acc) = true → stepG Γ io (f0 + 8 * i) s = some E := by
   intro x E hE hacc
   rw [Z3t] at hacc
   obtain ⟨q1, q2, q3⟩ := hacc.1.resolve_left hpre
   exact Zdp hE (fun k hk => Zl3 fun e he hek => p1 e he (by rw [hek]; exact hk)) fun id hid => Zl4 (awr x) fun hw => Z2o _ _ q1 id hw hid
  obtain ⟨E, e1, e2, e3, e4, e5⟩ := ih x0 hx0
  have hEs := back x0 E e1 e2
  have ewr := Zly hEs
  have hacc := e2
  rw [Z3t] at hacc
  obtain ⟨q1, q2, q3⟩ := hacc.1.resolve_left hpre
  refine ⟨E, hEs, hacc.2, e3, e4, fun y hy => ?_⟩
  refine ⟨EA, ?_, a2, ⟨x0, hx0⟩, a4, fun x hx => ?_⟩
  ·exact Zdp a1 (fun k hk => (Zl3 fun e he hek => p3 e he (by rw [hek]; exact hk)).symm) fun id hid => (Zl4 (ewr y) fun hw => Z2o _ _ q3 id hw hid).symm
  obtain ⟨E', f1, f2, f3, f4, f5⟩ := ih x hx
  have hE' := back x E' f1 f2
  rw [hEs] at hE'
  injection hE' with hE'
  subst hE'
  refine Zda _ _ _ _ _ _ (fun _ _ _ h => h) (fun s => Kal.idem) (Zla _ _ _ _ _ ?_ (f5 y hy))
  exact Zus p2 (awr x) (ewr y) fun k hk => Z2o _ _ q2 k hk
theorem Z7p {Γ : FuncId → Option Con} {f0 : Nat} {K : St → Prop} : ∀ (os : List Io) (j : Nat) (acc acc' : List (Nat × List Nat × List Nat)) (s : St), AccLe acc acc' → vcOpsD Γ os j (f0 + 8 * j) acc s K → runL Γ f0 (enumL j os) acc' s K
 | [], j, acc, acc', s, ha, h => h
 | io :: os, j, acc, acc', s, ha, h => by
  have ex : mode io s = some true → vcExecD Γ io j (f0 + 8 * j) acc s (fun acc s => vcOpsD Γ os (j + 1) (f0 + 8 * j + 8) acc s K) → runL Γ f0 (enumL j (io :: os)) acc' s K := by
   intro hm h
   unfold vcExecD at h
   split at h
   ·rename_i E hst
    split at h
    ·rename_i hacc
     obtain ⟨h1, h2⟩ := Z7q h
     unfold Eff.go at h2
     obtain ⟨h3, h4⟩ := Z7q h2
     refine ⟨E.toG, by unfold stepG; rw [hm]; simp [hst], ?_, ?_, ?_, ?_⟩
     ·rw [(Z45 E).1, (Z45 E).2.1]; exact ha _ _ _ hacc
     ·unfold Eff.toG
      split
      ·exact ⟨(), trivial⟩
      rename_i ho
      rw [ho] at h1
      exact h1 _ (by simp [Out.obs])
     ·rw [(Z45 E).2.2]; exact h3
     rw [(Z45 E).1, (Z45 E).2.1]
     unfold Eff.toG
     split
     ·rename_i v u ho
      rw [ho] at h4
      intro _ _
      exact Z7p os (j + 1) _ _ _ (ha.cons _) h4
     rename_i X P v u ho
     rw [ho] at h4
     intro x hx
     exact Z7p os (j + 1) _ _ _ (ha.cons _) (h4 x hx).out
    exact h.elim
   exact h.elim
  have sk : mode io s = some false → vcOpsD Γ os (j + 1) (f0 + 8 * j + 8) acc (s.put io.dst (some (.tup [])) []) K → runL Γ f0 (enumL j (io :: os)) acc' s K := by
   intro hm h
   refine ⟨skipG, by unfold stepG; rw [hm], ?_, ⟨(), trivial⟩, by simp [skipG], fun x hx => ?_⟩
   ·have : ∀ (acc : List (Nat × List Nat × List Nat)), accOk io.pre [] [] acc = true := by
     intro acc
     induction acc with
     | nil => rfl
     | cons e acc ih =>
      obtain ⟨q, rdp, wrp⟩ := e
      rw [Z3t]
      have : ∀ w : List Nat, ndisj w [] = true := by
       intro w; induction w with
       | nil => rfl
       | cons a w ih => unfold ndisj; simpa [nmem] using ih
      exact ⟨.inr ⟨this _, this _, rfl⟩, ih⟩
    exact this _
   exact Z7p os (j + 1) _ _ _ (ha.dum j) h
  simp only [vcOpsD, vcOpD] at h
  split at h
  ·rename_i hg
   exact ex (by simp [mode, hg]) h
  ·rename_i g hg
   split at h
   ·rename_i b hb
    cases b with
    | true => exact ex (by simp [mode, hg, hb]) h
    | false => exact sk (by simp [mode, hg, hb]) h
   ·rename_i hb
    exact sk (by simp [mode, hg, hb]) h
   exact h.elim
  rename_i g hg
  split at h
  ·rename_i b hb
   cases b with
   | true => exact sk (by simp [mode, hg, hb]) h
   | false => exact ex (by simp [mode, hg, hb]) h
  ·rename_i hb
   exact sk (by simp [mode, hg, hb]) h
  exact h.elim
section
variable {P : Program} {C : Ctx} {PL : Nat → Option Pl} {s : St} {Fr : Nat → Prop} {a : Act} {w : World} {o : Oper} {Q : Exit → Act → World → Prop} {Γ : FuncId → Option Con}
theorem Ztj {t : St} (h : Alike s t) : Own PL t.hp = Own PL s.hp := by
 funext b
 unfold Own
 simp only [h.2.2]
theorem Sat.alike {t : St} (H : Sat C PL s Fr a w) (h : Alike s t) : Sat C PL t Fr a w := by
 have e := Ztj (PL := PL) h
 refine { ck := ?_, dj := ?_, own := ?_, os := H.os, tape := H.tape, output := H.output, size := H.size, old := H.old, zlt := H.zlt, fr := H.fr, arg := H.arg, len := ?_, def_ := by rw [e]; exact H.def_, slot := ?_ }
 ·intro id c hc; rw [← h.2.2] at hc; rw [e]; exact H.ck id c hc
 ·intro i j c d p q b h1 h2; rw [← h.2.2] at h1 h2; exact H.dj i j c d p q b h1 h2
 ·intro b; rw [e]; exact H.own b
 ·rw [← h.1]; exact H.len
 intro i v hi; rw [← h.1] at hi; rw [e]; exact H.slot i v hi
def GuardR (ops : Array Oper) (o : Oper) (io : Io) : Prop := (o.guard = none ∧ io.g = none) ∨ ∃ j want p g, o.guard = some (j, want) ∧ ops[j]? = some p ∧ p.dst = some g ∧ io.g = some (g, want)
theorem gstep {ops : Array Oper} {i : Nat} {io : Io} (hi : ops[i]? = some o) (hsnd : Snd P C Γ o io.op) (hdst : io.dst = o.dst) (hg : GuardR ops o io) {fresh : Nat} {E : EffG} {K : Act → World → Prop} (h : Sat C PL s Fr a w) (hfr : ∀ i, fresh ≤ i → i < fresh + 8 → Fr i) (hk : C.k ≤ fresh)
  (hE : stepG Γ io fresh s = some E) (hob : ∀ p ∈ E.ob, p) (next : ∀ x PL' a' w', E.P x → Sat C PL' (s.put io.dst (E.v x) (E.u x)) (fun i => Fr i ∧ ¬ (fresh ≤ i ∧ i < fresh + 8)) a' w' → K a' w') : wpOp P ops Q i K a w := by
 have hw : ∀ b, mode io s = some b → Region.wanted o (yielded ops a.tmps) = b := by
  intro b hm
  rcases hg with ⟨h1, h2⟩ | ⟨j, want, p, g, h1, h2, h3, h4⟩
  ·unfold mode at hm
   rw [h2] at hm
   injection hm with hm; subst hm
   simp [Region.wanted, h1]
  unfold mode at hm
  rw [h4] at hm
  simp only [] at hm
  split at hm
  ·rename_i c hc
   injection hm with hm; subst hm
   exact Zfl h1 h2 h3 h hc
  ·rename_i hc
   injection hm with hm; subst hm
   exact Zfm h1 h2 h3 h hc
  cases hm
 unfold wpOp
 simp only [hi]
 unfold stepG at hE
 split at hE
 ·rename_i hm
  rw [if_pos (hw true hm)]
  cases hst : step Γ io.op s fresh with
  | none => rw [hst] at hE; cases hE
  | some E0 =>
   rw [hst] at hE
   simp only [Option.map_some] at hE
   injection hE with hE; subst hE
   refine .inl (Oper.wp_mono (fun a' w' hp => ?_) (hsnd PL s Fr a w Q fresh E0 h hfr hk hst (by rw [← (Z45 E0).2.2]; exact hob)))
   revert next
   unfold Eff.post at hp
   unfold Eff.toG
   rw [hdst]
   split at hp
   ·rename_i v u hout
    rw [hout]
    obtain ⟨PL', hs⟩ := hp
    intro next
    exact next () PL' a' w' trivial hs
   rename_i X Pr v u hout
   rw [hout]
   obtain ⟨x, hx, PL', hs⟩ := hp
   intro next
   exact next x PL' a' w' hx hs
 ·rename_i hm
  rw [if_neg (by rw [hw false hm]; simp)]
  injection hE with hE; subst hE
  refine next () PL _ _ trivial ?_
  have := h.pure o.dst (some (.tup [])) undef (fun v hv => Znu hv)
  rw [hdst]
  exact this.fr_mono (fun i hi => hi.1)
 cases hE
structure DrawS (P : Program) (ops : Array Oper) (ios : List Io) : Prop where
 len : ios.length = ops.size
 c : ∀ (i : Nat) o io, ops[i]? = some o → ios[i]? = some io → cOp P o = some io.op ∧ io.dst = o.dst ∧ GuardR ops o io
 edge : ∀ (i : Nat) o io, ops[i]? = some o → ios[i]? = some io → ∀ e ∈ o.after, Region.binds .any e = true → e.on ∈ io.pre
 lt : ∀ (i : Nat) io, ios[i]? = some io → ∀ p ∈ io.pre, p < i
 clo : ∀ (i : Nat) o io, ops[i]? = some o → ios[i]? = some io → ∀ p ∈ io.pre, ∃ e ∈ o.after, Region.binds .any e = true ∧ (e.on = p ∨ ∃ io', ios[e.on]? = some io' ∧ p ∈ io'.pre)
 ap : ∀ (i j : Nat) a io, j < i → ios[j]? = some a → ios[i]? = some io → j ∈ io.pre ∨ apartIO a io = true
def FrL (f0 : Nat) (listed : Array Bool) (id : Nat) : Prop := f0 ≤ id ∧ ∀ j, listed.getD j false = true → ¬ (f0 + 8 * j ≤ id ∧ id < f0 + 8 * j + 8)
theorem Zcc {listed : Array Bool} {j : Nat} (h : j < listed.size) (d : Bool) : listed.getD j d = listed[j] := by simp [Array.getD, h]
theorem Zg4 (T : Tab P Γ) {ops : Array Oper} {ios : List Io} (D : DrawS P ops ios) {f0 nx : Nat} (hk : C.k ≤ f0) : ∀ (fuel : Nat) (listed : Array Bool) (L : List (Nat × Io)) (s : St) (PL : Nat → Option Pl) (a : Act) (w : World) (K : St → Prop),
  listed.size = ops.size → (∀ j io, (j, io) ∈ L ↔ ios[j]? = some io ∧ listed.getD j true = false) → L.Pairwise (fun x y => x.1 < y.1) → L.length = fuel →
  (∀ (d : Nat) io, ios[d]? = some io → listed.getD d false = true → ∀ p ∈ io.pre, listed.getD p false = true) → Sat C PL s (FrL f0 listed) a w → runL Γ f0 L [] s K → s.nx = nx →
  (∀ s PL a w, K s → s.nx = nx → Sat C PL s (fun i => f0 + 8 * ops.size ≤ i) a w → Q .normal a w) → wpAny P .any ops Q fuel listed a w
 | 0, listed, L, s, PL, a, w, K, hsz, hL, hp, hn, hd, hS, hr, hnx, hQ => by
  have : L = [] := List.length_eq_zero_iff.1 hn
  subst this
  refine ⟨?_, ?_⟩
  ·rw [List.eq_nil_iff_forall_not_mem]
   intro j hj
   rw [mem_ready] at hj
   obtain ⟨h0, o, ho, _⟩ := hj
   have hjl : j < ios.length := by rw [D.len]; exact (Array.getElem?_eq_some_iff.1 ho).1
   have := (hL j ios[j]).2 ⟨List.getElem?_eq_getElem hjl, h0⟩
   simp at this
  refine hQ s PL a w hr hnx (hS.fr_mono fun id hid => ⟨by omega, fun j hj => ?_⟩)
  have : j < listed.size := by
   rcases Nat.lt_or_ge j listed.size with h | h
   ·exact h
   simp [Array.getD, Nat.not_lt.2 h] at hj
  omega
 | fuel + 1, listed, L, s, PL, a, w, K, hsz, hL, hp, hn, hd, hS, hr, hnx, hQ => by
  have listedOf : ∀ j, j < ops.size → (∀ io, (j, io) ∉ L) → listed.getD j false = true := by
   intro j hj hno
   have hjl : j < ios.length := by rw [D.len]; exact hj
   have h1 : ¬ listed.getD j true = false := fun h => hno ios[j] ((hL j ios[j]).2 ⟨List.getElem?_eq_getElem hjl, h⟩)
   rw [Zcc (by omega)] at h1 ⊢
   simpa using h1
  refine ⟨?_, ?_⟩
  ·intro hnil
   exfalso
   cases L with
   | nil => simp at hn
   | cons q L =>
    obtain ⟨j, io⟩ := q
    obtain ⟨h1, h2⟩ := (hL j io).1 (List.mem_cons_self ..)
    have hjl : j < ops.size := by rw [← D.len]; exact (List.getElem?_eq_some_iff.1 h1).1
    have hmem : j ∈ Region.ready .any ops listed := by
     rw [mem_ready]
     refine ⟨h2, ops[j], Array.getElem?_eq_getElem hjl, fun e he hb => ?_⟩
     have hpre := D.edge j _ io (Array.getElem?_eq_getElem hjl) h1 e he hb
     have hlt := D.lt j io h1 _ hpre
     refine listedOf _ (by omega) fun io' hm => ?_
     rcases List.mem_cons.1 hm with e1 | hm
     ·injection e1 with e1 _; omega
     have := (List.pairwise_cons.1 hp).1 _ hm
     simp only [] at this
     omega
    rw [hnil] at hmem
    simp at hmem
  intro i hi
  rw [mem_ready] at hi
  obtain ⟨h0, o, ho, hedge⟩ := hi
  have his : i < ops.size := (Array.getElem?_eq_some_iff.1 ho).1
  have hil : i < ios.length := by rw [D.len]; exact his
  have hio : ios[i]? = some ios[i] := List.getElem?_eq_getElem hil
  generalize ios[i] = io at hio
  have hpl : ∀ p ∈ io.pre, listed.getD p false = true := by
   intro p hp
   obtain ⟨e, he, hb, hor⟩ := D.clo i o io ho hio p hp
   have hl := hedge e he hb
   rcases hor with rfl | ⟨io', h1, h2⟩
   ·exact hl
   exact hd _ io' h1 hl p h2
  obtain ⟨L1, L2, rfl⟩ := List.append_of_mem ((hL i io).2 ⟨hio, h0⟩)
  have hp' := List.pairwise_append.1 hp
  have h1lt : ∀ q ∈ L1, q.1 < i := fun q hq => hp'.2.2 q hq (i, io) (List.mem_cons_self ..)
  have h2gt : ∀ q ∈ L2, i < q.1 := fun q hq => (List.pairwise_cons.1 hp'.2.1).1 q hq
  have hunl : ∀ q ∈ L1, q.1 ∉ io.pre ∧ apartIO q.2 io = true := by
   rintro ⟨j, b⟩ hq
   obtain ⟨g1, g2⟩ := (hL j b).1 (List.mem_append_left _ hq)
   have hnp : j ∉ io.pre := fun hx => by
    have hx := hpl j hx
    have hjs : j < listed.size := by rw [hsz, ← D.len]; exact (List.getElem?_eq_some_iff.1 g1).1
    rw [Zcc hjs] at hx g2
    rw [hx] at g2
    cases g2
   exact ⟨hnp, (D.ap i j b io (h1lt _ hq) g1 hio).resolve_left hnp⟩
  obtain ⟨E, e1, e2, e3, e4, e5⟩ := pull L1 [] s K hunl hr
  obtain ⟨c1, c2, c3⟩ := D.c i o io ho hio
  refine gstep ho (Zge T c1) c2 c3 hS ?_ (by omega) e1 e4 ?_
  ·intro id g1 g2
   refine ⟨by omega, fun j hj => ?_⟩
   have hne : j ≠ i := fun hx => by
    subst hx
    rw [Zcc (by omega)] at hj h0
    rw [hj] at h0
    cases h0
   omega
  intro x PL' a' w' hx hS'
  have hset : ∀ j, (listed.setIfInBounds i true).getD j false = true ↔ listed.getD j false = true ∨ j = i := by
   intro j
   constructor
   ·intro h
    by_cases hj : i = j
    ·exact .inr hj.symm
    rw [getD_set_ne false hj] at h; exact .inl h
   rintro (h | rfl)
   ·exact getD_set_true h
   have : j < listed.size := by omega
   simp [this]
  refine Zg4 T D hk fuel _ (L1 ++ L2) _ PL' a' w' (Kal K) (by simpa using hsz) ?_ ?_ ?_ ?_ ?_ (e5 x hx) hnx ?_
  ·intro j b
   by_cases hj : i = j
   ·subst hj
    constructor
    ·intro hm
     exfalso
     rcases List.mem_append.1 hm with hm | hm
     ·exact Nat.lt_irrefl _ (h1lt _ hm)
     exact Nat.lt_irrefl _ (h2gt _ hm)
    rintro ⟨_, h⟩
    have : i < listed.size := by omega
    simp [this] at h
   rw [getD_set_ne true hj, ← hL j b]
   simp only [List.mem_append, List.mem_cons, Prod.mk.injEq]
   constructor
   ·rintro (h | h)
    ·exact .inl h
    exact .inr (.inr h)
   rintro (h | ⟨h, _⟩ | h)
   ·exact .inl h
   ·exact absurd h.symm hj
   exact .inr h
  ·exact hp.sublist (List.Sublist.append (List.Sublist.refl _) (List.sublist_cons_self _ _))
  ·simp only [List.length_append, List.length_cons] at hn ⊢; omega
  ·intro d io' g1 g2 p hp
   rw [hset]
   rcases (hset d).1 g2 with g2 | rfl
   ·exact .inl (hd d io' g1 g2 p hp)
   rw [hio] at g1
   injection g1 with g1; subst g1
   exact .inl (hpl p hp)
  ·refine hS'.fr_mono fun id hid => ⟨⟨hid.1, fun j hj => hid.2 j ((hset j).2 (.inl hj))⟩, hid.2 i ((hset i).2 (.inr rfl))⟩
  rintro s1 PL1 a1 w1 ⟨s0, k1, k2⟩ hn1 hS1
  exact hQ s0 PL1 a1 w1 k1 (k2.2.1.trans hn1) (hS1.alike k2.symm)
theorem Zgg {all : Array Oper} : ∀ (os : List (Oper × List Nat)) (ios : List Io), cOps P all true os = some ios → ∀ (i : Nat) o io, (os.map (·.1))[i]? = some o → ios[i]? = some io → cOp P o = some io.op ∧ io.dst = o.dst ∧ GuardR all o io
 | [], ios, h, i, o, io, ho, hi => by simp at ho
 | (o0, pre) :: os, ios, h, i, o, io, ho, hi => by
  obtain ⟨x, g, ios', rfl, hx, hl, hg⟩ := Zgf h
  cases i with
  | zero =>
   simp at ho hi
   subst ho; subst hi
   exact ⟨hx, rfl, hg⟩
  | succ i => exact Zgg os ios' hl i o io (by simpa using ho) (by simpa using hi)
theorem Zgs : ∀ (os : List Oper) (ios all : List Io) (j : Nat), drawChk all os ios j = true → os.length = ios.length ∧ ∀ (i : Nat) o io, os[i]? = some o → ios[i]? = some io → preOk (all.map (·.pre)) (edgesOf o) io.pre (j + i) = true ∧ apartFrom io (all.take (j + i)) 0 = true
 | [], ios, all, j, h => by
  cases ios with
  | nil => exact ⟨rfl, fun i o io ho _ => by simp at ho⟩
  | cons _ _ => simp [drawChk] at h
 | o0 :: os, ios, all, j, h => by
  cases ios with
  | nil => simp [drawChk] at h
  | cons io0 ios =>
   simp only [drawChk, Bool.and_eq_true] at h
   obtain ⟨⟨h1, h2⟩, h3⟩ := h
   obtain ⟨h4, h5⟩ := Zgs os ios all (j + 1) h3
   refine ⟨by simp [h4], fun i o io ho hi => ?_⟩
   cases i with
   | zero =>
    simp at ho hi
    subst ho; subst hi
    exact ⟨h1, h2⟩
   | succ i =>
    have := h5 i o io (by simpa using ho) (by simpa using hi)
    have e : j + 1 + i = j + (i + 1) := by omega
    rwa [e] at this
theorem Zg5 {io : Io} : ∀ (l : List Io) (k : Nat), apartFrom io l k = true → ∀ (i : Nat) a, l[i]? = some a → (k + i) ∈ io.pre ∨ apartIO a io = true
 | [], k, h, i, a, hi => by simp at hi
 | b :: l, k, h, i, a, hi => by
  simp only [apartFrom, Bool.and_eq_true, Bool.or_eq_true] at h
  obtain ⟨h1, h2⟩ := h
  cases i with
  | zero =>
   simp at hi
   subst hi
   exact h1.imp (fun h => (Zk _ _).1 h) id
  | succ i =>
   have := Zg5 l (k + 1) h2 i a (by simpa using hi)
   have e : k + 1 + i = k + (i + 1) := by omega
   rwa [e] at this
theorem Zc3 {o : Oper} {p : Nat} : p ∈ edgesOf o ↔ ∃ e ∈ o.after, Region.binds .any e = true ∧ e.on = p := by
 unfold edgesOf
 rw [List.mem_filterMap]
 constructor
 ·rintro ⟨e, he, h⟩
  split at h
  ·rename_i hb
   injection h with h
   exact ⟨e, by simpa using he, hb, h⟩
  cases h
 rintro ⟨e, he, hb, h⟩
 exact ⟨e, by simpa using he, by rw [if_pos hb, h]⟩
theorem Zr7 {ops : Array Oper} {ios : List Io} (hc : cOps P ops true (ops.toList.zip (ancsL ops.toList [])) = some ios) (hd : drawChk ios ops.toList ios 0 = true) : DrawS P ops ios := by
 have hmap : (ops.toList.zip (ancsL ops.toList [])).map (·.1) = ops.toList := by
  rw [List.map_fst_zip]
  rw [Z8e]; simp
 obtain ⟨h1, h2⟩ := Zgs ops.toList ios ios 0 hd
 have hlen : ios.length = ops.size := by rw [← h1]; simp
 have hp : ∀ (i : Nat) o io, ops[i]? = some o → ios[i]? = some io → preOk (ios.map (·.pre)) (edgesOf o) io.pre i = true ∧ apartFrom io (ios.take i) 0 = true := by
  intro i o io ho hi
  have := h2 i o io (by simpa using ho) hi
  simpa using this
 have hop : ∀ (i : Nat) io, ios[i]? = some io → ∃ o, ops[i]? = some o := fun i io hi => by
  have := (List.getElem?_eq_some_iff.1 hi).1
  exact ⟨ops[i]'(by omega), Array.getElem?_eq_getElem (by omega)⟩
 refine ⟨hlen, ?_, ?_, ?_, ?_, ?_⟩
 ·intro i o io ho hi
  exact Zgg _ ios hc i o io (by rw [hmap]; simpa using ho) hi
 ·intro i o io ho hi e he hb
  have := (hp i o io ho hi).1
  simp only [preOk, Bool.and_eq_true, List.all_eq_true] at this
  exact (Zk _ _).1 (this.1 e.on (Zc3.2 ⟨e, he, hb, rfl⟩))
 ·intro i io hi p hpp
  obtain ⟨o, ho⟩ := hop i io hi
  have := (hp i o io ho hi).1
  simp only [preOk, Bool.and_eq_true, List.all_eq_true] at this
  have := (this.2 p hpp).1
  have := Nat.le_of_ble_eq_true this
  omega
 ·intro i o io ho hi p hpp
  have := (hp i o io ho hi).1
  simp only [preOk, Bool.and_eq_true, List.all_eq_true, Bool.or_eq_true, List.any_eq_true] at this
  rcases (this.2 p hpp).2 with h | ⟨d, hdm, h⟩
  ·obtain ⟨e, he, hb, h⟩ := Zc3.1 ((Zk _ _).1 h)
   exact ⟨e, he, hb, .inl h⟩
  obtain ⟨e, he, hb, rfl⟩ := Zc3.1 hdm
  refine ⟨e, he, hb, .inr ?_⟩
  have h := (Zk _ _).1 h
  cases hq : ios[e.on]? with
  | none => simp [hq] at h
  | some io' => exact ⟨io', rfl, by simpa [hq] using h⟩
 intro i j b io hj hb hi
 obtain ⟨o, ho⟩ := hop i io hi
 have := Zg5 _ 0 (hp i o io ho hi).2 j b (by rw [List.getElem?_take_of_lt hj]; exact hb)
 simpa using this
theorem Zc4 : ∀ (ios : List Io) (k j : Nat) (io : Io), (j, io) ∈ enumL k ios ↔ k ≤ j ∧ ios[j - k]? = some io
 | [], k, j, io => by simp [enumL]
 | b :: l, k, j, io => by
  simp only [enumL, List.mem_cons, Prod.mk.injEq, Zc4 l (k + 1) j io]
  constructor
  ·rintro (⟨rfl, rfl⟩ | ⟨h1, h2⟩)
   ·simp
   have : j - k = (j - (k + 1)) + 1 := by omega
   rw [this, List.getElem?_cons_succ]
   exact ⟨by omega, h2⟩
  rintro ⟨h1, h2⟩
  by_cases e : j = k
  ·subst e
   simp at h2
   exact .inl ⟨rfl, h2.symm⟩
  have : j - k = (j - (k + 1)) + 1 := by omega
  rw [this, List.getElem?_cons_succ] at h2
  exact .inr ⟨by omega, h2⟩
theorem Zgv : ∀ (ios : List Io) (k : Nat), (enumL k ios).Pairwise (fun x y => x.1 < y.1)
 | [], k => by simp [enumL]
 | b :: l, k => by
  simp only [enumL, List.pairwise_cons]
  refine ⟨fun q hq => ?_, Zgv l (k + 1)⟩
  obtain ⟨j, io⟩ := q
  have := ((Zc4 l (k + 1) j io).1 hq).1
  simp only []
  omega
theorem Zgu : ∀ (ios : List Io) (k : Nat), (enumL k ios).length = ios.length
 | [], k => rfl
 | b :: l, k => by simp [enumL, Zgu l]
theorem Zr8 (h : Sat C PL s Fr a w) : Sat C PL s Fr a { w with drawn := w.drawn + 1 } := by
 have hD : ∀ {Av v x}, Den PL w Av v x → Den PL { w with drawn := w.drawn + 1 } Av v x := fun h => h.mono (fun _ _ h => h) (Nat.le_refl _) (fun _ _ _ => rfl) (fun _ _ h => h)
 exact { ck := fun id c hc => (h.ck id c hc).mono (fun _ _ h => h) (Nat.le_refl _) (fun _ _ _ => rfl) (fun _ _ h => h) (fun _ _ _ _ => rfl), dj := h.dj, own := h.own, os := h.os, tape := h.tape, output := h.output, size := h.size, old := h.old, zlt := h.zlt, fr := h.fr, arg := h.arg, len := h.len, def_ := h.def_, slot := fun i v hi => hD (h.slot i v hi) }
theorem drawOK (T : Tab P Γ) (hm : P.follows .mixedOrders = true) : DrawOK P C Γ := by
 intro id ops ios s K PL a w Q hc hv h hQ
 simp only [comp] at hc
 split at hc
 ·rename_i ios' hios
  split at hc
  ·rename_i hd
   injection hc with hc; injection hc with _ hc; subst hc
   have D := Zr7 hios hd
   refine wp_region_any hm ?_
   have hS : Sat C PL (⟨s.fr, s.hp, s.nx + 8 * ios'.length⟩ : St) (FrL s.nx (Array.replicate ops.size false)) a { w with drawn := w.drawn + 1 } := by
    have h1 : Sat C PL (⟨s.fr, s.hp, s.nx + 8 * ios'.length⟩ : St) (fun i => s.nx ≤ i) a w := { h.1.toHSat with len := h.1.len, def_ := h.1.def_, slot := h.1.slot }
    exact (Zr8 h1).fr_mono fun i hi => hi.1
   refine Zg4 (nx := s.nx + 8 * ios'.length) T D h.2 ops.size _ (enumL 0 ios') _ PL a _ _ (by simp) ?_ (Zgv _ _) (by rw [Zgu, D.len]) ?_ hS (Z7p ios' 0 [] [] _ (fun _ _ _ h => h) hv) rfl ?_
   ·intro j io
    rw [Zc4]
    simp only [Nat.zero_le, true_and, Nat.sub_zero]
    constructor
    ·intro hj
     have : j < ops.size := by rw [← D.len]; exact (List.getElem?_eq_some_iff.1 hj).1
     exact ⟨hj, by simp [this]⟩
    exact fun h => h.1
   ·intro d io hd hl
    exfalso
    by_cases hx : d < ops.size <;> simp [hx] at hl
   intro s' PL' a' w' hK hn hS'
   refine hQ .nxt s' PL' a' w' hK ⟨?_, ?_⟩
   ·rw [hn, D.len]; exact hS'
   rw [hn]; have := h.2; omega
  cases hc
 cases hc
end
noncomputable def look : List (Nat × Con) → Nat → Option Con
 | [], _ => none
 | (f, c) :: l, g => match Nat.beq g f with | true => some c | false => look l g
theorem Tab.nil (P : Program) : Tab P (look []) := ⟨fun f con h => by simp [look] at h, fun f con h => by simp [look] at h⟩
theorem Tab.cons {P : Program} {l : List (Nat × Con)} {f : Nat} {con : Con} (T : Tab P (look l)) (h : FnOK P f con) {fn : Func} (hf : P.funcs[f]? = some fn) (h1 : (fn.name != "runtime.NumGoroutine") = true) (h2 : fn.body.isSome = true) : Tab P (look ((f, con) :: l)) := by
 have key : ∀ g c, look ((f, con) :: l) g = some c → (g = f ∧ c = con) ∨ look l g = some c := by
  intro g c hg
  unfold look at hg
  cases hb : Nat.beq g f with
  | true => rw [hb] at hg; simp only [] at hg; injection hg with hg; exact .inl ⟨(nbeq g f).1 hb, hg.symm⟩
  | false => rw [hb] at hg; exact .inr hg
 refine ⟨fun g c hg => ?_, fun g c hg => ?_⟩
 ·rcases key g c hg with ⟨rfl, rfl⟩ | hg
  ·exact h
  exact T.ok g c hg
 rcases key g c hg with ⟨rfl, rfl⟩ | hg
 ·exact ⟨fn, hf, h1, h2⟩
 exact T.fn g c hg
theorem FnOK.of {P : Program} {l : List (Nat × Con)} (T : Tab P (look l)) (hm : P.follows .mixedOrders = true) {f : FuncId} {fn : Func} {ic : IC} {rv : List RV} {n : Nat} {con : Con} (hf : P.funcs[f]? = some fn) (hc : compF P fn = some (ic, rv, n))
  (h : FnVC P (look l) ic rv n con) : FnOK P f con := FnOK.of_comp T (fun _ => drawOK T hm) hf hc h
theorem relock.{u} {α : Sort u} {a : α} (h : Nonempty {b // b = a}) : (Classical.choice h).1 = lock a := by rw [choice_lk, lock_eq]
def slotOf : List (Nat × SV) → Nat → Option SV
 | [], _ => none
 | (j, v) :: l, i => match Nat.beq j i with | true => some v | false => slotOf l i
def mkFr (l : List (Nat × SV)) : Nat → Nat → List (Option SV)
 | 0, _ => []
 | n + 1, i => slotOf l i :: mkFr l n (i + 1)
end Go.Proofs.Ytojbpjcfdjakkaa
end
section
set_option linter.unusedVariables false
namespace Go.Proofs.Ytojbpjcfdjakkaa
def stepsN {X T : Type} (B : X → Option (X ⊕ T)) : Nat → X → Option T
 | 0, _ => none
 | n + 1, x => match B x with
  | none => none
  | some (.inl y) => stepsN B n y
  | some (.inr t) => some t
theorem Zdq {X T : Type} {B : X → Option (X ⊕ T)} : ∀ (n m : Nat) (x : X) (t : T), n ≤ m → stepsN B n x = some t → stepsN B m x = some t
 | 0, _, x, t, _, h => by cases h
 | n + 1, 0, x, t, hm, h => by omega
 | n + 1, m + 1, x, t, hm, h => by
  unfold stepsN at h ⊢
  cases hB : B x with
  | none => rw [hB] at h; cases h
  | some b =>
   rw [hB] at h
   cases b with
   | inl y => exact Zdq n m y t (by omega) h
   | inr u => exact h
noncomputable def iter {X T : Type} (B : X → Option (X ⊕ T)) (x : X) : Option T :=
 open Classical in if h : ∃ t, ∃ n, stepsN B n x = some t then some (Classical.choose h) else none
theorem Z62 {X T : Type} {B : X → Option (X ⊕ T)} {x : X} {t : T} : iter B x = some t ↔ ∃ n, stepsN B n x = some t := by
 unfold iter
 constructor
 ·intro h
  split at h
  ·rename_i hx
   injection h with h
   subst h
   exact Classical.choose_spec hx
  cases h
 rintro ⟨n, hn⟩
 have hx : ∃ t, ∃ n, stepsN B n x = some t := ⟨t, n, hn⟩
 rw [dif_pos hx]
 obtain ⟨m, hm⟩ := Classical.choose_spec hx
 have h1 := Zdq n (max n m) x t (by omega) hn
 have h2 := Zdq m (max n m) x _ (by omega) hm
 rw [h1] at h2
 injection h2 with h2
 rw [← h2]
theorem Zck {X T : Type} {B : X → Option (X ⊕ T)} (n : Nat) {x : X} {t : T} (h : stepsN B n x = some t) : iter B x = some t := Z62.2 ⟨n, h⟩
theorem Zcj {X T : Type} (B : X → Option (X ⊕ T)) (x : X) : iter B x = match B x with
  | none => none
  | some (.inl y) => iter B y
  | some (.inr t) => some t := by
 cases hB : B x with
 | none =>
  cases hi : iter B x with
  | none => rfl
  | some t =>
   obtain ⟨n, hn⟩ := Z62.1 hi
   cases n with
   | zero => cases hn
   | succ n => simp only [stepsN, hB] at hn; cases hn
 | some b =>
  cases b with
  | inr t => exact Zck 1 (by simp only [stepsN, hB])
  | inl y =>
   simp only []
   cases hi : iter B y with
   | none =>
    cases hx : iter B x with
    | none => rfl
    | some t =>
     obtain ⟨n, hn⟩ := Z62.1 hx
     cases n with
     | zero => cases hn
     | succ n =>
      simp only [stepsN, hB] at hn
      rw [Zck n hn] at hi
      cases hi
   | some t =>
    obtain ⟨n, hn⟩ := Z62.1 hi
    exact Zck (n + 1) (by simp only [stepsN, hB]; exact hn)
theorem Ze {X T : Type} {B : X → Option (X ⊕ T)} {x y : X} (h : B x = some (.inl y)) : iter B x = iter B y := by rw [Zcj, h]
theorem Za {X T : Type} {B : X → Option (X ⊕ T)} {x : X} {t : T} (h : B x = some (.inr t)) : iter B x = some t := by rw [Zcj, h]
def bindO {α β : Type} (o : Option α) (k : α → Option β) : Option β := match o with
 | none => none
 | some a => k a
theorem Z8 {α β : Type} (a : α) (k : α → Option β) : bindO (some a) k = k a := rfl
theorem Z8h {α β : Type} {o : Option α} {k : α → Option β} {r : β} (h : bindO o k = some r) : ∃ a, o = some a := by
 cases o with
 | none => cases h
 | some a => exact ⟨a, rfl⟩
theorem Zg9 {α β : Type} {o : Option α} {k : α → Option β} {r : β} {a : α} (e : o = some a) (h : bindO o k = some r) : k a = some r := by
 rw [e] at h; exact h
theorem Z3u {α : Type} {p : Prop} [Decidable p] {a : Option α} {r : α} (h : (if p then a else none) = some r) : p ∧ a = some r := by
 by_cases hp : p
 ·rw [if_pos hp] at h; exact ⟨hp, h⟩
 rw [if_neg hp] at h; cases h
theorem Zr {α β : Type} {f : α → β} {o : Option α} {r : β} (h : o.map f = some r) : ∃ t, o = some t ∧ f t = r := by
 cases o with
 | none => cases h
 | some t => exact ⟨t, rfl, Option.some.inj h⟩
end Go.Proofs.Ytojbpjcfdjakkaa
end
section
set_option linter.unusedVariables false
set_option linter.unusedSimpArgs false
namespace Go.Proofs.Ytojbpjcfdjakkaa
open Go.RowKit
theorem K0.{u} {α : Sort u} {a : α} (h : Nonempty {b // b = a}) : (Classical.choice h).1 = a := choice_lk h
theorem K1.{u} {α : Sort u} (a : α) : lock a = a := lock_eq a
theorem Z2 {α : Type} {b b' : Bool} {A B : Prop} {x y : Option α} {r : α} (hr : (if b = true then x else y) = some r) (h1 : b = true → x = some r → A) (h2 : b = false → y = some r → B) (e : b' = b := by first | rfl | (simp only [K0, K1]; done) | (simp only [K0, K1]; rfl)) : sel b' (fun _ => A) (fun _ => B) := by
 subst e
 cases b' with
 | true => exact h1 rfl (by simpa using hr)
 | false => exact h2 rfl (by simpa using hr)
theorem Zd {α : Type} {b b' : Bool} {A B : Prop} {x y : Option α} {r : α} (hr : (if b = true then x else y) = some r) (h1 : b = false → y = some r → A) (h2 : b = true → x = some r → B) (e : b' = bnot b := by first | rfl | (simp only [K0, K1]; done) | (simp only [K0, K1]; rfl)) : sel b' (fun _ => A) (fun _ => B) := by
 subst e
 cases b with
 | true => exact h2 rfl (by simpa using hr)
 | false => exact h1 rfl (by simpa using hr)
theorem Z9 {α : Type} {b : Bool} {A : Prop} {x y : Option α} {r : α} (hr : (if b = true then x else y) = some r) (h1 : b = true → x = some r → A) (h2 : b = false → y = some r → A) : A := by
 cases b with
 | true => exact h1 rfl (by simpa using hr)
 | false => exact h2 rfl (by simpa using hr)
theorem Z3 {α : Type} {p q B : Prop} [Decidable q] {x : Option α} {r : α} (hr : (if q then x else none) = some r) (h : x = some r → B) (e : q → p := by (intro g; first | (simp only [K0, K1, R.len, R.sub]; exact g) | exact g)) : lock Obl (fun _ => p) ∧ B :=
 ⟨obl.2 (e (Z3u hr).1), h (Z3u hr).2⟩
theorem Z5z {α : Type} {p q B : Prop} [Decidable q] {x : Option α} {r : α} (hr : (if q then x else none) = some r) (h : x = some r → B) (e : q → p := by (intro g; first | (simp only [K0, K1, R.len, R.sub]; exact g) | exact g)) : p ∧ B :=
 ⟨e (Z3u hr).1, h (Z3u hr).2⟩
theorem cal {α β : Type} {o : Option α} {k : α → Option β} {r : β} {p1 p2 : Prop} {H Q : α → Prop} (hr : bindO o k = some r) (h2 : p2) (h3 : ∀ q, o = some q → k q = some r → Q q)
  (h1 : (∃ q, o = some q) → p1 := by (intro h; first | exact h | (simp only [K0, K1]; exact h))) (h4 : ∀ q, H q → o = some q := by (intro q h; first | exact h | (simp only [K0, K1] at h; exact h))) : lock Obl (fun _ => p1) ∧ p2 ∧ ∀ q, H q → Q q :=
 ⟨obl.2 (h1 (Z8h hr)), h2, fun q h => h3 q (h4 q h) (Zg9 (h4 q h) hr)⟩
theorem cald {α β : Type} {o : Option α} {k : α → Option β} {r : β} {p0 p1 p2 : Prop} {H Q : α → Prop} (hr : bindO o k = some r) (h2 : p2) (h3 : ∀ q, o = some q → k q = some r → Q q)
  (h0 : (∃ q, o = some q) → p0 := by (intro h; first | exact h | (simp only [K0, K1]; exact h))) (h1 : (∃ q, o = some q) → p1 := by (intro h; first | exact h | (simp only [K0, K1]; exact h))) (h4 : ∀ q, H q → o = some q := by (intro q h; first | exact h | (simp only [K0, K1] at h; exact h))) : p0 ∧ lock Obl (fun _ => p1) ∧ p2 ∧ ∀ q, H q → Q q :=
 ⟨h0 (Z8h hr), obl.2 (h1 (Z8h hr)), h2, fun q h => h3 q (h4 q h) (Zg9 (h4 q h) hr)⟩
theorem obh {α : Type} {P : α → Prop} {G : Prop} (hob : ∀ x ∈ [lock Obl fun _ => ∃ r, P r], x) (h : ∀ r, P r → G) : G := (obl.1 (hob _ (List.mem_singleton.2 rfl))).elim h
def altC (x y : Option CEff) : Option CEff := match x with | some e => some e | none => y
theorem Zl {x y : Option CEff} {e : CEff} (h : altC x y = some e) : x = some e ∨ y = some e := by
 cases x with
 | none => exact .inr h
 | some a => exact .inl h
theorem LoopOK.iter {P : Program} {C : Ctx} {Γ : FuncId → Option Con} (T : Tab P Γ) (hD : DrawOK P C Γ) {c : IC} {s : St} {K : Ex → St → Prop} {X T' : Type} {B : X → Option (X ⊕ T')} {x0 : X} {t : T'} (h : iter B x0 = some t) (inv : X → St) (h0 : ∀ x1, x0 = x1 → Le C s (inv x1))
  (hr : ∀ x b, B x = some b → (∀ t', b = .inr t' → t' = t) → Hidden (vc Γ (LoopOK P C Γ) c (inv x) (fun e s' => match e with | .nxt => (∃ x', b = .inl x') ∧ ∀ x', b = .inl x' → Le C s' (inv x') | .ret => K .ret s' | .exit id => K (.exit id) s'))) : LoopOK P C Γ (.loop c) s K where
 out := by
  intro code PL a w Q hc hs hQ
  obtain ⟨code', e0, hc'⟩ := Zgm hc
  subst e0
  clear hc
  have hc := hc'
  clear hc'
  obtain ⟨code, e0⟩ : ∃ code, code = code' := ⟨_, rfl⟩
  subst e0
  obtain ⟨n, hn⟩ := Z62.1 h
  obtain ⟨PL0, h1⟩ := h0 x0 rfl PL a w hs
  refine wp_loop_ghost (fun n a w => ∃ x PL, stepsN B n x = some t ∧ SatN C PL (inv x) a w) n ⟨x0, PL0, hn, h1⟩ ?_
  rintro n a w ⟨x, PL, hm, hx⟩
  cases n with
  | zero => cases hm
  | succ m =>
   simp only [stepsN] at hm
   cases hB : B x with
   | none => rw [hB] at hm; cases hm
   | some b =>
    rw [hB] at hm
    refine Z2u T hD code c (inv x) _ PL a w _ hc ((hr x b hB (by
     intro t' e
     subst e
     simp only [] at hm
     exact Option.some.inj hm)).out) hx ?_
    intro e s' PL' a' w' hK hS
    cases e with
    | nxt =>
     obtain ⟨⟨x', rfl⟩, hle⟩ := hK
     obtain ⟨PL2, h2⟩ := hle x' rfl PL' a' w' hS
     exact ⟨m, by omega, x', PL2, hm, h2⟩
    | ret => exact hQ .ret s' PL' a' w' hK hS
    | exit id => exact hQ (.exit id) s' PL' a' w' hK hS
end Go.Proofs.Ytojbpjcfdjakkaa
end
