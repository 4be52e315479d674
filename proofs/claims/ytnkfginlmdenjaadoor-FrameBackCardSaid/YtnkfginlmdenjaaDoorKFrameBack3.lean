/-
  Texts that the row of this claim stands on, one behind the other.
-/
import Derived.Orders
import Derived.KernelRfl
import Derived.RangeFuncIn
import Derived.TacticsIn
import Derived.OwnWalkIn
import Derived.Test.YtnkfginlmdenjaaDoorProg
import Derived.Test.YtnkfginlmdenjaaDoorKFrameBack1
import Derived.Test.YtnkfginlmdenjaaDoorKFrameBack2
section
/-
  A walk that reckons: regions whose order is left open.
-/
set_option linter.unusedVariables false
set_option linter.unusedSimpArgs false
namespace Go.Proofs.YtnkfginlmdenjaaDoor
open Go.RowKit

structure EffG : Type 1 where
  ob : List Prop
  rd : List Nat
  wr : List Nat
  X : Type
  P : X → Prop
  v : X → Option SV
  u : X → List (Nat × Option Ck)
def Eff.toG (E : Eff) : EffG :=
  match E.out with
  | .one v u => ⟨E.ob, E.rd, E.wr, Unit, fun _ => True, fun _ => some v, fun _ => u⟩
  | .many X P v u => ⟨E.ob, E.rd, E.wr, X, P, fun x => some (v x), u⟩
def mode (io : Io) (s : St) : Option Bool :=
  match io.g with
  | none => some true
  | some (g, w) => match fget s.fr g with
    | some (.v (.bool b)) => some (b == w)
    | some (.tup []) => some false
    | _ => none
def skipG : EffG := ⟨[], [], [], Unit, fun _ => True, fun _ => some (.tup []), fun _ => []⟩
noncomputable def stepG (Γ : FuncId → Option Con) (io : Io) (f : Nat) (s : St) : Option EffG :=
  match mode io s with
  | some true => (step Γ io.op s f).map Eff.toG
  | some false => some skipG
  | none => none
theorem toG_rd (E : Eff) : E.toG.rd = E.rd ∧ E.toG.wr = E.wr ∧ E.toG.ob = E.ob := by
  unfold Eff.toG; split <;> exact ⟨rfl, rfl, rfl⟩
theorem mode_loc {io : Io} {s t : St} (hs : ∀ i ∈ io.looks, fget s.fr i = fget t.fr i) : mode io t = mode io s := by
  unfold mode
  cases hg : io.g with
  | none => rfl
  | some p => obtain ⟨g, w⟩ := p; simp only []; rw [hs g (by simp [Io.looks, hg])]
theorem stepG_loc {Γ : FuncId → Option Con} {io : Io} {f : Nat} {s t : St} {E : EffG} (h : stepG Γ io f s = some E) (hs : ∀ i ∈ io.looks, fget s.fr i = fget t.fr i) (hr : ∀ id ∈ E.rd, hget s.hp id = hget t.hp id) : stepG Γ io f t = some E := by
  unfold stepG at h ⊢
  rw [mode_loc hs]
  split at h
  · cases hst : step Γ io.op s f with
    | none => rw [hst] at h; cases h
    | some E0 =>
      rw [hst] at h
      simp only [Option.map_some] at h
      injection h with h; subst h
      rw [step_loc hst (fun i hi => hs i (by simp [Io.looks, hi])) fun id hid => hr id (by rw [(toG_rd E0).1]; exact hid)]
      rfl
  · exact h
  · cases h
theorem stepG_wr {Γ : FuncId → Option Con} {io : Io} {f : Nat} {s : St} {E : EffG} (h : stepG Γ io f s = some E) : ∀ x i c, (i, c) ∈ E.u x → i ∈ E.wr := by
  unfold stepG at h
  split at h
  · cases hst : step Γ io.op s f with
    | none => rw [hst] at h; cases h
    | some E0 =>
      rw [hst] at h
      simp only [Option.map_some] at h
      injection h with h; subst h
      have := step_wr hst
      unfold Eff.kOK at this
      unfold Eff.toG
      split
      · rename_i v u ho; rw [ho] at this; exact fun _ => this
      · rename_i X P v u ho; rw [ho] at this; exact this
  · injection h with h; subst h
    intro x i c hm
    simp [skipG] at hm
  · cases h

/-- Where states are alike. -/
def Alike (s t : St) : Prop := s.fr = t.fr ∧ s.nx = t.nx ∧ ∀ id, hget s.hp id = hget t.hp id
theorem Alike.refl (s : St) : Alike s s := ⟨rfl, rfl, fun _ => rfl⟩
theorem Alike.symm {s t : St} (h : Alike s t) : Alike t s := ⟨h.1.symm, h.2.1.symm, fun i => (h.2.2 i).symm⟩
theorem Alike.trans {s t u : St} (h : Alike s t) (k : Alike t u) : Alike s u := ⟨h.1.trans k.1, h.2.1.trans k.2.1, fun i => (h.2.2 i).trans (k.2.2 i)⟩
theorem Alike.put {s t : St} (h : Alike s t) (d : Option Nat) (v : Option SV) (u : List (Nat × Option Ck)) : Alike (s.put d v u) (t.put d v u) := by
  refine ⟨?_, h.2.1, fun i => ?_⟩
  · cases d <;> simp only [St.put] <;> rw [h.1]
  · simp only [St.put, hget_hupd, h.2.2 i]
theorem ulook_key : ∀ (u : List (Nat × Option Ck)) (i : Nat) (c : Option Ck), ulook u i = some c → (i, c) ∈ u
  | [], i, c, h => by simp [ulook] at h
  | (j, d) :: u, i, c, h => by
    unfold ulook at h
    split at h
    · rename_i x hx
      injection h with h; subst h
      exact List.mem_cons_of_mem _ (ulook_key u i _ hx)
    · split at h
      · rename_i hb
        injection h with h; subst h
        have := (nbeq _ _).1 hb
        subst this
        exact List.mem_cons_self ..
      · cases h
theorem put_hp {s : St} {d : Option Nat} {v : Option SV} {u : List (Nat × Option Ck)} {wr : List Nat} (hw : ∀ i c, (i, c) ∈ u → i ∈ wr) {id : Nat} (h : id ∉ wr) : hget (s.put d v u).hp id = hget s.hp id := by
  simp only [St.put, hget_hupd]
  cases hl : ulook u id with
  | none => rfl
  | some c => exact absurd (hw id c (ulook_key _ _ _ hl)) h
theorem put_fr {s : St} {d : Option Nat} {v : Option SV} {u : List (Nat × Option Ck)} {i : Nat} (h : ∀ e, d = some e → e ≠ i) : fget (s.put d v u).fr i = fget s.fr i := by
  cases d with
  | none => rfl
  | some e => exact fget_fput_ne _ _ _ _ (h e rfl)
theorem fput_comm : ∀ (l : List (Option SV)) (i j : Nat) (v u : Option SV), i ≠ j → fput (fput l i v) j u = fput (fput l j u) i v
  | [], i, j, v, u, h => rfl
  | x :: l, 0, 0, v, u, h => absurd rfl h
  | x :: l, 0, j + 1, v, u, h => rfl
  | x :: l, i + 1, 0, v, u, h => rfl
  | x :: l, i + 1, j + 1, v, u, h => by simp only [fput]; rw [fput_comm l i j v u (by omega)]
theorem put_comm {s : St} {d e : Option Nat} {v v' : Option SV} {u u' : List (Nat × Option Ck)} {wr wr' : List Nat} (hd : ∀ x y, d = some x → e = some y → x ≠ y) (hw : ∀ i c, (i, c) ∈ u → i ∈ wr) (hw' : ∀ i c, (i, c) ∈ u' → i ∈ wr') (hdj : ∀ i ∈ wr, i ∉ wr') :
    Alike ((s.put d v u).put e v' u') ((s.put e v' u').put d v u) := by
  refine ⟨?_, rfl, fun id => ?_⟩
  · cases d <;> cases e <;> simp only [St.put]
    rename_i x y
    exact fput_comm _ _ _ _ _ (hd x y rfl rfl)
  · simp only [St.put, hget_hupd]
    cases h1 : ulook u id with
    | none => cases h2 : ulook u' id <;> rfl
    | some c =>
      cases h2 : ulook u' id with
      | none => rfl
      | some c' => exact absurd (hw' _ _ (ulook_key _ _ _ h2)) (hdj _ (hw _ _ (ulook_key _ _ _ h1)))

/-! Runs. -/
def runL (Γ : FuncId → Option Con) (f0 : Nat) : List (Nat × Io) → List (Nat × List Nat × List Nat) → St → (St → Prop) → Prop
  | [], acc, s, K => K s
  | (j, io) :: l, acc, s, K => ∃ E, stepG Γ io (f0 + 8 * j) s = some E ∧ accOk io.pre E.rd E.wr acc = true ∧ (∃ x, E.P x) ∧ (∀ p ∈ E.ob, p) ∧ ∀ x, E.P x → runL Γ f0 l ((j, E.rd, E.wr) :: acc) (s.put io.dst (E.v x) (E.u x)) K
def enumL : Nat → List Io → List (Nat × Io)
  | _, [] => []
  | j, io :: l => (j, io) :: enumL (j + 1) l
def AccLe (acc acc' : List (Nat × List Nat × List Nat)) : Prop := ∀ pre rd wr, accOk pre rd wr acc = true → accOk pre rd wr acc' = true
theorem accOk_cons {pre rd wr : List Nat} {j : Nat} {rdp wrp : List Nat} {acc : List (Nat × List Nat × List Nat)} : accOk pre rd wr ((j, rdp, wrp) :: acc) = true ↔ (j ∈ pre ∨ (ndisj wrp rd = true ∧ ndisj wrp wr = true ∧ ndisj wr rdp = true)) ∧ accOk pre rd wr acc = true := by
  have e : accOk pre rd wr ((j, rdp, wrp) :: acc) = (match nmem j pre with
    | true => accOk pre rd wr acc
    | false => match ndisj wrp rd with
      | true => match ndisj wrp wr with
        | true => match ndisj wr rdp with
          | true => accOk pre rd wr acc
          | false => false
        | false => false
      | false => false) := rfl
  rw [e]
  cases hm : nmem j pre with
  | true => simp [(nmem_iff pre j).1 hm]
  | false =>
    have : j ∉ pre := fun h => by rw [(nmem_iff pre j).2 h] at hm; cases hm
    simp only [this, false_or]
    cases ndisj wrp rd <;> cases ndisj wrp wr <;> cases ndisj wr rdp <;> simp
theorem AccLe.cons {acc acc' : List (Nat × List Nat × List Nat)} (h : AccLe acc acc') (e : Nat × List Nat × List Nat) : AccLe (e :: acc) (e :: acc') := by
  obtain ⟨j, rdp, wrp⟩ := e
  intro pre rd wr hh
  rw [accOk_cons] at hh ⊢
  exact ⟨hh.1, h _ _ _ hh.2⟩
theorem AccLe.drop (acc : List (Nat × List Nat × List Nat)) (e : Nat × List Nat × List Nat) : AccLe (e :: acc) acc := by
  obtain ⟨j, rdp, wrp⟩ := e
  intro pre rd wr hh
  rw [accOk_cons] at hh
  exact hh.2
theorem AccLe.dum {acc acc' : List (Nat × List Nat × List Nat)} (h : AccLe acc acc') (j : Nat) : AccLe acc ((j, [], []) :: acc') := by
  intro pre rd wr hh
  rw [accOk_cons]
  refine ⟨.inr ⟨rfl, rfl, ?_⟩, h _ _ _ hh⟩
  induction wr with
  | nil => rfl
  | cons i l ih => unfold ndisj; simp only [nmem]; exact ih (by
      have : ∀ (acc : List (Nat × List Nat × List Nat)), accOk pre rd (i :: l) acc = true → accOk pre rd l acc = true := by
        have dj1 : ∀ (w : List Nat), ndisj w (i :: l) = true → ndisj w l = true := by
          intro w
          induction w with
          | nil => intro _; rfl
          | cons a w ih2 =>
            intro h
            unfold ndisj at h ⊢
            simp only [nmem] at h
            cases hb : Nat.beq a i <;> rw [hb] at h <;> simp only [] at h
            · cases hm : nmem a l <;> rw [hm] at h <;> simp only [] at h ⊢
              · exact ih2 h
              · cases h
            · cases h
        have dj2 : ∀ (r : List Nat), ndisj (i :: l) r = true → ndisj l r = true := by
          intro r h
          unfold ndisj at h
          cases hm : nmem i r <;> rw [hm] at h <;> simp only [] at h
          · exact h
          · cases h
        intro acc
        induction acc with
        | nil => intro _; rfl
        | cons e acc ih3 =>
          obtain ⟨q, rdp, wrp⟩ := e
          intro h
          rw [accOk_cons] at h ⊢
          exact ⟨h.1.imp id fun ⟨a, b, c⟩ => ⟨a, dj1 _ b, dj2 _ c⟩, ih3 h.2⟩
      exact this acc hh)
theorem runL_mono {Γ : FuncId → Option Con} {f0 : Nat} : ∀ (l : List (Nat × Io)) (acc acc' : List (Nat × List Nat × List Nat)) (s : St) (K K' : St → Prop), AccLe acc acc' → (∀ s, K s → K' s) → runL Γ f0 l acc s K → runL Γ f0 l acc' s K'
  | [], acc, acc', s, K, K', ha, hK, h => hK _ h
  | (j, io) :: l, acc, acc', s, K, K', ha, hK, h => by
    obtain ⟨E, h1, h2, h3, h4, h5⟩ := h
    exact ⟨E, h1, ha _ _ _ h2, h3, h4, fun x hx => runL_mono l _ _ _ K K' (ha.cons _) hK (h5 x hx)⟩
def Kal (K : St → Prop) (t : St) : Prop := ∃ s, K s ∧ Alike s t
theorem Kal.idem {K : St → Prop} {t : St} (h : Kal (Kal K) t) : Kal K t := by
  obtain ⟨s, ⟨r, h1, h2⟩, h3⟩ := h
  exact ⟨r, h1, h2.trans h3⟩
theorem runL_alike {Γ : FuncId → Option Con} {f0 : Nat} : ∀ (l : List (Nat × Io)) (acc : List (Nat × List Nat × List Nat)) (s t : St) (K : St → Prop), Alike s t → runL Γ f0 l acc s K → runL Γ f0 l acc t (Kal K)
  | [], acc, s, t, K, ha, h => ⟨s, h, ha⟩
  | (j, io) :: l, acc, s, t, K, ha, h => by
    obtain ⟨E, h1, h2, h3, h4, h5⟩ := h
    exact ⟨E, stepG_loc h1 (fun i _ => by rw [ha.1]) (fun i _ => ha.2.2 i), h2, h3, h4, fun x hx => runL_alike l _ _ _ K (ha.put _ _ _) (h5 x hx)⟩

/-- May an operation be done ahead of another? -/
theorem apartIO_spec {a b : Io} (h : apartIO a b = true) : (∀ d, a.dst = some d → d ∉ b.looks) ∧ (∀ d e, a.dst = some d → b.dst = some e → d ≠ e) ∧ (∀ e, b.dst = some e → e ∉ a.looks) := by
  unfold apartIO at h
  rw [Bool.and_eq_true] at h
  obtain ⟨h1, h2⟩ := h
  refine ⟨fun d hd hm => ?_, fun d e hd he hde => ?_, fun e he hm => ?_⟩
  · rw [hd] at h1
    simp only [Bool.and_eq_true, Bool.not_eq_true'] at h1
    rw [(nmem_iff _ d).2 hm] at h1
    exact absurd h1.1 (by simp)
  · rw [hd, he] at h1
    simp only [Bool.and_eq_true, Bool.not_eq_true'] at h1
    have := (nbeq_false d e).1 h1.2
    exact this hde
  · rw [he] at h2
    simp only [Bool.not_eq_true'] at h2
    rw [(nmem_iff _ e).2 hm] at h2
    cases h2

/-- An operation that nothing ahead of it must precede may be done at once. -/
theorem pull {Γ : FuncId → Option Con} {f0 : Nat} {i : Nat} {io : Io} {L2 : List (Nat × Io)} : ∀ (L1 : List (Nat × Io)) (acc : List (Nat × List Nat × List Nat)) (s : St) (K : St → Prop), (∀ p ∈ L1, p.1 ∉ io.pre ∧ apartIO p.2 io = true) → runL Γ f0 (L1 ++ (i, io) :: L2) acc s K →
    ∃ E, stepG Γ io (f0 + 8 * i) s = some E ∧ accOk io.pre E.rd E.wr acc = true ∧ (∃ x, E.P x) ∧ (∀ p ∈ E.ob, p) ∧ ∀ x, E.P x → runL Γ f0 (L1 ++ L2) acc (s.put io.dst (E.v x) (E.u x)) (Kal K)
  | [], acc, s, K, hL, h => by
    obtain ⟨E, h1, h2, h3, h4, h5⟩ := h
    exact ⟨E, h1, h2, h3, h4, fun x hx => runL_mono L2 _ _ _ K (Kal K) (AccLe.drop acc _) (fun s hs => ⟨s, hs, Alike.refl s⟩) (h5 x hx)⟩
  | (j, a) :: L1, acc, s, K, hL, h => by
    obtain ⟨EA, a1, a2, ⟨x0, hx0⟩, a4, a5⟩ := h
    obtain ⟨hpre, hap⟩ := hL (j, a) (List.mem_cons_self ..)
    obtain ⟨p1, p2, p3⟩ := apartIO_spec hap
    have ih := fun x hx => pull L1 _ _ K (fun p hp => hL p (List.mem_cons_of_mem _ hp)) (a5 x hx)
    have awr := stepG_wr a1
    -- what the operation does does not hang on what A did
    have back : ∀ x E, stepG Γ io (f0 + 8 * i) (s.put a.dst (EA.v x) (EA.u x)) = some E → accOk io.pre E.rd E.wr ((j, EA.rd, EA.wr) :: acc) = true → stepG Γ io (f0 + 8 * i) s = some E := by
      intro x E hE hacc
      rw [accOk_cons] at hacc
      obtain ⟨q1, q2, q3⟩ := hacc.1.resolve_left hpre
      exact stepG_loc hE (fun k hk => put_fr fun e he hek => p1 e he (by rw [hek]; exact hk)) fun id hid => put_hp (awr x) fun hw => ndisj_spec _ _ q1 id hw hid
    obtain ⟨E, e1, e2, e3, e4, e5⟩ := ih x0 hx0
    have hEs := back x0 E e1 e2
    have ewr := stepG_wr hEs
    have hacc := e2
    rw [accOk_cons] at hacc
    obtain ⟨q1, q2, q3⟩ := hacc.1.resolve_left hpre
    refine ⟨E, hEs, hacc.2, e3, e4, fun y hy => ?_⟩
    refine ⟨EA, ?_, a2, ⟨x0, hx0⟩, a4, fun x hx => ?_⟩
    · exact stepG_loc a1 (fun k hk => (put_fr fun e he hek => p3 e he (by rw [hek]; exact hk)).symm) fun id hid => (put_hp (ewr y) fun hw => ndisj_spec _ _ q3 id hw hid).symm
    · obtain ⟨E', f1, f2, f3, f4, f5⟩ := ih x hx
      have hE' := back x E' f1 f2
      rw [hEs] at hE'
      injection hE' with hE'
      subst hE'
      refine runL_mono _ _ _ _ _ _ (fun _ _ _ h => h) (fun s => Kal.idem) (runL_alike _ _ _ _ _ ?_ (f5 y hy))
      exact put_comm p2 (awr x) (ewr y) fun k hk => ndisj_spec _ _ q2 k hk

/-- From the reckoning to a run. -/
theorem runL_of {Γ : FuncId → Option Con} {f0 : Nat} {K : St → Prop} : ∀ (os : List Io) (j : Nat) (acc acc' : List (Nat × List Nat × List Nat)) (s : St), AccLe acc acc' → vcOpsD Γ os j (f0 + 8 * j) acc s K → runL Γ f0 (enumL j os) acc' s K
  | [], j, acc, acc', s, ha, h => h
  | io :: os, j, acc, acc', s, ha, h => by
    have ex : mode io s = some true → vcExecD Γ io j (f0 + 8 * j) acc s (fun acc s => vcOpsD Γ os (j + 1) (f0 + 8 * j + 8) acc s K) → runL Γ f0 (enumL j (io :: os)) acc' s K := by
      intro hm h
      unfold vcExecD at h
      split at h
      · rename_i E hst
        split at h
        · rename_i hacc
          obtain ⟨h1, h2⟩ := runOb_spec h
          unfold Eff.go at h2
          obtain ⟨h3, h4⟩ := runOb_spec h2
          refine ⟨E.toG, by unfold stepG; rw [hm]; simp [hst], ?_, ?_, ?_, ?_⟩
          · rw [(toG_rd E).1, (toG_rd E).2.1]; exact ha _ _ _ hacc
          · unfold Eff.toG
            split
            · exact ⟨(), trivial⟩
            · rename_i ho
              rw [ho] at h1
              exact h1 _ (by simp [Out.obs])
          · rw [(toG_rd E).2.2]; exact h3
          · rw [(toG_rd E).1, (toG_rd E).2.1]
            unfold Eff.toG
            split
            · rename_i v u ho
              rw [ho] at h4
              intro _ _
              exact runL_of os (j + 1) _ _ _ (ha.cons _) h4
            · rename_i X P v u ho
              rw [ho] at h4
              intro x hx
              exact runL_of os (j + 1) _ _ _ (ha.cons _) (h4 x hx).out
        · exact h.elim
      · exact h.elim
    have sk : mode io s = some false → vcOpsD Γ os (j + 1) (f0 + 8 * j + 8) acc (s.put io.dst (some (.tup [])) []) K → runL Γ f0 (enumL j (io :: os)) acc' s K := by
      intro hm h
      refine ⟨skipG, by unfold stepG; rw [hm], ?_, ⟨(), trivial⟩, by simp [skipG], fun x hx => ?_⟩
      · have : ∀ (acc : List (Nat × List Nat × List Nat)), accOk io.pre [] [] acc = true := by
          intro acc
          induction acc with
          | nil => rfl
          | cons e acc ih =>
            obtain ⟨q, rdp, wrp⟩ := e
            rw [accOk_cons]
            have : ∀ w : List Nat, ndisj w [] = true := by
              intro w; induction w with
              | nil => rfl
              | cons a w ih => unfold ndisj; simpa [nmem] using ih
            exact ⟨.inr ⟨this _, this _, rfl⟩, ih⟩
        exact this _
      · exact runL_of os (j + 1) _ _ _ (ha.dum j) h
    simp only [vcOpsD, vcOpD] at h
    split at h
    · rename_i hg
      exact ex (by simp [mode, hg]) h
    · rename_i g hg
      split at h
      · rename_i b hb
        cases b with
        | true => exact ex (by simp [mode, hg, hb]) h
        | false => exact sk (by simp [mode, hg, hb]) h
      · rename_i hb
        exact sk (by simp [mode, hg, hb]) h
      · exact h.elim
    · rename_i g hg
      split at h
      · rename_i b hb
        cases b with
        | true => exact sk (by simp [mode, hg, hb]) h
        | false => exact ex (by simp [mode, hg, hb]) h
      · rename_i hb
        exact sk (by simp [mode, hg, hb]) h
      · exact h.elim

section
variable {P : Program} {C : Ctx} {PL : Nat → Option Pl} {s : St} {Fr : Nat → Prop} {a : Act} {w : World} {o : Oper} {Q : Exit → Act → World → Prop} {Γ : FuncId → Option Con}
theorem own_alike {t : St} (h : Alike s t) : Own PL t.hp = Own PL s.hp := by
  funext b
  unfold Own
  simp only [h.2.2]
theorem Sat.alike {t : St} (H : Sat C PL s Fr a w) (h : Alike s t) : Sat C PL t Fr a w := by
  have e := own_alike (PL := PL) h
  refine { ck := ?_, dj := ?_, own := ?_, os := H.os, tape := H.tape, output := H.output, size := H.size, old := H.old, zlt := H.zlt, fr := H.fr, arg := H.arg, len := ?_, def_ := by rw [e]; exact H.def_, slot := ?_ }
  · intro id c hc; rw [← h.2.2] at hc; rw [e]; exact H.ck id c hc
  · intro i j c d p q b h1 h2; rw [← h.2.2] at h1 h2; exact H.dj i j c d p q b h1 h2
  · intro b; rw [e]; exact H.own b
  · rw [← h.1]; exact H.len
  · intro i v hi; rw [← h.1] at hi; rw [e]; exact H.slot i v hi

def GuardR (ops : Array Oper) (o : Oper) (io : Io) : Prop := (o.guard = none ∧ io.g = none) ∨ ∃ j want p g, o.guard = some (j, want) ∧ ops[j]? = some p ∧ p.dst = some g ∧ io.g = some (g, want)
theorem gstep {ops : Array Oper} {i : Nat} {io : Io} (hi : ops[i]? = some o) (hsnd : Snd P C Γ o io.op) (hdst : io.dst = o.dst) (hg : GuardR ops o io) {fresh : Nat} {E : EffG} {K : Act → World → Prop} (h : Sat C PL s Fr a w) (hfr : ∀ i, fresh ≤ i → i < fresh + 8 → Fr i) (hk : C.k ≤ fresh)
    (hE : stepG Γ io fresh s = some E) (hob : ∀ p ∈ E.ob, p) (next : ∀ x PL' a' w', E.P x → Sat C PL' (s.put io.dst (E.v x) (E.u x)) (fun i => Fr i ∧ ¬ (fresh ≤ i ∧ i < fresh + 8)) a' w' → K a' w') : wpOp P ops Q i K a w := by
  have hw : ∀ b, mode io s = some b → Region.wanted o (yielded ops a.tmps) = b := by
    intro b hm
    rcases hg with ⟨h1, h2⟩ | ⟨j, want, p, g, h1, h2, h3, h4⟩
    · unfold mode at hm
      rw [h2] at hm
      injection hm with hm; subst hm
      simp [Region.wanted, h1]
    · unfold mode at hm
      rw [h4] at hm
      simp only [] at hm
      split at hm
      · rename_i c hc
        injection hm with hm; subst hm
        exact wanted_of h1 h2 h3 h hc
      · rename_i hc
        injection hm with hm; subst hm
        exact wanted_undef h1 h2 h3 h hc
      · cases hm
  unfold wpOp
  simp only [hi]
  unfold stepG at hE
  split at hE
  · rename_i hm
    rw [if_pos (hw true hm)]
    cases hst : step Γ io.op s fresh with
    | none => rw [hst] at hE; cases hE
    | some E0 =>
      rw [hst] at hE
      simp only [Option.map_some] at hE
      injection hE with hE; subst hE
      refine .inl (Oper.wp_mono (fun a' w' hp => ?_) (hsnd PL s Fr a w Q fresh E0 h hfr hk hst (by rw [← (toG_rd E0).2.2]; exact hob)))
      revert next
      unfold Eff.post at hp
      unfold Eff.toG
      rw [hdst]
      split at hp
      · rename_i v u hout
        rw [hout]
        obtain ⟨PL', hs⟩ := hp
        intro next
        exact next () PL' a' w' trivial hs
      · rename_i X Pr v u hout
        rw [hout]
        obtain ⟨x, hx, PL', hs⟩ := hp
        intro next
        exact next x PL' a' w' hx hs
  · rename_i hm
    rw [if_neg (by rw [hw false hm]; simp)]
    injection hE with hE; subst hE
    refine next () PL _ _ trivial ?_
    have := h.pure o.dst (some (.tup [])) undef (fun v hv => undef_den hv)
    rw [hdst]
    exact this.fr_mono (fun i hi => hi.1)
  · cases hE

/-- What a look at the text shows. -/
structure DrawS (P : Program) (ops : Array Oper) (ios : List Io) : Prop where
  len : ios.length = ops.size
  c : ∀ (i : Nat) o io, ops[i]? = some o → ios[i]? = some io → cOp P o = some io.op ∧ io.dst = o.dst ∧ GuardR ops o io
  edge : ∀ (i : Nat) o io, ops[i]? = some o → ios[i]? = some io → ∀ e ∈ o.after, Region.binds .any e = true → e.on ∈ io.pre
  lt : ∀ (i : Nat) io, ios[i]? = some io → ∀ p ∈ io.pre, p < i
  clo : ∀ (i : Nat) o io, ops[i]? = some o → ios[i]? = some io → ∀ p ∈ io.pre, ∃ e ∈ o.after, Region.binds .any e = true ∧ (e.on = p ∨ ∃ io', ios[e.on]? = some io' ∧ p ∈ io'.pre)
  ap : ∀ (i j : Nat) a io, j < i → ios[j]? = some a → ios[i]? = some io → j ∈ io.pre ∨ apartIO a io = true

def FrL (f0 : Nat) (listed : Array Bool) (id : Nat) : Prop := f0 ≤ id ∧ ∀ j, listed.getD j false = true → ¬ (f0 + 8 * j ≤ id ∧ id < f0 + 8 * j + 8)

theorem getD_lt {listed : Array Bool} {j : Nat} (h : j < listed.size) (d : Bool) : listed.getD j d = listed[j] := by simp [Array.getD, h]
theorem any_sound (T : Tab P Γ) {ops : Array Oper} {ios : List Io} (D : DrawS P ops ios) {f0 nx : Nat} (hk : C.k ≤ f0) : ∀ (fuel : Nat) (listed : Array Bool) (L : List (Nat × Io)) (s : St) (PL : Nat → Option Pl) (a : Act) (w : World) (K : St → Prop),
    listed.size = ops.size → (∀ j io, (j, io) ∈ L ↔ ios[j]? = some io ∧ listed.getD j true = false) → L.Pairwise (fun x y => x.1 < y.1) → L.length = fuel →
    (∀ (d : Nat) io, ios[d]? = some io → listed.getD d false = true → ∀ p ∈ io.pre, listed.getD p false = true) → Sat C PL s (FrL f0 listed) a w → runL Γ f0 L [] s K → s.nx = nx →
    (∀ s PL a w, K s → s.nx = nx → Sat C PL s (fun i => f0 + 8 * ops.size ≤ i) a w → Q .normal a w) → wpAny P .any ops Q fuel listed a w
  | 0, listed, L, s, PL, a, w, K, hsz, hL, hp, hn, hd, hS, hr, hnx, hQ => by
    have : L = [] := List.length_eq_zero_iff.1 hn
    subst this
    refine ⟨?_, ?_⟩
    · rw [List.eq_nil_iff_forall_not_mem]
      intro j hj
      rw [mem_ready] at hj
      obtain ⟨h0, o, ho, _⟩ := hj
      have hjl : j < ios.length := by rw [D.len]; exact (Array.getElem?_eq_some_iff.1 ho).1
      have := (hL j ios[j]).2 ⟨List.getElem?_eq_getElem hjl, h0⟩
      simp at this
    · refine hQ s PL a w hr hnx (hS.fr_mono fun id hid => ⟨by omega, fun j hj => ?_⟩)
      have : j < listed.size := by
        rcases Nat.lt_or_ge j listed.size with h | h
        · exact h
        · simp [Array.getD, Nat.not_lt.2 h] at hj
      omega
  | fuel + 1, listed, L, s, PL, a, w, K, hsz, hL, hp, hn, hd, hS, hr, hnx, hQ => by
    have listedOf : ∀ j, j < ops.size → (∀ io, (j, io) ∉ L) → listed.getD j false = true := by
      intro j hj hno
      have hjl : j < ios.length := by rw [D.len]; exact hj
      have h1 : ¬ listed.getD j true = false := fun h => hno ios[j] ((hL j ios[j]).2 ⟨List.getElem?_eq_getElem hjl, h⟩)
      rw [getD_lt (by omega)] at h1 ⊢
      simpa using h1
    refine ⟨?_, ?_⟩
    · intro hnil
      exfalso
      cases L with
      | nil => simp at hn
      | cons q L =>
        obtain ⟨j, io⟩ := q
        obtain ⟨h1, h2⟩ := (hL j io).1 (List.mem_cons_self ..)
        have hjl : j < ops.size := by rw [← D.len]; exact (List.getElem?_eq_some_iff.1 h1).1
        have hmem : j ∈ Region.ready .any ops listed := by
          rw [mem_ready]
          refine ⟨h2, ops[j], Array.getElem?_eq_getElem hjl, fun e he hb => ?_⟩
          have hpre := D.edge j _ io (Array.getElem?_eq_getElem hjl) h1 e he hb
          have hlt := D.lt j io h1 _ hpre
          refine listedOf _ (by omega) fun io' hm => ?_
          rcases List.mem_cons.1 hm with e1 | hm
          · injection e1 with e1 _; omega
          · have := (List.pairwise_cons.1 hp).1 _ hm
            simp only [] at this
            omega
        rw [hnil] at hmem
        simp at hmem
    · intro i hi
      rw [mem_ready] at hi
      obtain ⟨h0, o, ho, hedge⟩ := hi
      have his : i < ops.size := (Array.getElem?_eq_some_iff.1 ho).1
      have hil : i < ios.length := by rw [D.len]; exact his
      have hio : ios[i]? = some ios[i] := List.getElem?_eq_getElem hil
      generalize ios[i] = io at hio
      have hpl : ∀ p ∈ io.pre, listed.getD p false = true := by
        intro p hp
        obtain ⟨e, he, hb, hor⟩ := D.clo i o io ho hio p hp
        have hl := hedge e he hb
        rcases hor with rfl | ⟨io', h1, h2⟩
        · exact hl
        · exact hd _ io' h1 hl p h2
      obtain ⟨L1, L2, rfl⟩ := List.append_of_mem ((hL i io).2 ⟨hio, h0⟩)
      have hp' := List.pairwise_append.1 hp
      have h1lt : ∀ q ∈ L1, q.1 < i := fun q hq => hp'.2.2 q hq (i, io) (List.mem_cons_self ..)
      have h2gt : ∀ q ∈ L2, i < q.1 := fun q hq => (List.pairwise_cons.1 hp'.2.1).1 q hq
      have hunl : ∀ q ∈ L1, q.1 ∉ io.pre ∧ apartIO q.2 io = true := by
        rintro ⟨j, b⟩ hq
        obtain ⟨g1, g2⟩ := (hL j b).1 (List.mem_append_left _ hq)
        have hnp : j ∉ io.pre := fun hx => by
          have hx := hpl j hx
          have hjs : j < listed.size := by rw [hsz, ← D.len]; exact (List.getElem?_eq_some_iff.1 g1).1
          rw [getD_lt hjs] at hx g2
          rw [hx] at g2
          cases g2
        exact ⟨hnp, (D.ap i j b io (h1lt _ hq) g1 hio).resolve_left hnp⟩
      obtain ⟨E, e1, e2, e3, e4, e5⟩ := pull L1 [] s K hunl hr
      obtain ⟨c1, c2, c3⟩ := D.c i o io ho hio
      refine gstep ho (cOp_snd T c1) c2 c3 hS ?_ (by omega) e1 e4 ?_
      · intro id g1 g2
        refine ⟨by omega, fun j hj => ?_⟩
        have hne : j ≠ i := fun hx => by
          subst hx
          rw [getD_lt (by omega)] at hj h0
          rw [hj] at h0
          cases h0
        omega
      · intro x PL' a' w' hx hS'
        have hset : ∀ j, (listed.setIfInBounds i true).getD j false = true ↔ listed.getD j false = true ∨ j = i := by
          intro j
          constructor
          · intro h
            by_cases hj : i = j
            · exact .inr hj.symm
            · rw [getD_set_ne false hj] at h; exact .inl h
          · rintro (h | rfl)
            · exact getD_set_true h
            · have : j < listed.size := by omega
              simp [this]
        refine any_sound T D hk fuel _ (L1 ++ L2) _ PL' a' w' (Kal K) (by simpa using hsz) ?_ ?_ ?_ ?_ ?_ (e5 x hx) hnx ?_
        · intro j b
          by_cases hj : i = j
          · subst hj
            constructor
            · intro hm
              exfalso
              rcases List.mem_append.1 hm with hm | hm
              · exact Nat.lt_irrefl _ (h1lt _ hm)
              · exact Nat.lt_irrefl _ (h2gt _ hm)
            · rintro ⟨_, h⟩
              have : i < listed.size := by omega
              simp [this] at h
          · rw [getD_set_ne true hj, ← hL j b]
            simp only [List.mem_append, List.mem_cons, Prod.mk.injEq]
            constructor
            · rintro (h | h)
              · exact .inl h
              · exact .inr (.inr h)
            · rintro (h | ⟨h, _⟩ | h)
              · exact .inl h
              · exact absurd h.symm hj
              · exact .inr h
        · exact hp.sublist (List.Sublist.append (List.Sublist.refl _) (List.sublist_cons_self _ _))
        · simp only [List.length_append, List.length_cons] at hn ⊢; omega
        · intro d io' g1 g2 p hp
          rw [hset]
          rcases (hset d).1 g2 with g2 | rfl
          · exact .inl (hd d io' g1 g2 p hp)
          · rw [hio] at g1
            injection g1 with g1; subst g1
            exact .inl (hpl p hp)
        · refine hS'.fr_mono fun id hid => ⟨⟨hid.1, fun j hj => hid.2 j ((hset j).2 (.inl hj))⟩, hid.2 i ((hset i).2 (.inr rfl))⟩
        · rintro s1 PL1 a1 w1 ⟨s0, k1, k2⟩ hn1 hS1
          exact hQ s0 PL1 a1 w1 k1 (k2.2.1.trans hn1) (hS1.alike k2.symm)

theorem cOps_get {all : Array Oper} : ∀ (os : List (Oper × List Nat)) (ios : List Io), cOps P all true os = some ios → ∀ (i : Nat) o io, (os.map (·.1))[i]? = some o → ios[i]? = some io → cOp P o = some io.op ∧ io.dst = o.dst ∧ GuardR all o io
  | [], ios, h, i, o, io, ho, hi => by simp at ho
  | (o0, pre) :: os, ios, h, i, o, io, ho, hi => by
    obtain ⟨x, g, ios', rfl, hx, hl, hg⟩ := cOps_cons h
    cases i with
    | zero =>
      simp at ho hi
      subst ho; subst hi
      exact ⟨hx, rfl, hg⟩
    | succ i => exact cOps_get os ios' hl i o io (by simpa using ho) (by simpa using hi)
theorem drawChk_get : ∀ (os : List Oper) (ios all : List Io) (j : Nat), drawChk all os ios j = true → os.length = ios.length ∧ ∀ (i : Nat) o io, os[i]? = some o → ios[i]? = some io → preOk (all.map (·.pre)) (edgesOf o) io.pre (j + i) = true ∧ apartFrom io (all.take (j + i)) 0 = true
  | [], ios, all, j, h => by
    cases ios with
    | nil => exact ⟨rfl, fun i o io ho _ => by simp at ho⟩
    | cons _ _ => simp [drawChk] at h
  | o0 :: os, ios, all, j, h => by
    cases ios with
    | nil => simp [drawChk] at h
    | cons io0 ios =>
      simp only [drawChk, Bool.and_eq_true] at h
      obtain ⟨⟨h1, h2⟩, h3⟩ := h
      obtain ⟨h4, h5⟩ := drawChk_get os ios all (j + 1) h3
      refine ⟨by simp [h4], fun i o io ho hi => ?_⟩
      cases i with
      | zero =>
        simp at ho hi
        subst ho; subst hi
        exact ⟨h1, h2⟩
      | succ i =>
        have := h5 i o io (by simpa using ho) (by simpa using hi)
        have e : j + 1 + i = j + (i + 1) := by omega
        rwa [e] at this
theorem apartFrom_get {io : Io} : ∀ (l : List Io) (k : Nat), apartFrom io l k = true → ∀ (i : Nat) a, l[i]? = some a → (k + i) ∈ io.pre ∨ apartIO a io = true
  | [], k, h, i, a, hi => by simp at hi
  | b :: l, k, h, i, a, hi => by
    simp only [apartFrom, Bool.and_eq_true, Bool.or_eq_true] at h
    obtain ⟨h1, h2⟩ := h
    cases i with
    | zero =>
      simp at hi
      subst hi
      exact h1.imp (fun h => (nmem_iff _ _).1 h) id
    | succ i =>
      have := apartFrom_get l (k + 1) h2 i a (by simpa using hi)
      have e : k + 1 + i = k + (i + 1) := by omega
      rwa [e] at this
theorem edges_mem {o : Oper} {p : Nat} : p ∈ edgesOf o ↔ ∃ e ∈ o.after, Region.binds .any e = true ∧ e.on = p := by
  unfold edgesOf
  rw [List.mem_filterMap]
  constructor
  · rintro ⟨e, he, h⟩
    split at h
    · rename_i hb
      injection h with h
      exact ⟨e, by simpa using he, hb, h⟩
    · cases h
  · rintro ⟨e, he, hb, h⟩
    exact ⟨e, by simpa using he, by rw [if_pos hb, h]⟩
theorem drawS_of {ops : Array Oper} {ios : List Io} (hc : cOps P ops true (ops.toList.zip (ancsL ops.toList [])) = some ios) (hd : drawChk ios ops.toList ios 0 = true) : DrawS P ops ios := by
  have hmap : (ops.toList.zip (ancsL ops.toList [])).map (·.1) = ops.toList := by
    rw [List.map_fst_zip]
    rw [ancsL_len]; simp
  obtain ⟨h1, h2⟩ := drawChk_get ops.toList ios ios 0 hd
  have hlen : ios.length = ops.size := by rw [← h1]; simp
  have hp : ∀ (i : Nat) o io, ops[i]? = some o → ios[i]? = some io → preOk (ios.map (·.pre)) (edgesOf o) io.pre i = true ∧ apartFrom io (ios.take i) 0 = true := by
    intro i o io ho hi
    have := h2 i o io (by simpa using ho) hi
    simpa using this
  have hop : ∀ (i : Nat) io, ios[i]? = some io → ∃ o, ops[i]? = some o := fun i io hi => by
    have := (List.getElem?_eq_some_iff.1 hi).1
    exact ⟨ops[i]'(by omega), Array.getElem?_eq_getElem (by omega)⟩
  refine ⟨hlen, ?_, ?_, ?_, ?_, ?_⟩
  · intro i o io ho hi
    exact cOps_get _ ios hc i o io (by rw [hmap]; simpa using ho) hi
  · intro i o io ho hi e he hb
    have := (hp i o io ho hi).1
    simp only [preOk, Bool.and_eq_true, List.all_eq_true] at this
    exact (nmem_iff _ _).1 (this.1 e.on (edges_mem.2 ⟨e, he, hb, rfl⟩))
  · intro i io hi p hpp
    obtain ⟨o, ho⟩ := hop i io hi
    have := (hp i o io ho hi).1
    simp only [preOk, Bool.and_eq_true, List.all_eq_true] at this
    have := (this.2 p hpp).1
    have := Nat.le_of_ble_eq_true this
    omega
  · intro i o io ho hi p hpp
    have := (hp i o io ho hi).1
    simp only [preOk, Bool.and_eq_true, List.all_eq_true, Bool.or_eq_true, List.any_eq_true] at this
    rcases (this.2 p hpp).2 with h | ⟨d, hdm, h⟩
    · obtain ⟨e, he, hb, h⟩ := edges_mem.1 ((nmem_iff _ _).1 h)
      exact ⟨e, he, hb, .inl h⟩
    · obtain ⟨e, he, hb, rfl⟩ := edges_mem.1 hdm
      refine ⟨e, he, hb, .inr ?_⟩
      have h := (nmem_iff _ _).1 h
      cases hq : ios[e.on]? with
      | none => simp [hq] at h
      | some io' => exact ⟨io', rfl, by simpa [hq] using h⟩
  · intro i j b io hj hb hi
    obtain ⟨o, ho⟩ := hop i io hi
    have := apartFrom_get _ 0 (hp i o io ho hi).2 j b (by rw [List.getElem?_take_of_lt hj]; exact hb)
    simpa using this

theorem enumL_mem : ∀ (ios : List Io) (k j : Nat) (io : Io), (j, io) ∈ enumL k ios ↔ k ≤ j ∧ ios[j - k]? = some io
  | [], k, j, io => by simp [enumL]
  | b :: l, k, j, io => by
    simp only [enumL, List.mem_cons, Prod.mk.injEq, enumL_mem l (k + 1) j io]
    constructor
    · rintro (⟨rfl, rfl⟩ | ⟨h1, h2⟩)
      · simp
      · have : j - k = (j - (k + 1)) + 1 := by omega
        rw [this, List.getElem?_cons_succ]
        exact ⟨by omega, h2⟩
    · rintro ⟨h1, h2⟩
      by_cases e : j = k
      · subst e
        simp at h2
        exact .inl ⟨rfl, h2.symm⟩
      · have : j - k = (j - (k + 1)) + 1 := by omega
        rw [this, List.getElem?_cons_succ] at h2
        exact .inr ⟨by omega, h2⟩
theorem enumL_pw : ∀ (ios : List Io) (k : Nat), (enumL k ios).Pairwise (fun x y => x.1 < y.1)
  | [], k => by simp [enumL]
  | b :: l, k => by
    simp only [enumL, List.pairwise_cons]
    refine ⟨fun q hq => ?_, enumL_pw l (k + 1)⟩
    obtain ⟨j, io⟩ := q
    have := ((enumL_mem l (k + 1) j io).1 hq).1
    simp only []
    omega
theorem enumL_len : ∀ (ios : List Io) (k : Nat), (enumL k ios).length = ios.length
  | [], k => rfl
  | b :: l, k => by simp [enumL, enumL_len l]

theorem drew_sat (h : Sat C PL s Fr a w) : Sat C PL s Fr a { w with drawn := w.drawn + 1 } := by
  have hD : ∀ {Av v x}, Den PL w Av v x → Den PL { w with drawn := w.drawn + 1 } Av v x := fun h => h.mono (fun _ _ h => h) (Nat.le_refl _) (fun _ _ _ => rfl) (fun _ _ h => h)
  exact { ck := fun id c hc => (h.ck id c hc).mono (fun _ _ h => h) (Nat.le_refl _) (fun _ _ _ => rfl) (fun _ _ h => h) (fun _ _ _ _ => rfl), dj := h.dj, own := h.own, os := h.os, tape := h.tape, output := h.output, size := h.size, old := h.old, zlt := h.zlt, fr := h.fr, arg := h.arg, len := h.len, def_ := h.def_, slot := fun i v hi => hD (h.slot i v hi) }

theorem drawOK (T : Tab P Γ) (hm : P.follows .mixedOrders = true) : DrawOK P C Γ := by
  intro id ops ios s K PL a w Q hc hv h hQ
  simp only [comp] at hc
  split at hc
  · rename_i ios' hios
    split at hc
    · rename_i hd
      injection hc with hc; injection hc with _ hc; subst hc
      have D := drawS_of hios hd
      refine wp_region_any hm ?_
      have hS : Sat C PL (⟨s.fr, s.hp, s.nx + 8 * ios'.length⟩ : St) (FrL s.nx (Array.replicate ops.size false)) a { w with drawn := w.drawn + 1 } := by
        have h1 : Sat C PL (⟨s.fr, s.hp, s.nx + 8 * ios'.length⟩ : St) (fun i => s.nx ≤ i) a w := { h.1.toHSat with len := h.1.len, def_ := h.1.def_, slot := h.1.slot }
        exact (drew_sat h1).fr_mono fun i hi => hi.1
      refine any_sound (nx := s.nx + 8 * ios'.length) T D h.2 ops.size _ (enumL 0 ios') _ PL a _ _ (by simp) ?_ (enumL_pw _ _) (by rw [enumL_len, D.len]) ?_ hS (runL_of ios' 0 [] [] _ (fun _ _ _ h => h) hv) rfl ?_
      · intro j io
        rw [enumL_mem]
        simp only [Nat.zero_le, true_and, Nat.sub_zero]
        constructor
        · intro hj
          have : j < ops.size := by rw [← D.len]; exact (List.getElem?_eq_some_iff.1 hj).1
          exact ⟨hj, by simp [this]⟩
        · exact fun h => h.1
      · intro d io hd hl
        exfalso
        by_cases hx : d < ops.size <;> simp [hx] at hl
      · intro s' PL' a' w' hK hn hS'
        refine hQ .nxt s' PL' a' w' hK ⟨?_, ?_⟩
        · rw [hn, D.len]; exact hS'
        · rw [hn]; have := h.2; omega
    · cases hc
  · cases hc
end
end Go.Proofs.YtnkfginlmdenjaaDoor
end
section
/-
  A walk that reckons: tables of functions; the words that a walk is told in.
-/
set_option linter.unusedVariables false
set_option linter.unusedSimpArgs false
namespace Go.Proofs.YtnkfginlmdenjaaDoor
open Go.RowKit

/-- A table of functions. -/
noncomputable def look : List (Nat × Con) → Nat → Option Con
  | [], _ => none
  | (f, c) :: l, g => match Nat.beq g f with | true => some c | false => look l g
theorem Tab.nil (P : Program) : Tab P (look []) := ⟨fun f con h => by simp [look] at h, fun f con h => by simp [look] at h⟩
theorem Tab.cons {P : Program} {l : List (Nat × Con)} {f : Nat} {con : Con} (T : Tab P (look l)) (h : FnOK P f con) {fn : Func} (hf : P.funcs[f]? = some fn) (h1 : (fn.name != "runtime.NumGoroutine") = true) (h2 : fn.body.isSome = true) : Tab P (look ((f, con) :: l)) := by
  have key : ∀ g c, look ((f, con) :: l) g = some c → (g = f ∧ c = con) ∨ look l g = some c := by
    intro g c hg
    unfold look at hg
    cases hb : Nat.beq g f with
    | true => rw [hb] at hg; simp only [] at hg; injection hg with hg; exact .inl ⟨(nbeq g f).1 hb, hg.symm⟩
    | false => rw [hb] at hg; exact .inr hg
  refine ⟨fun g c hg => ?_, fun g c hg => ?_⟩
  · rcases key g c hg with ⟨rfl, rfl⟩ | hg
    · exact h
    · exact T.ok g c hg
  · rcases key g c hg with ⟨rfl, rfl⟩ | hg
    · exact ⟨fn, hf, h1, h2⟩
    · exact T.fn g c hg
theorem FnOK.of {P : Program} {l : List (Nat × Con)} (T : Tab P (look l)) (hm : P.follows .mixedOrders = true) {f : FuncId} {fn : Func} {ic : IC} {rv : List RV} {n : Nat} {con : Con} (hf : P.funcs[f]? = some fn) (hc : compF P fn = some (ic, rv, n))
    (h : FnVC P (look l) ic rv n con) : FnOK P f con := FnOK.of_comp T (fun _ => drawOK T hm) hf hc h

/-! Words, as they are read. -/
theorem ieq_t {a b : Int} : ieq a b = true ↔ a = b := by simp [ieq]
theorem ieq_f {a b : Int} : ieq a b = false ↔ a ≠ b := by simp [ieq]
theorem ilt_t {a b : Int} : ilt a b = true ↔ a < b := by simp [ilt]
theorem ilt_f {a b : Int} : ilt a b = false ↔ b ≤ a := by simp [ilt]
theorem ile_t {a b : Int} : ile a b = true ↔ a ≤ b := by simp [ile]
theorem ile_f {a b : Int} : ile a b = false ↔ b < a := by simp [ile]
/-- Back under lock, as a goal is read between two reckonings. -/
theorem relock.{u} {α : Sort u} {a : α} (h : Nonempty {b // b = a}) : (Classical.choice h).1 = lock a := by rw [choice_lk, lock_eq]
theorem bnot_t {b : Bool} : bnot b = true ↔ b = false := by cases b <;> decide
theorem bnot_f {b : Bool} : bnot b = false ↔ b = true := by cases b <;> decide
theorem obl' {p : Unit → Prop} : Obl p = p () := rfl
theorem wrapU64 (x : Int) : IntKind.u64.wrap x = x % 18446744073709551616 := by
  simp [IntKind.wrap, IntKind.signed, IntKind.bits]
theorem wrapI64 {x : Int} (h1 : -9223372036854775808 ≤ x) (h2 : x ≤ 9223372036854775807) : IntKind.i64.wrap x = x := by
  simp only [IntKind.wrap, IntKind.signed, IntKind.bits]
  simp
  omega
/-- A frame of which but some slots are told. -/
def slotOf : List (Nat × SV) → Nat → Option SV
  | [], _ => none
  | (j, v) :: l, i => match Nat.beq j i with | true => some v | false => slotOf l i
def mkFr (l : List (Nat × SV)) : Nat → Nat → List (Option SV)
  | 0, _ => []
  | n + 1, i => slotOf l i :: mkFr l n (i + 1)
end Go.Proofs.YtnkfginlmdenjaaDoor
end
section
/-
  Loops as plain functions: what a round does, done over and over till it ends.
-/
set_option linter.unusedVariables false
namespace Go.Proofs.YtnkfginlmdenjaaDoor

/-- So many rounds at most. -/
def stepsN {X T : Type} (B : X → Option (X ⊕ T)) : Nat → X → Option T
  | 0, _ => none
  | n + 1, x => match B x with
    | none => none
    | some (.inl y) => stepsN B n y
    | some (.inr t) => some t
theorem stepsN_mono {X T : Type} {B : X → Option (X ⊕ T)} : ∀ (n m : Nat) (x : X) (t : T), n ≤ m → stepsN B n x = some t → stepsN B m x = some t
  | 0, _, x, t, _, h => by cases h
  | n + 1, 0, x, t, hm, h => by omega
  | n + 1, m + 1, x, t, hm, h => by
    unfold stepsN at h ⊢
    cases hB : B x with
    | none => rw [hB] at h; cases h
    | some b =>
      rw [hB] at h
      cases b with
      | inl y => exact stepsN_mono n m y t (by omega) h
      | inr u => exact h
/-- Rounds till the end, if there is one. -/
noncomputable def iter {X T : Type} (B : X → Option (X ⊕ T)) (x : X) : Option T :=
  open Classical in if h : ∃ t, ∃ n, stepsN B n x = some t then some (Classical.choose h) else none
theorem iter_some {X T : Type} {B : X → Option (X ⊕ T)} {x : X} {t : T} : iter B x = some t ↔ ∃ n, stepsN B n x = some t := by
  unfold iter
  constructor
  · intro h
    split at h
    · rename_i hx
      injection h with h
      subst h
      exact Classical.choose_spec hx
    · cases h
  · rintro ⟨n, hn⟩
    have hx : ∃ t, ∃ n, stepsN B n x = some t := ⟨t, n, hn⟩
    rw [dif_pos hx]
    obtain ⟨m, hm⟩ := Classical.choose_spec hx
    have h1 := stepsN_mono n (max n m) x t (by omega) hn
    have h2 := stepsN_mono m (max n m) x _ (by omega) hm
    rw [h1] at h2
    injection h2 with h2
    rw [← h2]
theorem iter_of {X T : Type} {B : X → Option (X ⊕ T)} (n : Nat) {x : X} {t : T} (h : stepsN B n x = some t) : iter B x = some t := iter_some.2 ⟨n, h⟩
/-- A round, and the others. -/
theorem iter_eq {X T : Type} (B : X → Option (X ⊕ T)) (x : X) : iter B x = match B x with
    | none => none
    | some (.inl y) => iter B y
    | some (.inr t) => some t := by
  cases hB : B x with
  | none =>
    cases hi : iter B x with
    | none => rfl
    | some t =>
      obtain ⟨n, hn⟩ := iter_some.1 hi
      cases n with
      | zero => cases hn
      | succ n => simp only [stepsN, hB] at hn; cases hn
  | some b =>
    cases b with
    | inr t => exact iter_of 1 (by simp only [stepsN, hB])
    | inl y =>
      simp only []
      cases hi : iter B y with
      | none =>
        cases hx : iter B x with
        | none => rfl
        | some t =>
          obtain ⟨n, hn⟩ := iter_some.1 hx
          cases n with
          | zero => cases hn
          | succ n =>
            simp only [stepsN, hB] at hn
            rw [iter_of n hn] at hi
            cases hi
      | some t =>
        obtain ⟨n, hn⟩ := iter_some.1 hi
        exact iter_of (n + 1) (by simp only [stepsN, hB]; exact hn)
theorem iter_inl {X T : Type} {B : X → Option (X ⊕ T)} {x y : X} (h : B x = some (.inl y)) : iter B x = iter B y := by rw [iter_eq, h]
theorem iter_inr {X T : Type} {B : X → Option (X ⊕ T)} {x : X} {t : T} (h : B x = some (.inr t)) : iter B x = some t := by rw [iter_eq, h]
/-- A loop with a measure: what each round does, if all others do it. -/
theorem iter_ind {X T : Type} {B : X → Option (X ⊕ T)} (I : X → Prop) (μ : X → Nat) (Q : X → Option T → Prop)
    (h : ∀ x, I x → (∀ y, I y → μ y < μ x → Q y (iter B y)) → Q x (iter B x)) : ∀ x, I x → Q x (iter B x) := by
  have key : ∀ n x, μ x < n → I x → Q x (iter B x) := by
    intro n
    induction n with
    | zero => intro x hx; omega
    | succ n ih => intro x hx hI; exact h x hI fun y hy hlt => ih y (by omega) hy
  exact fun x hI => key (μ x + 1) x (by omega) hI
/-- A loop that keeps its word, and ends. -/
theorem iter_inv {X T : Type} {B : X → Option (X ⊕ T)} (I : X → Prop) (μ : X → Nat) (Q : T → Prop)
    (h : ∀ x, I x → (∃ y, B x = some (.inl y) ∧ I y ∧ μ y < μ x) ∨ ∃ t, B x = some (.inr t) ∧ Q t) : ∀ x, I x → ∃ t, iter B x = some t ∧ Q t := by
  refine iter_ind I μ (fun x o => ∃ t, o = some t ∧ Q t) fun x hI ih => ?_
  rcases h x hI with ⟨y, h1, h2, h3⟩ | ⟨t, h1, h2⟩
  · rw [iter_inl h1]; exact ih y h2 h3
  · exact ⟨t, iter_inr h1, h2⟩

theorem guard_inv {α : Type} {p : Prop} [Decidable p] {a : Option α} {r : α} (h : (if p then a else none) = some r) : p ∧ a = some r := by
  by_cases hp : p
  · rw [if_pos hp] at h; exact ⟨hp, h⟩
  · rw [if_neg hp] at h; cases h
theorem map_inv {α β : Type} {f : α → β} {o : Option α} {r : β} (h : o.map f = some r) : ∃ t, o = some t ∧ f t = r := by
  cases o with
  | none => cases h
  | some t => exact ⟨t, rfl, Option.some.inj h⟩
end Go.Proofs.YtnkfginlmdenjaaDoor
end
section
/-
  A walk that reckons: ranges over functions.
-/
set_option linter.unusedVariables false
set_option linter.unusedSimpArgs false
namespace Go.Proofs.YtnkfginlmdenjaaDoor
open Go.RowKit

/-! Code in a frame that may be a round's. -/
abbrev WF (r : Option Nat) : Fence := { Fence.wide with round := r }
theorem rows_in {r : Option Nat} {n : Nat} {P : Program} {row : String} {args : Array Value} {w : World} {R : Value → World → Prop} (h : Rows P row args w R) : RowsIn (WF r) n P row args w R :=
  fun c cs _ => let ⟨v, w', rr, s⟩ := h c cs; ⟨v, w', rr, stepsIn_wide.2 s⟩
theorem wp_in {r : Option Nat} {n : Nat} {P : Program} {o : Oper} {a : Act} {w : World} {K : Act → World → Prop} {Q : Exit → Act → World → Prop} (hd : ∀ c, o.op ≠ .defer c) (h : o.wp P a w K Q) : o.wpIn (WF r) n P a w K Q := by
  refine ⟨fun _ _ => trivial, ?_⟩
  rw [Oper.semAt_plain (WF r) _ _ hd]
  unfold Oper.wp at h
  revert h
  generalize (execOp a.eval o).run P w = res
  intro h
  cases res with
  | ok nx w' =>
    cases nx with
    | value v => exact h
    | skip => exact h
    | defer d => exact h
    | enter f args => exact ⟨(fun hx => by cases hx), callsIn_wide.2 h⟩
    | row row args => exact ⟨(fun hx => by cases hx), rows_in h⟩
    | _ => exact h.elim
  | halt x w' =>
    cases x with
    | panic v => exact h
    | _ => exact h.elim
theorem cOp_nodefer {P : Program} {o : Oper} {x : IOp} (h : cOp P o = some x) : ∀ c, o.op ≠ .defer c := by
  intro c e
  unfold cOp at h
  rw [e] at h
  cases h

section
variable {P : Program} {C : Ctx} {PL : Nat → Option Pl} {s : St} {Fr : Nat → Prop} {a : Act} {w : World} {o : Oper} {Q : Exit → Act → World → Prop} {Γ : FuncId → Option Con} {r : Option Nat} {ex : Io → Nat → St → (St → Prop) → Prop}

/-- Operations are carried out as one says. -/
def ExOK (P : Program) (C : Ctx) (r : Option Nat) (ex : Io → Nat → St → (St → Prop) → Prop) : Prop :=
  ∀ (o : Oper) (io : Io) (PL : Nat → Option Pl) (s : St) (Fr : Nat → Prop) (a : Act) (w : World) (fresh : Nat) (K : St → Prop) (Q : Exit → Act → World → Prop), cOp P o = some io.op → io.dst = o.dst → Sat C PL s Fr a w → (∀ i, fresh ≤ i → i < fresh + 8 → Fr i) → C.k ≤ fresh →
    (∀ i, s.nx ≤ i → Fr i) → fresh + 8 ≤ s.nx → ex io fresh s K →
    o.wpIn (WF r) 0 P a w (fun a' w' => ∃ PL' s', K s' ∧ s.nx ≤ s'.nx ∧ s'.fr.length = s.fr.length ∧ Sat C PL' s' (fun i => (Fr i ∧ i < s.nx ∧ ¬ (fresh ≤ i ∧ i < fresh + 8)) ∨ s'.nx ≤ i) a' w') Q
theorem exec_ok (T : Tab P Γ) : ExOK P C r (vcExec Γ) := by
  intro o io PL s Fr a w fresh K Q hx hdst h hfr hk hnx hle hv
  refine wp_in (cOp_nodefer hx) (Oper.wp_mono (fun a' w' hp => ?_) (exec_sound (Q := Q) (cOp_snd T hx) hdst h hfr hk hv))
  obtain ⟨PL', s', h1, h2, h3, h4⟩ := hp
  refine ⟨PL', s', h1, by omega, h3, h4.fr_mono fun i hi => ?_⟩
  rcases hi with hi | hi
  · exact ⟨hi.1, hi.2.2⟩
  · exact ⟨hnx i (by omega), by omega⟩

theorem vxOp_sound (hex : ExOK P C r ex) {ops : Array Oper} {rest : List Oper} {io : Io} (hx : cOp P o = some io.op) (hdst : io.dst = o.dst) (hg : (o.guard = none ∧ io.g = none) ∨ ∃ j want p g, o.guard = some (j, want) ∧ ops[j]? = some p ∧ p.dst = some g ∧ io.g = some (g, want))
    {K : St → Prop} {fresh : Nat} (h : Sat C PL s Fr a w) (hfr : ∀ i, fresh ≤ i → i < fresh + 8 → Fr i) (hk : C.k ≤ fresh) (hnx : ∀ i, s.nx ≤ i → Fr i) (hle : fresh + 8 ≤ s.nx) (hv : vxOp ex io fresh s K)
    (next : ∀ PL' s' a' w', K s' → s.nx ≤ s'.nx → Sat C PL' s' (fun i => (Fr i ∧ i < s.nx ∧ ¬ (fresh ≤ i ∧ i < fresh + 8)) ∨ s'.nx ≤ i) a' w' → wpListIn (WF r) 0 P ops Q rest a' w') : wpListIn (WF r) 0 P ops Q (o :: rest) a w := by
  unfold wpListIn
  have skip : ∀ s', Sat C PL s' Fr a w → s'.nx = s.nx → K (s'.put io.dst (some (.tup [])) []) → (∀ f, o.about P w a.eval = some f → (WF r).fn f) ∧ wpListIn (WF r) 0 P ops Q rest (a.put o.dst undef) w := by
    intro s' hs hn hK
    refine ⟨fun _ _ => trivial, next PL _ _ _ hK (by rw [show (s'.put io.dst (some (.tup [])) []).nx = s'.nx from rfl, hn]; exact Nat.le_refl _) ?_⟩
    have := hs.pure o.dst (some (.tup [])) undef (fun v hv => undef_den hv)
    rw [hdst]
    refine this.fr_mono (fun i hi => ?_)
    rcases hi with hi | hi
    · exact hi.1
    · exact hnx i (by rw [← hn]; exact hi)
  have exec : ∀ s', Sat C PL s' Fr a w → s'.nx = s.nx → ex io fresh s' K → o.wpIn (WF r) 0 P a w (wpListIn (WF r) 0 P ops Q rest) Q := by
    intro s' hs hn hE
    refine Oper.wpIn_mono (fun a' w' hp => ?_) (hex o io PL s' Fr a w fresh K Q hx hdst hs hfr hk (by rw [hn]; exact hnx) (by rw [hn]; exact hle) hE)
    obtain ⟨PL', s'', hK, hn', _, hS⟩ := hp
    rw [hn] at hn' hS
    exact next PL' s'' a' w' hK hn' hS
  rcases hg with ⟨h1, h2⟩ | ⟨j, want, p, g, h1, h2, h3, h4⟩
  · rw [if_pos (by simp [Region.wanted, h1])]
    unfold vxOp at hv
    rw [h2] at hv
    exact exec s h rfl hv
  · unfold vxOp at hv
    rw [h4] at hv
    cases want with
    | true =>
      simp only [] at hv
      split at hv
      · rename_i b hb
        rw [wanted_of h1 h2 h3 h hb]
        cases b with
        | true => exact exec _ (sat_lit h hb) rfl hv
        | false => exact skip _ (sat_lit h hb) rfl hv
      · rename_i hb
        rw [wanted_undef h1 h2 h3 h hb]
        exact skip _ h rfl hv
      · exact hv.elim
    | false =>
      simp only [] at hv
      split at hv
      · rename_i b hb
        rw [wanted_of h1 h2 h3 h hb]
        cases b with
        | true => exact skip _ (sat_lit h hb) rfl hv
        | false => exact exec _ (sat_lit h hb) rfl hv
      · rename_i hb
        rw [wanted_undef h1 h2 h3 h hb]
        exact skip _ h rfl hv
      · exact hv.elim
theorem vxOps_sound (hex : ExOK P C r ex) {all : Array Oper} {K : St → Prop} {B : Nat} : ∀ (os : List (Oper × List Nat)) (ios : List Io) (fresh : Nat) (PL : Nat → Option Pl) (s : St) (a : Act) (w : World), cOps P all false os = some ios → Sat C PL s (fun i => (fresh ≤ i ∧ i < B) ∨ s.nx ≤ i) a w → C.k ≤ fresh →
    fresh + 8 * ios.length = B → B ≤ s.nx → vxOps ex ios fresh s K → (∀ PL' s' a' w', K s' → s.nx ≤ s'.nx → Sat C PL' s' (fun i => s'.nx ≤ i) a' w' → Q .normal a' w') → wpListIn (WF r) 0 P all Q (os.map (·.1)) a w
  | [], ios, fresh, PL, s, a, w, hc, h, hk, hB, hle, hv, hQ => by
    simp only [cOps] at hc
    injection hc with hc
    subst hc
    exact hQ PL s a w hv (Nat.le_refl _) (h.fr_mono fun i hi => .inr hi)
  | (o, pre) :: os, ios, fresh, PL, s, a, w, hc, h, hk, hB, hle, hv, hQ => by
    obtain ⟨x, g, ios', rfl, hx, hl, hg⟩ := cOps_cons hc
    simp only [vxOps] at hv
    simp only [List.length_cons] at hB
    refine vxOp_sound hex (io := ⟨o.dst, g, [], x⟩) hx rfl (by
      rcases hg with ⟨h1, h2⟩ | ⟨j, want, p, d, h1, h2, h3, h4⟩
      · exact .inl ⟨h1, h2⟩
      · exact .inr ⟨j, want, p, d, h1, h2, h3, h4⟩) h (fun i h1 h2 => .inl ⟨h1, by omega⟩) hk (fun i hi => .inr hi) (by omega) hv ?_
    intro PL' s' a' w' hK hn hS
    have hS1 : Sat C PL' s' (fun i => (fresh + 8 ≤ i ∧ i < B) ∨ s'.nx ≤ i) a' w' := hS.fr_mono fun i hi => by
      rcases hi with ⟨h1, h2⟩ | hi
      · exact .inl ⟨.inl ⟨by omega, h2⟩, by omega, by omega⟩
      · exact .inr hi
    refine vxOps_sound hex os ios' (fresh + 8) PL' s' a' w' hl hS1 (by omega) (by omega) (by omega) hK ?_
    intro PL2 s2 a2 w2 hK2 hn2 hS2
    exact hQ PL2 s2 a2 w2 hK2 (by omega) hS2
/-- Code, its operations carried out as one says. -/
theorem vx_sound (hex : ExOK P C r ex) {L : IC → St → (Ex → St → Prop) → Prop} (hL : ∀ (c : IC) (s : St) (K : Ex → St → Prop), L c s K → ∀ (code : Code) (PL : Nat → Option Pl) (a : Act) (w : World) (Q : Exit → Act → World → Prop), comp P code = some c → SatN C PL s a w → KQ C K Q → code.wpIn (WF r) 0 P Q a w) :
    ∀ (code : Code) (ic : IC) (s : St) (K : Ex → St → Prop) (PL : Nat → Option Pl) (a : Act) (w : World) (Q : Exit → Act → World → Prop), comp P code = some ic → vx ex L ic s K → SatN C PL s a w → KQ C K Q → code.wpIn (WF r) 0 P Q a w
  | .skip, ic, s, K, PL, a, w, Q, hc, hv, h, hQ => by
    simp only [comp] at hc; injection hc with hc; subst hc
    exact wpIn_skip (hQ .nxt s PL a w hv h)
  | .ret, ic, s, K, PL, a, w, Q, hc, hv, h, hQ => by
    simp only [comp] at hc; injection hc with hc; subst hc
    exact wpIn_ret (hQ .ret s PL a w hv h)
  | .exit id, ic, s, K, PL, a, w, Q, hc, hv, h, hQ => by
    simp only [comp] at hc; injection hc with hc; subst hc
    exact wpIn_exit (hQ (.exit id) s PL a w hv h)
  | .region id ops draw, ic, s, K, PL, a, w, Q, hc, hv, h, hQ => by
    cases draw with
    | true =>
      simp only [comp] at hc
      split at hc
      · split at hc
        · injection hc with hc; subst hc; exact hv.elim
        · injection hc with hc; subst hc; exact hv.elim
      · injection hc with hc; subst hc; exact hv.elim
    | false =>
      simp only [comp] at hc
      cases hcc : cOps P ops false (ops.toList.zip (ancsL ops.toList [])) with
      | none => rw [hcc] at hc; injection hc with hc; subst hc; exact hv.elim
      | some ios =>
      have hios := hcc
      rw [hcc] at hc
      injection hc with hc
      subst hc
      simp only [vx] at hv
      refine wpIn_region_list ?_
      have hmap : (ops.toList.zip (ancsL ops.toList [])).map (·.1) = ops.toList := by
        rw [List.map_fst_zip]
        rw [ancsL_len]; simp
      rw [← hmap]
      have hS : Sat C PL (⟨s.fr, s.hp, s.nx + 8 * ios.length⟩ : St) (fun i => s.nx ≤ i) a w := { h.1.toHSat with len := h.1.len, def_ := h.1.def_, slot := h.1.slot }
      refine vxOps_sound hex (B := s.nx + 8 * ios.length) _ ios s.nx PL _ a w hios (hS.fr_mono fun i hi => ?_) h.2 rfl (Nat.le_refl _) hv ?_
      · rcases hi with hi | hi
        · exact hi.1
        · exact Nat.le_trans (Nat.le_add_right _ _) hi
      · intro PL' s' a' w' hK hn hS'
        refine hQ .nxt s' PL' a' w' hK ⟨hS', ?_⟩
        have := h.2
        have : s.nx + 8 * ios.length ≤ s'.nx := hn
        omega
  | .seq x y, ic, s, K, PL, a, w, Q, hc, hv, h, hQ => by
    simp only [comp, Option.bind_eq_bind, Option.bind_eq_some_iff, Option.pure_def, Option.some.injEq] at hc
    obtain ⟨x', hx, y', hy, rfl⟩ := hc
    simp only [vx] at hv
    refine wpIn_seq (vx_sound hex hL x x' s _ PL a w _ hx hv h ?_)
    intro e s' PL' a' w' hK hS
    cases e with
    | nxt => exact vx_sound hex hL y y' s' K PL' a' w' Q hy hK hS hQ
    | ret => exact hQ .ret s' PL' a' w' hK hS
    | exit id => exact hQ (.exit id) s' PL' a' w' hK hS
  | .cond c x y, ic, s, K, PL, a, w, Q, hc, hv, h, hQ => by
    simp only [comp] at hc
    cases hcc : cX c with
    | none => rw [hcc] at hc; injection hc with hc; subst hc; exact hv.elim
    | some c' =>
    rw [hcc] at hc
    simp only [Option.bind_eq_bind, Option.bind_eq_some_iff, Option.pure_def, Option.some.injEq] at hc
    obtain ⟨x', hx, y', hy, rfl⟩ := hc
    simp only [vx] at hv
    split at hv
    · rename_i b hb
      have d := ev_den h.1 hcc hb
      generalize hq : a.eval c = q at d
      cases d
      refine wpIn_cond hq ?_
      cases b with
      | true => exact vx_sound hex hL x x' s K PL a w Q hx hv h hQ
      | false => exact vx_sound hex hL y y' s K PL a w Q hy hv h hQ
    · exact hv.elim
  | .block id c, ic, s, K, PL, a, w, Q, hc, hv, h, hQ => by
    simp only [comp, Option.map_eq_some_iff] at hc
    obtain ⟨c', hcc, rfl⟩ := hc
    simp only [vx] at hv
    refine wpIn_block (vx_sound hex hL c c' s _ PL a w _ hcc hv h ?_)
    intro e s' PL' a' w' hK hS
    cases e with
    | nxt => exact hQ .nxt s' PL' a' w' hK hS
    | ret => exact hQ .ret s' PL' a' w' hK hS
    | exit j =>
      simp only [] at hK
      simp only [exOf, Exit.inBlock]
      split at hK
      · rename_i hj
        rw [if_pos ((nbeq j id).1 hj)]
        exact hQ .nxt s' PL' a' w' hK hS
      · rename_i hj
        rw [if_neg ((nbeq_false j id).1 hj)]
        exact hQ (.exit j) s' PL' a' w' hK hS
  | .loop c, ic, s, K, PL, a, w, Q, hc, hv, h, hQ => by
    have hc0 := hc
    simp only [comp, Option.map_eq_some_iff] at hc
    obtain ⟨c', hcc, rfl⟩ := hc
    simp only [vx] at hv
    exact hL _ _ _ hv (.loop c) PL a w Q hc0 h hQ
  | .rangeFunc f ps x y, ic, s, K, PL, a, w, Q, hc, hv, h, hQ => by
    simp only [comp] at hc
    split at hc
    · simp only [Option.bind_eq_bind, Option.bind_eq_some_iff, Option.pure_def, Option.some.injEq] at hc
      obtain ⟨a', h1, b', h2, rfl⟩ := hc
      exact hv.elim
    · injection hc with hc; subst hc; exact hv.elim
  | .scope c, ic, s, K, PL, a, w, Q, hc, hv, h, hQ => by simp only [comp] at hc; injection hc with hc; subst hc; exact hv.elim
  | .label l, ic, s, K, PL, a, w, Q, hc, hv, h, hQ => by simp only [comp] at hc; injection hc with hc; subst hc; exact hv.elim
  | .goto l, ic, s, K, PL, a, w, Q, hc, hv, h, hQ => by simp only [comp] at hc; injection hc with hc; subst hc; exact hv.elim
  | .refuse l, ic, s, K, PL, a, w, Q, hc, hv, h, hQ => by simp only [comp] at hc; injection hc with hc; subst hc; exact hv.elim
end
end Go.Proofs.YtnkfginlmdenjaaDoor
end
section
/-
  A walk that reckons: ranges over functions: a round; the range.
-/
set_option linter.unusedVariables false
set_option linter.unusedSimpArgs false
namespace Go.Proofs.YtnkfginlmdenjaaDoor
open Go.RowKit

/-! From one state to a later one. -/
/-- What a run leaves alone: memory that nobody owned (but for one block). -/
structure Lt (l : Option Nat) (Z : Nat → Prop) (PL : Nat → Option Pl) (hp : List (Nat × Ck)) (nx : Nat) (w : World) (PL' : Nat → Option Pl) (hp' : List (Nat × Ck)) (w' : World) : Prop where
  P : ∀ i, i < nx → PL' i = PL i
  os : w'.os = w.os
  tape : w'.tape = w.tape
  output : w'.output = w.output
  size : w.heap.size ≤ w'.heap.size
  same : ∀ b, b < w.heap.size → ¬ Own PL hp b → some b ≠ l → w'.heap[b]? = w.heap[b]?
  own : ∀ b, Own PL' hp' b → ¬ Z b ∧ (Own PL hp b ∨ w.heap.size ≤ b)

theorem Lt.trans {l : Option Nat} {Z : Nat → Prop} {PL PL1 PL2 : Nat → Option Pl} {hp hp1 hp2 : List (Nat × Ck)} {nx nx1 : Nat} {w w1 w2 : World} (h : Lt l Z PL hp nx w PL1 hp1 w1) (k : Lt l Z PL1 hp1 nx1 w1 PL2 hp2 w2) (hn : nx ≤ nx1) : Lt l Z PL hp nx w PL2 hp2 w2 where
  P := fun i hi => (k.P i (by omega)).trans (h.P i hi)
  os := k.os.trans h.os
  tape := k.tape.trans h.tape
  output := k.output.trans h.output
  size := Nat.le_trans h.size k.size
  same := fun b hb ho hl => by
    have hs := h.size
    have : ¬ Own PL1 hp1 b := fun hx => by
      rcases (h.own b hx).2 with h1 | h1
      · exact ho h1
      · omega
    rw [k.same b (by omega) this hl, h.same b hb ho hl]
  own := fun b hb => by
    have hs := h.size
    obtain ⟨h1, h2⟩ := k.own b hb
    refine ⟨h1, ?_⟩
    rcases h2 with h2 | h2
    · exact (h.own b h2).2
    · exact .inr (by omega)
def rbC (C : Ctx) (PL : Nat → Option Pl) (hp : List (Nat × Ck)) (nx : Nat) (w : World) : Ctx := ⟨w, C.Z, Own PL hp, nx, PL, C.n0⟩

section
variable {P : Program} {C : Ctx} {PL PL' : Nat → Option Pl} {hp hp' : List (Nat × Ck)} {Fr Fr' : Nat → Prop} {w w' : World} {nx l D : Nat}
theorem HSat.rb (h : HSat C PL hp Fr w) (hnx : ∀ i, nx ≤ i → Fr i) : HSat (rbC C PL hp nx w) PL hp (fun i => nx ≤ i) w :=
  ⟨h.ck, h.dj, fun b hb => ⟨(h.own b hb).1, .inl hb⟩, rfl, rfl, rfl, Nat.le_refl _, fun _ _ _ => rfl, ⟨fun b hz => Nat.lt_of_lt_of_le (h.zlt.1 b hz) h.size, fun g r hg => h.glob hg⟩, fun i hi => h.fr i (hnx i hi), fun _ _ => rfl⟩
theorem Lt.of_rb (l : Option Nat) (h : HSat (rbC C PL hp nx w) PL' hp' Fr' w') : Lt l C.Z PL hp nx w PL' hp' w' where
  P := fun i hi => h.arg i hi
  os := h.os
  tape := h.tape
  output := h.output
  size := h.size
  same := fun b hb ho _ => h.old b hb ho
  own := fun b hb => h.own b hb
/-- A block that is no cells is turned. -/
theorem HSat.rb_nc (h : HSat C PL hp Fr w) (hnx : ∀ i, nx ≤ i → Fr i) {o0 o : Obj} (hD : w.heap[l]? = some o0) (hc : o0.isCells = false) : HSat (rbC C PL hp nx (w.putObj l o)) PL hp (fun i => nx ≤ i) (w.putObj l o) := by
  have hsz : (w.putObj l o).heap.size = w.heap.size := by simp
  exact ⟨fun id c hg => (h.ck id c hg).nc hD hc, h.dj, fun b hb => ⟨(h.own b hb).1, .inl hb⟩, rfl, rfl, rfl, Nat.le_refl _, fun _ _ _ => rfl, ⟨fun b hz => by show b < (w.putObj l o).heap.size; rw [hsz]; exact Nat.lt_of_lt_of_le (h.zlt.1 b hz) h.size, fun g r hg => (h.glob hg).nc hD hc⟩, fun i hi => h.fr i (hnx i hi), fun _ _ => rfl⟩
/-- The state that a run left, told from where its caller began. -/
theorem HSat.un (h : HSat C PL hp Fr w) (hkn : C.k ≤ nx) {l : Option Nat} (t : Lt l C.Z PL hp nx w PL' hp' w') (ck : ∀ id c, hget hp' id = some c → CkOk PL' w' (Avo C PL' hp') id c)
    (dj : ∀ i j c d p q b, hget hp' i = some c → hget hp' j = some d → PL' i = some p → PL' j = some q → p.a = some ⟨b, 0, none⟩ → q.a = some ⟨b, 0, none⟩ → i = j) (fr : ∀ id, Fr' id → PL' id = none)
    (hl : ∀ b, l = some b → b < C.w0.heap.size → ¬ C.O0 b → w'.heap[b]? = C.w0.heap[b]?) : HSat C PL' hp' Fr' w' := by
  refine ⟨ck, dj, fun b hb => ?_, t.os.trans h.os, t.tape.trans h.tape, t.output.trans h.output, Nat.le_trans h.size t.size, fun b hb ho => ?_, h.zlt, fr, fun id hid => (t.P id (by omega)).trans (h.arg id hid)⟩
  · obtain ⟨h1, h2⟩ := t.own b hb
    refine ⟨h1, ?_⟩
    rcases h2 with h2 | h2
    · exact (h.own b h2).2
    · have := h.size; exact .inr (by omega)
  · by_cases hbl : l = some b
    · exact hl b hbl hb ho
    · have hs := h.size
      rw [t.same b (by omega) (fun hx => ?_) (fun e => hbl e.symm)]
      · exact h.old b hb ho
      · rcases (h.own b hx).2 with h1 | h1
        · exact ho h1
        · omega
/-- What a value stands for, behind a run. -/
theorem Den.lt {v : SV} {x : Value} (d : Den PL w (Avo C PL hp) v x) (hf : ∀ i p, PL i = some p → i < nx) (t : Lt none C.Z PL hp nx w PL' hp' w') : Den PL' w' (Avo C PL' hp') v x := by
  refine d.mono (fun i p hp => by rw [t.P i (hf i p hp)]; exact hp) t.size (fun b hb hv => t.same b hb (fun hx => hv (.inr hx)) (by simp)) (fun b hb hv => ?_)
  rcases hv with hz | ho
  · exact .inl hz
  · rcases (t.own b ho).2 with h | h
    · exact .inr h
    · omega
theorem DefOK.lt {ds : List Deferred} {n0 : Nat} (d : DefOK (Avo C PL hp) n0 w ds) (t : Lt none C.Z PL hp nx w PL' hp' w') : DefOK (Avo C PL' hp') n0 w' ds := by
  refine DefOK.mono d t.size (fun b hb hv => t.same b hb (fun hx => hv (.inr hx)) (by simp)) (fun b hb hv => ?_)
  rcases hv with hz | ho
  · exact .inl hz
  · rcases (t.own b ho).2 with h | h
    · exact .inr h
    · omega
theorem DefOK.nc {ds : List Deferred} {n0 : Nat} {Av : Nat → Prop} (d : DefOK Av n0 w ds) {o0 o : Obj} (hD : w.heap[l]? = some o0) (hc : ∀ x, o0 ≠ .deferred x) : DefOK Av n0 (w.putObj l o) ds := by
  obtain ⟨h0, L, h1, h2, h3⟩ := d
  refine ⟨by rw [show (w.putObj l o).heap.size = w.heap.size by simp]; exact h0, L, h1, h2, fun D hD' => ?_⟩
  obtain ⟨a, b, c⟩ := h3 D hD'
  refine ⟨?_, b, c⟩
  rw [putObj_get]
  · exact a
  · intro e; subst e; rw [a] at hD; injection hD with hD; exact hc _ hD.symm
theorem HSat.frl (h : HSat C PL hp Fr w) (hnx : ∀ i, nx ≤ i → Fr i) : ∀ i p, PL i = some p → i < nx := by
  intro i p hp
  by_cases hi : i < nx
  · exact hi
  · rw [h.fr i (hnx i (by omega))] at hp; cases hp
end
end Go.Proofs.YtnkfginlmdenjaaDoor
end
section
/-
  A walk that reckons: ranges over functions: a round; the range.
-/
set_option linter.unusedVariables false
set_option linter.unusedSimpArgs false
namespace Go.Proofs.YtnkfginlmdenjaaDoor
open Go.RowKit

theorem Lt.weaken {l : Option Nat} {Z : Nat → Prop} {PL PL' : Nat → Option Pl} {hp hp' : List (Nat × Ck)} {nx : Nat} {w w' : World} (h : Lt none Z PL hp nx w PL' hp' w') : Lt l Z PL hp nx w PL' hp' w' :=
  ⟨h.P, h.os, h.tape, h.output, h.size, fun b hb ho _ => h.same b hb ho (by simp), h.own⟩
theorem Lt.put {l : Nat} {Z : Nat → Prop} {PL : Nat → Option Pl} {hp : List (Nat × Ck)} {nx : Nat} {w : World} (hZ : ∀ b, Own PL hp b → ¬ Z b) (o : Obj) : Lt (some l) Z PL hp nx w PL hp (w.putObj l o) :=
  ⟨fun _ _ => rfl, rfl, rfl, rfl, by simp, fun b hb ho hl => putObj_get (fun e => hl (by rw [e])), fun b hb => ⟨hZ b hb, .inl hb⟩⟩

theorem setPs_len : ∀ (ps : List Nat) (fr : List (Option SV)) (vs : List SV) (fr1 : List (Option SV)), setPs fr ps vs = some fr1 → fr1.length = fr.length
  | [], fr, [], fr1, h => by simp only [setPs] at h; injection h with h; rw [h]
  | [], fr, v :: vs, fr1, h => by simp [setPs] at h
  | p :: ps, fr, [], fr1, h => by simp [setPs] at h
  | p :: ps, fr, v :: vs, fr1, h => by
    simp only [setPs] at h
    rw [setPs_len ps _ vs fr1 h, fput_length]
theorem setPs_den {PL : Nat → Option Pl} {w : World} {Av : Nat → Prop} : ∀ (ps : List Nat) (fr : List (Option SV)) (vs : List SV) (xs : List Value) (T : Array Value) (fr1 : List (Option SV)), setPs fr ps vs = some fr1 → T.size = fr.length → DensA PL w Av vs xs →
    (∀ i v, fget fr i = some v → Den PL w Av v (T.getD i undef)) → ps.length = xs.length ∧ ((ps.zip xs).foldl (fun t (p, v) => t.setIfInBounds p v) T).size = fr1.length ∧
      ∀ i v, fget fr1 i = some v → Den PL w Av v (((ps.zip xs).foldl (fun t (p, v) => t.setIfInBounds p v) T).getD i undef)
  | [], fr, [], xs, T, fr1, h, hT, hd, hs => by
    simp only [setPs] at h; injection h with h; subst h
    have : xs = [] := List.length_eq_zero_iff.1 (by simpa using hd.1)
    subst this
    exact ⟨rfl, hT, hs⟩
  | [], fr, v :: vs, xs, T, fr1, h, hT, hd, hs => by simp [setPs] at h
  | p :: ps, fr, [], xs, T, fr1, h, hT, hd, hs => by simp [setPs] at h
  | p :: ps, fr, v :: vs, [], T, fr1, h, hT, hd, hs => by have := hd.1; simp at this
  | p :: ps, fr, v :: vs, x :: xs, T, fr1, h, hT, hd, hs => by
    simp only [setPs] at h
    have hd0 : Den PL w Av v x := hd.2 0 (by simp) (by simp)
    have hd1 : DensA PL w Av vs xs := ⟨by simpa using hd.1, fun j a b => by have := hd.2 (j + 1) (by simpa using a) (by simpa using b); simpa using this⟩
    obtain ⟨h1, h2, h3⟩ := setPs_den ps (fput fr p (some v)) vs xs (T.setIfInBounds p x) fr1 h (by rw [fput_length]; simpa using hT) hd1 (fun i u hu => by
      by_cases hpi : p = i
      · subst hpi
        have hl := fget_lt _ _ _ hu
        rw [fput_length] at hl
        rw [fget_fput_eq _ _ _ hl] at hu
        injection hu with hu
        subst hu
        have : (T.setIfInBounds p x).getD p undef = x := by
          have hp : p < T.size := by omega
          simp [Array.getD, hp]
        rw [this]
        exact hd0
      · rw [fget_fput_ne _ _ _ _ hpi] at hu
        have : (T.setIfInBounds p x).getD i undef = T.getD i undef := by
          simp only [Array.getD, Array.size_setIfInBounds]
          split
          · exact Array.getElem_setIfInBounds_ne _ hpi
          · rfl
        rw [this]
        exact hs i u hu)
    exact ⟨by simp [h1], h2, h3⟩

section
variable {P : Program} {Γ : FuncId → Option Con}
/-- The record of a range, at rest. -/
def recOf (fn0 : FuncId) (T0 : Array Value) (pa : Array Tmp) (ca cb : Code) (D : Nat) : Loop := { state := .ready, pending := none, fn := fn0, tmps := T0, params := pa, assign := ca, body := cb, defers := D }
/-- What holds while a range goes on. -/
structure Rng (P : Program) (C : Ctx) (it : It) (fn0 : FuncId) (T0 : Array Value) (pa : Array Tmp) (ca cb : Code) (D : Nat) : Prop where
  a : comp P ca = some it.asg
  b : comp P cb = some it.body
  ps : pa.toList = it.ps
  len : T0.size = it.fr.length
  fr : ∀ PL hp Fr w, HSat C PL hp Fr w → ∀ i v, fget it.fr i = some v → Den PL w (Avo C PL hp) v (T0.getD i undef)
  l0 : C.w0.heap[it.l]? = some (.loop (recOf fn0 T0 pa ca cb D))
  O : ¬ C.O0 it.l

theorem round_run (T : Tab P Γ) {C : Ctx} {it : It} {fn0 : FuncId} {T0 : Array Value} {pa : Array Tmp} {ca cb : Code} {D : Nat} (R : Rng P C it fn0 T0 pa ca cb D) {PL : Nat → Option Pl} {s : St} {Fr : Nat → Prop} {a : Act} {w : World} {vs : List SV} {args : List Value} {K : St → Prop} {dst : Option Nat}
    (h : Sat C PL s Fr a w) (hk : C.k ≤ s.nx) (hnx : ∀ i, s.nx ≤ i → Fr i) (hvs : DensA PL w (Avo C PL s.hp) vs args) (hv : exRound Γ it dst vs s K) :
    w.heap[it.l]? = some (.loop (recOf fn0 T0 pa ca cb D)) ∧ args.length = pa.size ∧ RoundIn Fence.wide 0 P it.l fn0 ((it.ps.zip args).foldl (fun t (p, v) => t.setIfInBounds p v) T0) ca cb w (fun e w' => e = .returned (.bool true) ∧ ∃ (PL' : Nat → Option Pl) (s2 : St), K ((⟨s.fr, s2.hp, s2.nx⟩ : St).put dst (some (.v (.bool true))) []) ∧ s.nx ≤ s2.nx ∧
      Sat C PL' ⟨s.fr, s2.hp, s2.nx⟩ (fun i => (Fr i ∧ i < s.nx) ∨ s2.nx ≤ i) a w') := by
  have hlt0 : it.l < C.w0.heap.size := (Array.getElem?_eq_some_iff.1 R.l0).1
  have hlw : w.heap[it.l]? = some (.loop (recOf fn0 T0 pa ca cb D)) := (h.old it.l hlt0 R.O).trans R.l0
  have hltw : it.l < w.heap.size := Nat.lt_of_lt_of_le hlt0 h.size
  have hno : ¬ Own PL s.hp it.l := fun hx => by
    rcases (h.own it.l hx).2 with h1 | h1
    · exact R.O h1
    · omega
  unfold exRound at hv
  split at hv
  · rename_i fr1 hfr1
    obtain ⟨q1, q2, q3⟩ := setPs_den it.ps it.fr vs args T0 fr1 hfr1 R.len hvs (R.fr PL s.hp Fr w h.toHSat)
    refine ⟨hlw, by rw [← q1, ← R.ps]; simp, ?_⟩
    generalize (it.ps.zip args).foldl (fun t (p, v) => t.setIfInBounds p v) T0 = tm at q2 q3 ⊢
    refine roundIn_of_wpIn (F := Fence.wide) trivial ?_
    have H2 := h.toHSat.rb hnx
    have S2 : SatN (rbC C PL s.hp s.nx w) PL ⟨fr1, s.hp, s.nx⟩ { tmps := tm, defers := [] } w :=
      ⟨{ H2 with len := q2, def_ := .nil h.def_.1, slot := q3 }, Nat.le_refl _⟩
    refine vx_sound (r := some it.l) (exec_ok T) (L := fun _ _ _ => False) (fun _ _ _ hL => hL.elim) ca it.asg _ _ PL _ w _ R.a hv S2 ?_
    intro e s1 PL1 a1 w1 hK S1
    cases e with
    | ret => exact hK.elim
    | exit id => exact hK.elim
    | nxt =>
      have t1 : Lt none C.Z PL s.hp s.nx w PL1 s1.hp w1 := Lt.of_rb none S1.1.toHSat
      have hl1 : w1.heap[it.l]? = some (.loop (recOf fn0 T0 pa ca cb D)) := (t1.same it.l hltw hno (by simp)).trans hlw
      have hn1 : s.nx ≤ s1.nx := S1.2
      refine ⟨_, run_beginRound hl1 rfl, ?_⟩
      have H3 : HSat (rbC (rbC C PL s.hp s.nx w) PL1 s1.hp s1.nx _) PL1 s1.hp (fun i => s1.nx ≤ i) _ := S1.1.toHSat.rb_nc (fun i hi => hi) hl1 rfl (o := .loop { recOf fn0 T0 pa ca cb D with state := .busy })
      have S3 : SatN (rbC (rbC C PL s.hp s.nx w) PL1 s1.hp s1.nx (w1.putObj it.l (.loop { recOf fn0 T0 pa ca cb D with state := .busy }))) PL1 s1 a1 (w1.putObj it.l (.loop { recOf fn0 T0 pa ca cb D with state := .busy })) :=
        ⟨{ H3 with len := S1.1.len, def_ := S1.1.def_.nc hl1 (fun x e => by cases e), slot := fun i v hi => (S1.1.slot i v hi).nc hl1 rfl }, Nat.le_refl _⟩
      refine vx_sound (r := some it.l) (exec_ok T) (L := fun _ _ _ => False) (fun _ _ _ hL => hL.elim) cb it.body s1 _ PL1 a1 _ _ R.b hK S3 ?_
      intro e s2 PL3 a3 w3 hK2 S4
      cases e with
      | ret => exact hK2.elim
      | exit id => exact hK2.elim
      | nxt =>
        have t3 : Lt none C.Z PL1 s1.hp s1.nx (w1.putObj it.l (.loop { recOf fn0 T0 pa ca cb D with state := .busy })) PL3 s2.hp w3 := Lt.of_rb none S4.1.toHSat
        have hs2 : (w1.putObj it.l (.loop { recOf fn0 T0 pa ca cb D with state := .busy })).heap.size = w1.heap.size := by simp
        have hlt1 : it.l < w1.heap.size := Nat.lt_of_lt_of_le hltw t1.size
        have hno1 : ¬ Own PL1 s1.hp it.l := fun hx => by
          rcases (t1.own it.l hx).2 with h1 | h1
          · exact hno h1
          · omega
        have hl3 : w3.heap[it.l]? = some (.loop { recOf fn0 T0 pa ca cb D with state := .busy }) := (t3.same it.l (by omega) hno1 (by simp)).trans (World.putObj_heap_same hlt1)
        have hn3 : s1.nx ≤ s2.nx := S4.2
        refine ⟨_, _, run_endRound none hl3, rfl, PL3, s2, hK2, by omega, ?_⟩
        have tt : Lt (some it.l) C.Z PL s.hp s.nx w PL3 s2.hp (w3.putObj it.l (.loop (recOf fn0 T0 pa ca cb D))) :=
          (((t1.weaken.trans (Lt.put (fun b hb => (t1.own b hb).1) _) (Nat.le_refl _ : s.nx ≤ s.nx)).trans t3.weaken hn1).trans (Lt.put (nx := s1.nx) (fun b hb => (t3.own b hb).1) _) hn1)
        have HF : HSat C PL3 s2.hp (fun i => (Fr i ∧ i < s.nx) ∨ s2.nx ≤ i) (w3.putObj it.l (.loop (recOf fn0 T0 pa ca cb D))) := by
          refine h.toHSat.un hk tt (fun id c hc => (S4.1.ck id c hc).nc hl3 rfl) S4.1.dj ?_ ?_
          · rintro id (⟨h1, h2⟩ | h1)
            · rw [t3.P id (by omega), t1.P id h2]; exact h.fr id h1
            · exact S4.1.fr id h1
          · intro b hb hb1 hb2
            injection hb with hb
            subst hb
            rw [R.l0]
            exact World.putObj_heap_same (Nat.lt_of_lt_of_le (by omega) t3.size)
        have d1 : ∀ v x, Den PL w (Avo C PL s.hp) v x → Den PL3 (w3.putObj it.l (.loop (recOf fn0 T0 pa ca cb D))) (Avo C PL3 s2.hp) v x := by
          intro v x d
          have e1 : Den PL1 w1 (Avo C PL1 s1.hp) v x := d.lt (h.toHSat.frl hnx) t1
          have e2 : Den PL1 (w1.putObj it.l (.loop { recOf fn0 T0 pa ca cb D with state := .busy })) (Avo C PL1 s1.hp) v x := e1.nc hl1 rfl
          have e3 : Den PL3 w3 (Avo C PL3 s2.hp) v x := e2.lt (nx := s1.nx) (H3.frl (fun i hi => hi)) t3
          exact e3.nc hl3 rfl
        have d2 : DefOK (Avo C PL3 s2.hp) C.n0 (w3.putObj it.l (.loop (recOf fn0 T0 pa ca cb D))) a.defers := by
          have e0 : DefOK (Avo C PL s.hp) C.n0 w a.defers := h.def_
          have e1 : DefOK (Avo C PL1 s1.hp) C.n0 w1 a.defers := e0.lt t1
          have e2 : DefOK (Avo C PL1 s1.hp) C.n0 (w1.putObj it.l (.loop { recOf fn0 T0 pa ca cb D with state := .busy })) a.defers := e1.nc hl1 (fun x e => by cases e)
          have e3 : DefOK (Avo C PL3 s2.hp) C.n0 w3 a.defers := e2.lt t3
          exact e3.nc hl3 (fun x e => by cases e)
        exact { HF with len := h.len, def_ := d2, slot := fun i v hi => d1 v _ (h.slot i v hi) }
  · exact hv.elim
end
end Go.Proofs.YtnkfginlmdenjaaDoor
end
section
/-
  A walk that reckons: ranges over functions: what a range does.
-/
set_option linter.unusedVariables false
set_option linter.unusedSimpArgs false
namespace Go.Proofs.YtnkfginlmdenjaaDoor
open Go.RowKit

theorem cOp_callv {P : Program} {o : Oper} {g : Opnd} {ys : List Opnd} (h : cOp P o = some (.callv g ys)) : ∃ c t, o.op = .call c ∧ c.callee = .value (.tmp t) ∧ g = .t t ∧ cXs c.args.toList = some ys := by
  unfold cOp at h
  cases ho : o.op with
  | call c =>
    simp only [ho] at h
    split at h
    all_goals first
      | (rename_i t hc; simp only [Option.map_eq_some_iff] at h; obtain ⟨zs, hz, hz2⟩ := h; injection hz2 with e1 e2; subst e1; subst e2; exact ⟨c, t, rfl, hc, rfl, hz⟩)
      | skip
    all_goals exfalso
    all_goals revert h
    all_goals (repeat' split)
    all_goals intro h
    all_goals first
      | (cases h; done)
      | (simp only [Option.bind_eq_bind, Option.bind_eq_some_iff, Option.map_eq_some_iff, Option.pure_def, Option.some.injEq, reduceCtorEq, and_false, exists_false] at h; done)
      | (simp_all only [reduceCtorEq]; done)
      | (simp only [Option.bind_eq_bind, Option.bind_eq_some_iff, Option.map_eq_some_iff, Option.pure_def, Option.some.injEq, reduceCtorEq, and_false, exists_false] at h; obtain ⟨_, _, h⟩ := h; split at h <;> simp only [Option.bind_eq_bind, Option.bind_eq_some_iff, Option.map_eq_some_iff, Option.pure_def, Option.some.injEq, reduceCtorEq, and_false, exists_false] at h; done)
  | makeFunc fn first caps =>
    exfalso
    cases fn <;> simp only [ho] at h <;> (repeat' split at h) <;> first
      | (cases h; done)
      | (simp only [Option.bind_eq_bind, Option.bind_eq_some_iff, Option.map_eq_some_iff, Option.pure_def, Option.some.injEq, reduceCtorEq, and_false, exists_false] at h; done)
  | _ =>
    exfalso
    simp only [ho] at h
    revert h
    (repeat' split)
    all_goals intro h
    all_goals first
      | (cases h; done)
      | (simp only [Option.bind_eq_bind, Option.bind_eq_some_iff, Option.map_eq_some_iff, Option.pure_def, Option.some.injEq, reduceCtorEq, and_false, exists_false] at h; done)
      | (simp_all only [reduceCtorEq]; done)
      | (simp only [Option.bind_eq_bind, Option.bind_eq_some_iff, Option.map_eq_some_iff, Option.pure_def, Option.some.injEq, reduceCtorEq, and_false, exists_false] at h; obtain ⟨_, _, h⟩ := h; split at h <;> simp only [Option.bind_eq_bind, Option.bind_eq_some_iff, Option.map_eq_some_iff, Option.pure_def, Option.some.injEq, reduceCtorEq, and_false, exists_false] at h; done)

section
variable {P : Program} {Γ : FuncId → Option Con}
/-- The operations of a function that a range runs over. -/
theorem it_ok (T : Tab P Γ) {C : Ctx} {it : It} {fn0 : FuncId} {T0 : Array Value} {pa : Array Tmp} {ca cb : Code} {D : Nat} (R : Rng P C it fn0 T0 pa ca cb D) : ExOK P C none (exIt Γ it) := by
  intro o io PL s Fr a w fresh K Q hx hdst h hfr hk hnx hle hv
  by_cases hcv : ∃ g ys y, io.op = .callv g ys ∧ s.ev g = some (.v y)
  · obtain ⟨g, ys, y, e1, e2⟩ := hcv
    rw [e1] at hx
    obtain ⟨c, t, ho, hc, rfl, hys⟩ := cOp_callv hx
    unfold exIt at hv
    rw [e1] at hv
    simp only [e2] at hv
    cases hvs : s.evs ys with
    | none => rw [hvs] at hv; exact hv.elim
    | some vs =>
    rw [hvs] at hv
    simp only [] at hv
    obtain ⟨rfl, hv⟩ := hv
    have d1 := ev_den h (x := .tmp t) rfl e2
    have d2 := dens_args h hys hvs
    generalize hq : a.eval (.tmp t) = q at d1
    cases d1
    obtain ⟨hl, hsz, hR⟩ := round_run T R h (by omega) hnx d2 hv
    have hrun : (execOp a.eval o).run P w = .ok (.round it.l fn0 ((it.ps.zip (c.args.toList.map a.eval)).foldl (fun t (p, v) => t.setIfInBounds p v) T0) ca cb) w := by
      have hargs : (c.args.toList.map a.eval).toArray = c.args.map a.eval := by rw [← Array.toList_map]
      have hs2 : (c.args.map a.eval).size = (recOf fn0 T0 pa ca cb D).params.size := by show (c.args.map a.eval).size = pa.size; rw [← hargs]; simpa using hsz
      have hy := run_yield (P := P) (args := c.args.map a.eval) hl hs2
      have hfold : (((recOf fn0 T0 pa ca cb D).params.zip (c.args.map a.eval)).foldl (fun tmps (t, a) => tmps.setIfInBounds t a) (recOf fn0 T0 pa ca cb D).tmps) = (it.ps.zip (c.args.toList.map a.eval)).foldl (fun t (p, v) => t.setIfInBounds p v) T0 := by
        rw [← R.ps, ← Array.foldl_toList, Array.toList_zip]
        simp [recOf]
      rw [hfold] at hy
      simp [execOp, ho, resolve, hc, hq, Deferred.ofValue, invoke]
      exact hy
    refine ⟨fun _ _ => trivial, ?_⟩
    rw [Oper.semAt_plain (WF none) _ _ (cOp_nodefer hx), hrun]
    refine ⟨(fun hx => by cases hx), ?_⟩
    refine RoundIn.mono hR ?_
    rintro e w' ⟨rfl, PL', s2, hK, hn, hS⟩
    refine ⟨PL', _, hK, hn, ?_, ?_⟩
    · cases io.dst <;> simp [St.put, fput_length]
    · have := hS.pure io.dst (some (.v (.bool true))) (.bool true) (fun v hv => by injection hv with hv; subst hv; exact .v _)
      rw [hdst] at this ⊢
      refine this.fr_mono fun i hi => ?_
      rcases hi with ⟨h1, h2, _⟩ | hi
      · exact .inl ⟨h1, h2⟩
      · exact .inr hi
  · have : exIt Γ it io fresh s K = vcExec Γ io fresh s K := by
      unfold exIt
      split
      · rename_i g ys e1
        split
        · rename_i y e2
          exact absurd ⟨g, ys, y, e1, e2⟩ hcv
        · rfl
      · rfl
    rw [this] at hv
    exact exec_ok T o io PL s Fr a w fresh K Q hx hdst h hfr hk hnx hle hv

/-- A function that a range may run over, made short. -/
def ItOK (P : Program) (f : FuncId) (ic : IC) (nt : Nat) : Prop := ∃ fn code, P.funcs[f]? = some fn ∧ (fn.name != "runtime.NumGoroutine") = true ∧ fn.body = some code ∧ comp P code = some ic ∧ fn.ntmps = nt ∧ fn.results = #[]
theorem ItOK.of {f : FuncId} {fn : Func} {ic : IC} {nt : Nat} (hf : P.funcs[f]? = some fn) (hc : compF P fn = some (ic, [], nt)) (hn : (fn.name != "runtime.NumGoroutine") = true) (hr : fn.results = #[]) : ItOK P f ic nt := by
  simp only [compF, Option.bind_eq_bind, Option.bind_eq_some_iff, Option.pure_def, Option.some.injEq, Prod.mk.injEq] at hc
  obtain ⟨c, h1, ic', h2, rv', h3, rfl, rfl, h4⟩ := hc
  exact ⟨fn, c, hf, hn, h1, h2, h4, hr⟩

/-- What is to be shown of a loop in a function that a range runs over. -/
structure LoopI (P : Program) (C : Ctx) (ex : Io → Nat → St → (St → Prop) → Prop) (c : IC) (s : St) (K : Ex → St → Prop) : Prop where
  out : ExOK P C none ex → ∀ (code : Code) (PL : Nat → Option Pl) (a : Act) (w : World) (Q : Exit → Act → World → Prop), comp P code = some c → SatN C PL s a w → KQ C K Q → code.wpIn (WF none) 0 P Q a w

theorem map_mark : ∀ {L M : List Nat}, L.map Mark = M.map Mark → L = M
  | [], [], _ => rfl
  | [], m :: M, h => by cases h
  | l :: L, [], h => by cases h
  | l :: L, m :: M, h => by
    simp only [List.map_cons, List.cons.injEq] at h
    obtain ⟨h1, h2⟩ := h
    unfold Mark at h1
    injection h1 with h1 _
    injection h1 with h1
    rw [h1, map_mark h2]
theorem push_at (A : Array Obj) (o : Obj) : (A.push o)[A.size]? = some o := by simp
theorem size_alloc2 (w : World) (o o' : Obj) : ((w.alloc o).alloc o').heap.size = w.heap.size + 2 := by simp
theorem LoopOK.rfn (T : Tab P Γ) {C : Ctx} {f : FuncId} {ic : IC} {nt : Nat} (hI : ItOK P f ic nt) {x : Opnd} {ps : List Nat} {asg body : IC} {s s0 : St} {caps : List SV} {K : Ex → St → Prop} (h0 : Le C s s0) (hx : s0.ev x = some (.fn f caps))
    (hv : ∀ (C1 : Ctx) (l : Nat), C1.k = s0.nx → Hidden (vx (exIt Γ ⟨l, s0.fr, ps, asg, body⟩) (LoopI P C1 (exIt Γ ⟨l, s0.fr, ps, asg, body⟩)) ic ⟨(SV.v (.func (.yield l) #[] #[]) :: caps).map some ++ List.replicate (nt - (caps.length + 1)) none, s0.hp, s0.nx⟩
      (fun e s' => match e with | .exit _ => False | .nxt => K .nxt ⟨s0.fr, s'.hp, s'.nx⟩ | .ret => K .nxt ⟨s0.fr, s'.hp, s'.nx⟩))) : LoopOK P C Γ (.rfn x ps asg body) s K where
  out := by
    intro code PL a w Q hc hS hQ
    obtain ⟨g, pa, ca, cb, rfl, hg, hpa, hca, hcb⟩ := comp_rfn hc
    obtain ⟨PL0, S0⟩ := h0 PL a w hS
    obtain ⟨fn, icode, hf, hnm, hbody, hcomp, hnt, hres⟩ := hI
    have hbs : fn.body.isSome = true := by rw [hbody]; rfl
    have dx := ev_den S0.1 hg hx
    generalize hq : a.eval g = q at dx
    cases dx with
    | fn _ _ cs hl hd =>
    refine (wpIn_wide (n := 0)).1 (wpIn_rangeFunc (F := Fence.wide) ?_)
    intro fn0 _
    obtain ⟨W1, hW1⟩ : ∃ W1, W1 = (w.alloc (.deferred (some []))).alloc (.loop (recOf fn0 a.tmps pa ca cb w.heap.size)) := ⟨_, rfl⟩
    have hs1 : W1.heap.size = w.heap.size + 2 := by rw [hW1]; exact size_alloc2 _ _ _
    have hsame : ∀ b, b < w.heap.size → W1.heap[b]? = w.heap[b]? := fun b hb => by
      rw [hW1, Below.heap_alloc _ _ _ (by simp; omega), Below.heap_alloc _ _ _ hb]
    have hD1 : W1.heap[w.heap.size]? = some (.deferred (some [])) := by
      rw [hW1, Below.heap_alloc _ _ _ (by simp)]
      show (w.heap.push _)[w.heap.size]? = _
      simp
    have hL1 : W1.heap[w.heap.size + 1]? = some (.loop (recOf fn0 a.tmps pa ca cb w.heap.size)) := by
      rw [hW1]
      show ((w.alloc (.deferred (some []))).heap.push _)[w.heap.size + 1]? = _
      have e1 : (w.alloc (.deferred (some []))).heap.size = w.heap.size + 1 := by simp
      have e2 := push_at (w.alloc (.deferred (some []))).heap (.loop (recOf fn0 a.tmps pa ca cb w.heap.size))
      rw [e1] at e2
      exact e2
    have hW1o : W1.os = w.os ∧ W1.tape = w.tape ∧ W1.output = w.output := by rw [hW1]; exact ⟨rfl, rfl, rfl⟩
    refine ⟨w.heap.size + 1, [Mark w.heap.size], W1, { target := .fn (.func f) cs.toArray, args := #[.func (.yield (w.heap.size + 1)) #[] #[]] }, W1, f, #[.func (.yield (w.heap.size + 1)) #[] #[]] ++ cs.toArray, W1, ?_, ?_, fun _ _ => trivial, ?_, (fun hx => by cases hx), ?_⟩
    · rw [hW1]; exact run_enterLoop_outer _ _ _ _ _
    · simp only [resolve, hq]
      simp [go_sem, Deferred.ofValue, rangeCall, resolve, hq]
    · simp [invoke, go_sem, run_callFunc hf hnm hbs]
    · -- the function that the range runs over
      let C1 : Ctx := ⟨W1, fun b => C.Z b ∨ b = w.heap.size ∨ b = w.heap.size + 1, Own PL0 s0.hp, s0.nx, PL0, W1.heap.size⟩
      have hA1 : ∀ b, b < w.heap.size → Avo C1 PL0 s0.hp b → Avo C PL0 s0.hp b := by
        rintro b hb (hz | ho)
        · rcases hz with hz | hz | hz
          · exact .inl hz
          · omega
          · omega
        · exact .inr ho
      have hHS : HSat C1 PL0 s0.hp (fun i => s0.nx ≤ i) W1 := by
        refine ⟨fun id c hc => (S0.1.ck id c hc).mono (fun _ _ h => h) (by omega) (fun b hb _ => hsame b hb) hA1 (fun p b hp ha => hsame b ((S0.1.ck id c hc).lt hp ha)), S0.1.dj, fun b hb => ⟨?_, .inl hb⟩, rfl, rfl, rfl, Nat.le_refl _, fun _ _ _ => rfl, ?_, S0.1.fr, fun _ _ => rfl⟩
        · have hlt := S0.1.toHSat.lt hb
          rintro (hz | hz | hz)
          · exact (S0.1.own b hb).1 hz
          · omega
          · omega
        · refine ⟨?_, fun g r hg => (S0.1.toHSat.glob hg).mono (fun _ _ h => by cases h) (by show w.heap.size ≤ W1.heap.size; omega) (fun b hb _ => hsame b hb) hA1⟩
          rintro b (hz | hz | hz)
          · have h1 := S0.1.zlt.1 b hz; have h2 := S0.1.size; show b < W1.heap.size; omega
          · show b < W1.heap.size; omega
          · show b < W1.heap.size; omega
      have hden : ∀ v y, Den PL0 w (Avo C PL0 s0.hp) v y → Den PL0 W1 (Avo C1 PL0 s0.hp) v y := fun v y d => d.mono (fun _ _ h => h) (by omega) (fun b hb _ => hsame b hb) hA1
      have lt_of : ∀ {PL' hp' Fr' w'}, HSat C1 PL' hp' Fr' w' → Lt none C.Z PL0 s0.hp s0.nx w PL' hp' w' := by
        intro PL' hp' Fr' w' h
        refine ⟨fun i hi => h.arg i hi, h.os.trans hW1o.1, h.tape.trans hW1o.2.1, h.output.trans hW1o.2.2, ?_, ?_, ?_⟩
        · have := h.size; show w.heap.size ≤ w'.heap.size; have h2 : C1.w0.heap.size = W1.heap.size := rfl; omega
        · intro b hb ho _
          exact (h.old b (by show b < W1.heap.size; omega) ho).trans (hsame b hb)
        · intro b hb
          obtain ⟨h1, h2⟩ := h.own b hb
          refine ⟨fun hz => h1 (.inl hz), ?_⟩
          rcases h2 with h2 | h2
          · exact .inl h2
          · have h3 : C1.w0.heap.size = W1.heap.size := rfl; exact .inr (by omega)
      have hfrl := S0.1.toHSat.frl (nx := s0.nx) (fun i hi => hi)
      have R : Rng P C1 ⟨w.heap.size + 1, s0.fr, ps, asg, body⟩ fn0 a.tmps pa ca cb w.heap.size := by
        refine ⟨hca, hcb, hpa, S0.1.len, ?_, hL1, ?_⟩
        · intro PL' hp' Fr' w' h i v hi
          have d0 := S0.1.slot i v hi
          have d1 := hden _ _ d0
          refine d1.mono (fun j p hp => by rw [h.arg j (hfrl j p hp)]; exact hp) (by exact h.size) (fun b hb hv => h.old b hb (fun hx => hv (.inr hx))) (fun b hb hv => ?_)
          rcases hv with hz | ho
          · exact .inl hz
          · rcases (h.own b ho).2 with h2 | h2
            · exact .inr h2
            · have h3 : C1.w0.heap.size = W1.heap.size := rfl; omega
        · intro ho
          have h5 : w.heap.size + 1 < w.heap.size := S0.1.toHSat.lt ho
          omega
      refine callsIn_of_wp_marks (F := Fence.wide) (n := 0) hf hbody trivial ?_
      have hSI : SatN C1 PL0 ⟨(SV.v (.func (.yield (w.heap.size + 1)) #[] #[]) :: caps).map some ++ List.replicate (nt - (caps.length + 1)) none, s0.hp, s0.nx⟩ { tmps := #[Value.func (.yield (w.heap.size + 1)) #[] #[]] ++ cs.toArray ++ Array.replicate (fn.ntmps - (#[Value.func (.yield (w.heap.size + 1)) #[] #[]] ++ cs.toArray).size) undef, defers := [] } W1 := by
        refine ⟨{ hHS with len := ?_, def_ := .nil (Nat.le_refl _), slot := ?_ }, Nat.le_refl _⟩
        · simp [hnt, hl]
          omega
        · intro i v hi
          cases i with
          | zero =>
            simp only [List.map_cons, List.cons_append, fget] at hi
            injection hi with hi
            subst hi
            have : (#[Value.func (.yield (w.heap.size + 1)) #[] #[]] ++ cs.toArray ++ Array.replicate (fn.ntmps - (#[Value.func (.yield (w.heap.size + 1)) #[] #[]] ++ cs.toArray).size) undef).getD 0 undef = .func (.yield (w.heap.size + 1)) #[] #[] := by
              simp [Array.getD, Array.getElem_append]
            rw [this]
            exact .v _
          | succ i =>
            simp only [List.map_cons, List.cons_append, fget] at hi
            have key : ∀ (L : List SV) (m j : Nat), fget (L.map some ++ List.replicate m none) j = some v → ∃ hj : j < L.length, L[j] = v := by
              intro L
              induction L with
              | nil =>
                intro m j h
                exfalso
                have : ∀ (m j : Nat), fget (List.replicate m (none : Option SV)) j = none := by
                  intro m
                  induction m with
                  | zero => intro j; rfl
                  | succ m ih => intro j; cases j with
                    | zero => rfl
                    | succ j => exact ih j
                simp only [List.map_nil, List.nil_append, this] at h
                cases h
              | cons y L ih =>
                intro m j h
                cases j with
                | zero => simp only [List.map_cons, List.cons_append, fget] at h; injection h with h; exact ⟨by simp, h⟩
                | succ j =>
                  obtain ⟨hi, e⟩ := ih m j h
                  exact ⟨by simpa using hi, by simpa using e⟩
            obtain ⟨hj, rfl⟩ := key caps _ i hi
            have hj2 : i < cs.length := by omega
            have e : (#[Value.func (.yield (w.heap.size + 1)) #[] #[]] ++ cs.toArray ++ Array.replicate (fn.ntmps - (#[Value.func (.yield (w.heap.size + 1)) #[] #[]] ++ cs.toArray).size) undef).getD (i + 1) undef = cs[i] := by
              simp [Array.getD, Array.getElem_append, hj2]
              try omega
            rw [e]
            exact hden _ _ (hd i hj hj2)
      refine vx_sound (r := none) (it_ok T R) (L := LoopI P C1 (exIt Γ ⟨w.heap.size + 1, s0.fr, ps, asg, body⟩)) (fun c s K hL => hL.out (it_ok T R)) icode ic _ _ PL0 _ W1 _ hcomp (hv C1 (w.heap.size + 1) rfl).out hSI ?_
      have fin : ∀ (s' : St) (PL' : Nat → Option Pl) (a' : Act) (w' : World), K .nxt ⟨s0.fr, s'.hp, s'.nx⟩ → SatN C1 PL' s' a' w' → LeavesInM Fence.wide 0 P fn a'.tmps (rangePost Fence.wide 0 P (w.heap.size + 1) Q { a with defers := [Mark w.heap.size] ++ a.defers }) a'.defers .returning w' := by
        intro s' PL' a' w' hK hS'
        refine leaves_marks (tm := a'.tmps) (s := s') (C := C1) (PL := PL') (Nat.le_refl _) ?_ _ a' w' rfl rfl hS'
        intro a2 w2 _ S2
        have t2 := lt_of S2.1.toHSat
        have hl2 : w2.heap[w.heap.size + 1]? = some (.loop (recOf fn0 a.tmps pa ca cb w.heap.size)) := (S2.1.old _ (by show w.heap.size + 1 < W1.heap.size; omega) R.O).trans hL1
        have hnD : ¬ Own PL0 s0.hp w.heap.size := fun ho => by have := S0.1.toHSat.lt ho; omega
        have hD2 : w2.heap[w.heap.size]? = some (.deferred (some [])) := (S2.1.old _ (by show w.heap.size < W1.heap.size; omega) hnD).trans hD1
        refine ⟨.tuple #[], by simp [results, hres], ?_⟩
        refine ⟨none, _, run_endLoop hl2 (by simp [recOf]), ?_⟩
        refine hQ .nxt ⟨s0.fr, s'.hp, s'.nx⟩ PL' _ _ hK ⟨?_, ?_⟩
        · have H1 : HSat C PL' s'.hp (fun i => s'.nx ≤ i) w2 := S0.1.toHSat.un S0.2 t2 (fun id c hc => (S2.1.ck id c hc).mono (fun _ _ h => h) (Nat.le_refl _) (fun _ _ _ => rfl) (fun b _ hb => by
              rcases hb with hz | ho
              · exact .inl (.inl hz)
              · exact .inr ho) (fun _ _ _ _ => rfl)) S2.1.dj S2.1.fr (fun b hb => by cases hb)
          have hsz0 := S0.1.size
          have H2 := H1.nc hl2 rfl (show C.w0.heap.size ≤ w.heap.size + 1 by omega) (o := .loop { recOf fn0 a.tmps pa ca cb w.heap.size with state := .exhausted })
          refine { H2 with len := S0.1.len, def_ := ?_, slot := ?_ }
          · have e0 : DefOK (Avo C PL0 s0.hp) C.n0 w a.defers := S0.1.def_
            have e1 : DefOK (Avo C PL' s'.hp) C.n0 w2 a.defers := e0.lt t2
            have e2 : DefOK (Avo C PL' s'.hp) C.n0 (w2.putObj (w.heap.size + 1) (.loop { recOf fn0 a.tmps pa ca cb w.heap.size with state := .exhausted })) a.defers := e1.nc hl2 (fun x e => by cases e)
            obtain ⟨g0, L, g1, g2, g3⟩ := e2
            obtain ⟨k0, L', k1, k2, k3⟩ := e0
            have hLL : L = L' := by
              have : L.map Mark = L'.map Mark := by rw [← g1, ← k1]
              exact map_mark this
            subst hLL
            refine ⟨g0, w.heap.size :: L, by rw [List.map_cons, ← g1]; rfl, List.nodup_cons.2 ⟨fun hm => ?_, g2⟩, fun E hE => ?_⟩
            · have := (Array.getElem?_eq_some_iff.1 (k3 _ hm).1).1
              omega
            · rcases List.mem_cons.1 hE with rfl | hE
              · refine ⟨by rw [putObj_get (by omega)]; exact hD2, ?_, k0⟩
                rintro (hz | ho)
                · have h1 := S0.1.zlt.1 _ hz; omega
                · exact (S2.1.own _ ho).1 (.inr (.inl rfl))
              · exact g3 E hE
          · intro i v hi
            have d0 : Den PL0 w (Avo C PL0 s0.hp) v (a.tmps.getD i undef) := S0.1.slot i v hi
            have d1 : Den PL' w2 (Avo C PL' s'.hp) v (a.tmps.getD i undef) := d0.lt hfrl t2
            exact d1.nc hl2 rfl
        · have := S0.2
          have h2 : C1.k ≤ s'.nx := S2.2
          have h3 : C1.k = s0.nx := rfl
          show C.k ≤ s'.nx
          omega
      intro e s' PL' a' w' hK hS'
      cases e with
      | nxt => exact fin s' PL' a' w' hK hS'
      | ret => exact fin s' PL' a' w' hK hS'
      | exit _ => exact hK.elim
end
end Go.Proofs.YtnkfginlmdenjaaDoor
end
section
/-
  A walk that reckons, told by plain functions.
-/
set_option linter.unusedVariables false
set_option linter.unusedSimpArgs false
namespace Go.Proofs.YtnkfginlmdenjaaDoor
open Go.RowKit

def altC (x y : Option CEff) : Option CEff := match x with | some e => some e | none => y
theorem altC_inv {x y : Option CEff} {e : CEff} (h : altC x y = some e) : x = some e ∨ y = some e := by
  cases x with
  | none => exact .inr h
  | some a => exact .inl h
/-- A loop whose rounds are told by a plain function. -/
theorem LoopOK.iter {P : Program} {C : Ctx} {Γ : FuncId → Option Con} (T : Tab P Γ) (hD : DrawOK P C Γ) {c : IC} {s : St} {K : Ex → St → Prop} {X T' : Type} {B : X → Option (X ⊕ T')} {x0 : X} {t : T'} (h : iter B x0 = some t) (inv : X → St) (h0 : ∀ x1, x0 = x1 → Le C s (inv x1))
    (hr : ∀ x b, B x = some b → (∀ t', b = .inr t' → t' = t) → Hidden (vc Γ (LoopOK P C Γ) c (inv x) (fun e s' => match e with | .nxt => (∃ x', b = .inl x') ∧ ∀ x', b = .inl x' → Le C s' (inv x') | .ret => K .ret s' | .exit id => K (.exit id) s'))) : LoopOK P C Γ (.loop c) s K where
  out := by
    intro code PL a w Q hc hs hQ
    obtain ⟨code', e0, hc'⟩ := comp_loop hc
    subst e0
    clear hc
    have hc := hc'
    clear hc'
    obtain ⟨code, e0⟩ : ∃ code, code = code' := ⟨_, rfl⟩
    subst e0
    obtain ⟨n, hn⟩ := iter_some.1 h
    obtain ⟨PL0, h1⟩ := h0 x0 rfl PL a w hs
    refine wp_loop_ghost (fun n a w => ∃ x PL, stepsN B n x = some t ∧ SatN C PL (inv x) a w) n ⟨x0, PL0, hn, h1⟩ ?_
    rintro n a w ⟨x, PL, hm, hx⟩
    cases n with
    | zero => cases hm
    | succ m =>
      simp only [stepsN] at hm
      cases hB : B x with
      | none => rw [hB] at hm; cases hm
      | some b =>
        rw [hB] at hm
        refine vc_sound T hD code c (inv x) _ PL a w _ hc ((hr x b hB (by
          intro t' e
          subst e
          simp only [] at hm
          exact Option.some.inj hm)).out) hx ?_
        intro e s' PL' a' w' hK hS
        cases e with
        | nxt =>
          obtain ⟨⟨x', rfl⟩, hle⟩ := hK
          obtain ⟨PL2, h2⟩ := hle x' rfl PL' a' w' hS
          exact ⟨m, by omega, x', PL2, hm, h2⟩
        | ret => exact hQ .ret s' PL' a' w' hK hS
        | exit id => exact hQ (.exit id) s' PL' a' w' hK hS

theorem wpIn_loop_ghost {F : Fence} {n : Nat} {P : Program} {Q : Exit → Act → World → Prop} {a : Act} {w : World} {c : Code} (I : Nat → Act → World → Prop) (n₀ : Nat) (h₀ : I n₀ a w)
    (round : ∀ k a w, I k a w → c.wpIn F n P (Exit.then (fun a' w' => ∃ n', n' < k ∧ I n' a' w') Q) a w) : (Code.loop c).wpIn F n P Q a w := by
  refine wpIn_loop (fun a w => ∃ k, I k a w) (fun a w => leastOf (fun k => I k a w)) ⟨n₀, h₀⟩ ?_
  intro a w hI
  refine wpIn_mono (round _ a w (leastOf_spec hI).1) ?_
  intro e a' w' hq
  cases e with
  | normal =>
    obtain ⟨n', hlt, hI'⟩ := hq
    exact ⟨⟨n', hI'⟩, Nat.lt_of_le_of_lt ((leastOf_spec ⟨n', hI'⟩).2 n' hI') hlt⟩
  | ret => exact hq
  | exit id => exact hq
  | goto l => exact hq
  | panic ch => exact hq
  | outgrown => exact hq
/-- A loop in a function that a range runs over, its rounds told by a plain function. -/
theorem LoopI.iter {P : Program} {C : Ctx} {ex : Io → Nat → St → (St → Prop) → Prop} {c : IC} {s : St} {K : Ex → St → Prop} {X T' : Type} {B : X → Option (X ⊕ T')} {x0 : X} {t : T'} (h : iter B x0 = some t) (inv : X → St) (h0 : ∀ x1, x0 = x1 → Le C s (inv x1))
    (hr : ∀ x b, B x = some b → (∀ t', b = .inr t' → t' = t) → Hidden (vx ex (LoopI P C ex) c (inv x) (fun e s' => match e with | .nxt => (∃ x', b = .inl x') ∧ ∀ x', b = .inl x' → Le C s' (inv x') | .ret => K .ret s' | .exit id => K (.exit id) s'))) : LoopI P C ex (.loop c) s K where
  out := by
    intro hex code PL a w Q hc hs hQ
    obtain ⟨code', e0, hc'⟩ := comp_loop hc
    subst e0
    clear hc
    obtain ⟨n, hn⟩ := iter_some.1 h
    obtain ⟨PL0, h1⟩ := h0 x0 rfl PL a w hs
    refine wpIn_loop_ghost (fun n a w => ∃ x PL, stepsN B n x = some t ∧ SatN C PL (inv x) a w) n ⟨x0, PL0, hn, h1⟩ ?_
    rintro n a w ⟨x, PL, hm, hx⟩
    cases n with
    | zero => cases hm
    | succ m =>
      simp only [stepsN] at hm
      cases hB : B x with
      | none => rw [hB] at hm; cases hm
      | some b =>
        rw [hB] at hm
        refine vx_sound hex (L := LoopI P C ex) (fun c s K hL => hL.out hex) code' c (inv x) _ PL a w _ hc' ((hr x b hB (by
          intro t' e
          subst e
          simp only [] at hm
          exact Option.some.inj hm)).out) hx ?_
        intro e s' PL' a' w' hK hS
        cases e with
        | nxt =>
          obtain ⟨⟨x', e1⟩, hle⟩ := hK
          subst e1
          obtain ⟨PL2, h2⟩ := hle x' rfl PL' a' w' hS
          exact ⟨m, by omega, x', PL2, hm, h2⟩
        | ret => exact hQ .ret s' PL' a' w' hK hS
        | exit id => exact hQ (.exit id) s' PL' a' w' hK hS
end Go.Proofs.YtnkfginlmdenjaaDoor
end
section
/-
  Functions that call themselves: what they do, with so much fuel as it takes; and their contracts.
-/
set_option linter.unusedVariables false
namespace Go.Proofs.YtnkfginlmdenjaaDoor

/-- What is told with enough fuel. -/
noncomputable def fixo {α : Type} (g : Nat → Option α) : Option α :=
  open Classical in if h : ∃ n, (g n).isSome = true then g (Classical.choose h) else none
theorem fixo_ex {α : Type} {g : Nat → Option α} {r : α} (h : fixo g = some r) : ∃ n, g n = some r := by
  unfold fixo at h
  split at h
  · exact ⟨_, h⟩
  · cases h
theorem fixo_is {α : Type} {g : Nat → Option α} (hd : ∀ n m r s, g n = some r → g m = some s → r = s) {n : Nat} {r : α} (h : g n = some r) : fixo g = some r := by
  unfold fixo
  have hx : ∃ n, (g n).isSome = true := ⟨n, by rw [h]; rfl⟩
  rw [dif_pos hx]
  obtain ⟨s, hs⟩ := Option.isSome_iff_exists.1 (Classical.choose_spec hx)
  rw [hs, hd _ _ _ _ h hs]
theorem FnOK.fix {P : Program} {f : FuncId} {con : Con} {conG : Nat → Con} (h : ∀ n, FnOK P f (conG n))
    (hh : ∀ cargs ccks ce, con.f cargs ccks = some ce → (∀ p ∈ ce.ob, p) → ∃ n ce', (conG n).f cargs ccks = some ce' ∧ (∀ p ∈ ce'.ob, p) ∧ ∀ Q, ce'.out.holds Q → ce.out.holds Q) : FnOK P f con := by
  intro cargs ccks ce hce hob Z PL w args HS HD
  obtain ⟨n, ce', h1, h2, h3⟩ := hh cargs ccks ce hce hob
  refine (h n cargs ccks ce' h1 h2 Z PL w args HS HD).mono ?_
  rintro e w' ⟨u, PL', he, hq⟩
  exact ⟨u, PL', he, h3 _ hq⟩
end Go.Proofs.YtnkfginlmdenjaaDoor
end
section
/-
  What the functions do, told plainly (printed by a program of ours).
-/
set_option linter.unusedVariables false
set_option linter.unusedSimpArgs false
namespace Go.Proofs.YtnkfginlmdenjaaDoor

noncomputable def cloneB (l : List UInt8) : Option (List UInt8) := if ((xlen l : Nat) : Int) * ((1 : Nat) : Int) ≤ 140737488355328 then some l else none

noncomputable def F_varint_groups (x1 : Int) : Option (Unit) :=
  some ()

noncomputable def F_varint_Put_L1 : Int × (List UInt8) → Option ((Int × (List UInt8)) ⊕ ((List UInt8)))
  | (i1, s1) =>
    if 0 ≤ (7 : Int) then
      if (ilt (0 : Int) (ishr .u64 i1 (7 : Int))) = true then
        if 0 ≤ (ior .u8 (iconv .u8 (irem i1 (128 : Int))) (128 : Int)) ∧ (ior .u8 (iconv .u8 (irem i1 (128 : Int))) (128 : Int)) < 256 then
          if ((((xlen s1) : Nat) : Int) + (((xlen (byteOf (ior .u8 (iconv .u8 (irem i1 (128 : Int))) (128 : Int)) :: ([] : List UInt8))) : Nat) : Int)) * ((1 : Nat) : Int) ≤ 140737488355328 then
            if 0 ≤ (7 : Int) then
              if (ilt (0 : Int) (ishr .u64 i1 (7 : Int))) = true then
                if 0 ≤ (7 : Int) then
                  some (.inl ((ishr .u64 i1 (7 : Int)), (cat s1 (byteOf (ior .u8 (iconv .u8 (irem i1 (128 : Int))) (128 : Int)) :: ([] : List UInt8)))))
                else none
              else
                some (.inr (cat s1 (byteOf (ior .u8 (iconv .u8 (irem i1 (128 : Int))) (128 : Int)) :: ([] : List UInt8))))
            else none
          else none
        else none
      else
        if 0 ≤ (iconv .u8 (irem i1 (128 : Int))) ∧ (iconv .u8 (irem i1 (128 : Int))) < 256 then
          if ((((xlen s1) : Nat) : Int) + (((xlen (byteOf (iconv .u8 (irem i1 (128 : Int))) :: ([] : List UInt8))) : Nat) : Int)) * ((1 : Nat) : Int) ≤ 140737488355328 then
            if 0 ≤ (7 : Int) then
              if (ilt (0 : Int) (ishr .u64 i1 (7 : Int))) = true then
                if 0 ≤ (7 : Int) then
                  some (.inl ((ishr .u64 i1 (7 : Int)), (cat s1 (byteOf (iconv .u8 (irem i1 (128 : Int))) :: ([] : List UInt8)))))
                else none
              else
                some (.inr (cat s1 (byteOf (iconv .u8 (irem i1 (128 : Int))) :: ([] : List UInt8))))
            else none
          else none
        else none
    else none
noncomputable def F_varint_Put (x1 : Int) : Option ((List UInt8)) :=
  match F_varint_groups x1 with
  | none => none
  | some () =>
    iter F_varint_Put_L1 (x1, ([] : List UInt8))

noncomputable def F_frame_Sum_L2 (i4 : Int) : Int × Int → Option ((Int × Int) ⊕ ((Int × Int) ⊕ (Int)))
  | (i7, i8) =>
    if (ilt i8 (2 : Int)) = true then
      if 0 ≤ (4 : Int) then
        if 0 ≤ (iand .u32 i7 (15 : Int)) ∧ (iand .u32 i7 (15 : Int)) < (ofN (xlen ([0, 274646895, 549293790, 820201905, 1098587580, 1361435347, 1640403810, 1905808397, 2197175160, 2460548119, 2722870694, 2987750089, 3280807620, 3553878443, 3811616794, 4084100981] : List Int))) then
          some (.inl ((ixor .u32 (ishr .u32 i7 (4 : Int)) (getI ([0, 274646895, 549293790, 820201905, 1098587580, 1361435347, 1640403810, 1905808397, 2197175160, 2460548119, 2722870694, 2987750089, 3280807620, 3553878443, 3811616794, 4084100981] : List Int) (toN (iand .u32 i7 (15 : Int))))), (iadd .i64 i8 (1 : Int))))
        else none
      else none
    else
      some (.inr (.inl (i7, (iadd .i64 i4 (1 : Int)))))
noncomputable def F_frame_Sum_L1 (s1 : List UInt8) : Int × Int → Option ((Int × Int) ⊕ (Int))
  | (i3, i4) =>
    if (ilt i4 (ofN (xlen s1))) = true then
      if 0 ≤ i4 ∧ i4 < (ofN (xlen s1)) then
        iter (F_frame_Sum_L2 i4) ((ixor .u32 i3 (iconv .u32 (getB s1 (toN i4)))), (0 : Int))
      else none
    else
      some (.inr (ixor .u32 (4294967295 : Int) i3))
noncomputable def F_frame_Sum (s1 : List UInt8) : Option (Int) :=
  iter (F_frame_Sum_L1 s1) ((4294967295 : Int), (0 : Int))

noncomputable def F_octet_Big_L1 (x1 : Int) : Int × (List UInt8) → Option ((Int × (List UInt8)) ⊕ ((List UInt8)))
  | (i1, s1) =>
    if (ile (0 : Int) i1) = true then
      if 0 ≤ (imul .i64 (8 : Int) i1) then
        if 0 ≤ (iconv .u8 (ishr .u64 x1 (imul .i64 (8 : Int) i1))) ∧ (iconv .u8 (ishr .u64 x1 (imul .i64 (8 : Int) i1))) < 256 then
          if ((((xlen s1) : Nat) : Int) + (((xlen (byteOf (iconv .u8 (ishr .u64 x1 (imul .i64 (8 : Int) i1))) :: ([] : List UInt8))) : Nat) : Int)) * ((1 : Nat) : Int) ≤ 140737488355328 then
            some (.inl ((isub .i64 i1 (1 : Int)), (cat s1 (byteOf (iconv .u8 (ishr .u64 x1 (imul .i64 (8 : Int) i1))) :: ([] : List UInt8)))))
          else none
        else none
      else none
    else
      some (.inr s1)
noncomputable def F_octet_Big (x1 : Int) (x2 : Int) : Option ((List UInt8)) :=
  if (ilt x2 (1 : Int)) = true then
    some ([] : List UInt8)
  else
    if (ilt (8 : Int) x2) = true then
      some ([] : List UInt8)
    else
      iter (F_octet_Big_L1 x1) ((isub .i64 x2 (1 : Int)), ([] : List UInt8))

noncomputable def F_frame_Put (s1 : List UInt8) : Option (Int × (List UInt8)) :=
  if (ilt (8192 : Int) (ofN (xlen s1))) = true then
    some ((14 : Int), ([] : List UInt8))
  else
    match F_varint_Put (iconv .u64 (ofN (xlen s1))) with
    | none => none
    | some t1 =>
      if ((((xlen t1) : Nat) : Int) + (((xlen s1) : Nat) : Int)) * ((1 : Nat) : Int) ≤ 140737488355328 then
        match F_frame_Sum (cat t1 s1) with
        | none => none
        | some y1 =>
          match F_octet_Big (iconv .u64 y1) (4 : Int) with
          | none => none
          | some t2 =>
            if ((((xlen (cat t1 s1)) : Nat) : Int) + (((xlen t2) : Nat) : Int)) * ((1 : Nat) : Int) ≤ 140737488355328 then
              some ((0 : Int), (cat (cat t1 s1) t2))
            else none
      else none

noncomputable def F_varint_Get_L1 (s1 : List UInt8) : Int × Int → Option ((Int × Int) ⊕ (Int × Int × Int))
  | (i1, i2) =>
    if (ilt i2 (ofN (xlen (lsub s1 0 (toN (imin (ofN (xlen s1)) (10 : Int))))))) = true then
      if 0 ≤ i2 ∧ i2 < (ofN (xlen (lsub s1 0 (toN (imin (ofN (xlen s1)) (10 : Int)))))) then
        if 0 ≤ (imul .i64 (7 : Int) i2) then
          if 0 ≤ (imul .i64 (7 : Int) i2) then
            if (ieq (ishr .u64 (ishl .u64 (iconv .u64 (irem (getB (lsub s1 0 (toN (imin (ofN (xlen s1)) (10 : Int)))) (toN i2)) (128 : Int))) (imul .i64 (7 : Int) i2)) (imul .i64 (7 : Int) i2)) (iconv .u64 (irem (getB (lsub s1 0 (toN (imin (ofN (xlen s1)) (10 : Int)))) (toN i2)) (128 : Int)))) = true then
              if 0 ≤ (imul .i64 (7 : Int) i2) then
                if (ile (128 : Int) (getB (lsub s1 0 (toN (imin (ofN (xlen s1)) (10 : Int)))) (toN i2))) = true then
                  some (.inl ((ior .u64 i1 (ishl .u64 (iconv .u64 (irem (getB (lsub s1 0 (toN (imin (ofN (xlen s1)) (10 : Int)))) (toN i2)) (128 : Int))) (imul .i64 (7 : Int) i2))), (iadd .i64 i2 (1 : Int))))
                else
                  if (ieq (getB (lsub s1 0 (toN (imin (ofN (xlen s1)) (10 : Int)))) (toN i2)) (0 : Int)) = true then
                    if (ilt (0 : Int) i2) = true then
                      some (.inr ((0 : Int), (0 : Int), (11 : Int)))
                    else
                      some (.inr ((ior .u64 i1 (ishl .u64 (iconv .u64 (irem (getB (lsub s1 0 (toN (imin (ofN (xlen s1)) (10 : Int)))) (toN i2)) (128 : Int))) (imul .i64 (7 : Int) i2))), (iadd .i64 i2 (1 : Int)), (0 : Int)))
                  else
                    some (.inr ((ior .u64 i1 (ishl .u64 (iconv .u64 (irem (getB (lsub s1 0 (toN (imin (ofN (xlen s1)) (10 : Int)))) (toN i2)) (128 : Int))) (imul .i64 (7 : Int) i2))), (iadd .i64 i2 (1 : Int)), (0 : Int)))
              else none
            else
              some (.inr ((0 : Int), (0 : Int), (14 : Int)))
          else none
        else none
      else none
    else
      if (ile (10 : Int) (ofN (xlen s1))) = true then
        some (.inr ((0 : Int), (0 : Int), (14 : Int)))
      else
        some (.inr ((0 : Int), (0 : Int), (10 : Int)))
noncomputable def F_varint_Get (s1 : List UInt8) : Option (Int × Int × Int) :=
  if 0 ≤ (imin (ofN (xlen s1)) (10 : Int)) ∧ (imin (ofN (xlen s1)) (10 : Int)) ≤ (ofN (xlen s1)) then
    iter (F_varint_Get_L1 s1) ((0 : Int), (0 : Int))
  else none

noncomputable def F_bytes_Equal (s1 : List UInt8) (s2 : List UInt8) : Option (Bool) :=
  some (seq s1 s2)

noncomputable def F_frame_Get (s1 : List UInt8) : Option (Int × Int × (List UInt8)) :=
  match F_varint_Get s1 with
  | none => none
  | some (y1, y2, y3) =>
    if (ieq y3 (0 : Int)) = true then
      if (ilt (8192 : Int) y1) = true then
        some ((0 : Int), (14 : Int), ([] : List UInt8))
      else
        if (ilt (ofN (xlen s1)) (iadd .i64 (iadd .i64 y2 (iconv .i64 y1)) (4 : Int))) = true then
          some ((0 : Int), (10 : Int), ([] : List UInt8))
        else
          if 0 ≤ (iadd .i64 y2 (iconv .i64 y1)) ∧ (iadd .i64 y2 (iconv .i64 y1)) ≤ (ofN (xlen s1)) then
            match F_frame_Sum (lsub s1 0 (toN (iadd .i64 y2 (iconv .i64 y1)))) with
            | none => none
            | some y4 =>
              match F_octet_Big (iconv .u64 y4) (4 : Int) with
              | none => none
              | some t1 =>
                if 0 ≤ (iadd .i64 y2 (iconv .i64 y1)) ∧ (iadd .i64 y2 (iconv .i64 y1)) ≤ (iadd .i64 (iadd .i64 y2 (iconv .i64 y1)) (4 : Int)) ∧ (iadd .i64 (iadd .i64 y2 (iconv .i64 y1)) (4 : Int)) ≤ (ofN (xlen s1)) then
                  match F_bytes_Equal t1 (lsub s1 (toN (iadd .i64 y2 (iconv .i64 y1))) (ndec (toN (iadd .i64 (iadd .i64 y2 (iconv .i64 y1)) (4 : Int))) (toN (iadd .i64 y2 (iconv .i64 y1))))) with
                  | none => none
                  | some c1 =>
                    if c1 = true then
                      if 0 ≤ y2 ∧ y2 ≤ (iadd .i64 y2 (iconv .i64 y1)) ∧ (iadd .i64 y2 (iconv .i64 y1)) ≤ (ofN (xlen s1)) then
                        match cloneB (lsub s1 (toN y2) (ndec (toN (iadd .i64 y2 (iconv .i64 y1))) (toN y2))) with
                        | none => none
                        | some t2 =>
                          some ((iadd .i64 (iadd .i64 y2 (iconv .i64 y1)) (4 : Int)), (0 : Int), t2)
                      else none
                    else
                      some ((0 : Int), (12 : Int), ([] : List UInt8))
                else none
          else none
    else
      some ((0 : Int), y3, ([] : List UInt8))

noncomputable def F_frame_records (s1 : List UInt8) (x1 : Int) : Option (Unit) :=
  some ()

noncomputable def F_frame_All_L1 (s1 : List UInt8) : Int × Int × Int × (List D) → Option ((Int × Int × Int × (List D)) ⊕ (Int × Int × (List D)))
  | (i1, i2, i3, r1) =>
    if (ilt i1 (ofN (xlen s1))) = true then
      if 0 ≤ i1 ∧ i1 ≤ (ofN (xlen s1)) then
        match F_frame_Get (lsub s1 (toN i1) (ndec (xlen s1) (toN i1))) with
        | none => none
        | some (y7, y8, t4) =>
          if (ieq y8 (0 : Int)) = true then
            if ((((xlen r1) : Nat) : Int) + (((xlen ([(D.s t4)] : List D)) : Nat) : Int)) * ((24 : Nat) : Int) ≤ 140737488355328 then
              some (.inl ((iadd .i64 i1 y7), y8, (iadd .i64 i1 y7), (cat r1 ([(D.s t4)] : List D))))
            else none
          else
            some (.inr (i3, y8, r1))
      else none
    else
      some (.inr (i3, i2, r1))
noncomputable def F_frame_All (s1 : List UInt8) : Option (Int × Int × (List D)) :=
  match F_frame_records s1 (0 : Int) with
  | none => none
  | some () =>
    iter (F_frame_All_L1 s1) ((0 : Int), (0 : Int), (0 : Int), ([] : List D))

noncomputable def F_tollbarlaw04_awake : Option (Bool) :=
  if 0 ≤ (97 : Int) ∧ (97 : Int) < 256 then
    if 0 ≤ (98 : Int) ∧ (98 : Int) < 256 then
      if 0 < (ofN (xlen (byteOf (97 : Int) :: (byteOf (98 : Int) :: ([] : List UInt8))))) then
        match F_frame_Put (byteOf (97 : Int) :: (byteOf (98 : Int) :: ([] : List UInt8))) with
        | none => none
        | some (y1, t1) =>
          match F_frame_Get t1 with
          | none => none
          | some (y2, y3, t2) =>
            match F_frame_All t1 with
            | none => none
            | some (y4, y5, q1) =>
              if 0 ≤ (49 : Int) ∧ (49 : Int) < 256 then
                if 0 ≤ (50 : Int) ∧ (50 : Int) < 256 then
                  if 0 ≤ (51 : Int) ∧ (51 : Int) < 256 then
                    if 0 ≤ (52 : Int) ∧ (52 : Int) < 256 then
                      if 0 ≤ (53 : Int) ∧ (53 : Int) < 256 then
                        if 0 ≤ (54 : Int) ∧ (54 : Int) < 256 then
                          if 0 ≤ (55 : Int) ∧ (55 : Int) < 256 then
                            if 0 ≤ (56 : Int) ∧ (56 : Int) < 256 then
                              if 0 ≤ (57 : Int) ∧ (57 : Int) < 256 then
                                if 0 < (ofN (xlen (byteOf (49 : Int) :: (byteOf (50 : Int) :: (byteOf (51 : Int) :: (byteOf (52 : Int) :: (byteOf (53 : Int) :: (byteOf (54 : Int) :: (byteOf (55 : Int) :: (byteOf (56 : Int) :: (byteOf (57 : Int) :: ([] : List UInt8)))))))))))) then
                                  match F_frame_Sum (byteOf (49 : Int) :: (byteOf (50 : Int) :: (byteOf (51 : Int) :: (byteOf (52 : Int) :: (byteOf (53 : Int) :: (byteOf (54 : Int) :: (byteOf (55 : Int) :: (byteOf (56 : Int) :: (byteOf (57 : Int) :: ([] : List UInt8)))))))))) with
                                  | none => none
                                  | some y6 =>
                                    if (ieq y6 (3808858755 : Int)) = true then
                                      if (ieq y1 (0 : Int)) = true then
                                        if (ieq (ofN (xlen t1)) (7 : Int)) = true then
                                          if (seq t2 ([97, 98] : List UInt8)) = true then
                                            if (ieq y2 (7 : Int)) = true then
                                              if (ieq y3 (0 : Int)) = true then
                                                if (ieq (ofN (xlen q1)) (1 : Int)) = true then
                                                  if (ieq y4 (7 : Int)) = true then
                                                    some (ieq y5 (0 : Int))
                                                  else
                                                    some false
                                                else
                                                  some false
                                              else
                                                some false
                                            else
                                              some false
                                          else
                                            some false
                                        else
                                          some false
                                      else
                                        some false
                                    else
                                      some false
                                else none
                              else none
                            else none
                          else none
                        else none
                      else none
                    else none
                  else none
                else none
              else none
      else none
    else none
  else none

noncomputable def B_tollbarref02_Put (self : Int → Option ((List UInt8))) (x1 : Int) : Option ((List UInt8)) :=
  if (ilt x1 (128 : Int)) = true then
    if 0 ≤ (iconv .u8 x1) ∧ (iconv .u8 x1) < 256 then
      some (byteOf (iconv .u8 x1) :: ([] : List UInt8))
    else none
  else
    if 0 ≤ (iadd .u8 (iconv .u8 (irem x1 (128 : Int))) (128 : Int)) ∧ (iadd .u8 (iconv .u8 (irem x1 (128 : Int))) (128 : Int)) < 256 then
      match self (iquo .u64 x1 (128 : Int)) with
      | none => none
      | some t1 =>
        if (xlen (byteOf (iadd .u8 (iconv .u8 (irem x1 (128 : Int))) (128 : Int)) :: ([] : List UInt8))) + (xlen t1) ≤ 9223372036854775807 then
          some (cat (byteOf (iadd .u8 (iconv .u8 (irem x1 (128 : Int))) (128 : Int)) :: ([] : List UInt8)) t1)
        else none
    else none
noncomputable def G_tollbarref02_Put : Nat → Int → Option ((List UInt8))
  | 0 => fun x1 => none
  | gn + 1 => fun x1 => B_tollbarref02_Put (G_tollbarref02_Put gn) x1
noncomputable def F_tollbarref02_Put (x1 : Int) : Option ((List UInt8)) := fixo fun gn => G_tollbarref02_Put gn x1

noncomputable def F_tollbarref04_Sum_L2 (i4 : Int) : Int × Int → Option ((Int × Int) ⊕ ((Int × Int) ⊕ (Int)))
  | (i7, i8) =>
    if (ilt i8 (8 : Int)) = true then
      if (ieq (irem i7 (2 : Int)) (1 : Int)) = true then
        some (.inl ((ixor .u32 (iquo .u32 i7 (2 : Int)) (2197175160 : Int)), (iadd .i64 i8 (1 : Int))))
      else
        some (.inl ((iquo .u32 i7 (2 : Int)), (iadd .i64 i8 (1 : Int))))
    else
      some (.inr (.inl (i7, (iadd .i64 i4 (1 : Int)))))
noncomputable def F_tollbarref04_Sum_L1 (s1 : List UInt8) : Int × Int → Option ((Int × Int) ⊕ (Int))
  | (i3, i4) =>
    if (ilt i4 (ofN (xlen s1))) = true then
      if 0 ≤ i4 ∧ i4 < (ofN (xlen s1)) then
        iter (F_tollbarref04_Sum_L2 i4) ((ixor .u32 i3 (iconv .u32 (getB s1 (toN i4)))), (0 : Int))
      else none
    else
      some (.inr (isub .u32 (4294967295 : Int) i3))
noncomputable def F_tollbarref04_Sum (s1 : List UInt8) : Option (Int) :=
  iter (F_tollbarref04_Sum_L1 s1) ((4294967295 : Int), (0 : Int))

noncomputable def F_tollbarref01_one (x1 : Int) : Option ((List UInt8)) :=
  if 0 ≤ (iconv .u8 (irem x1 (256 : Int))) ∧ (iconv .u8 (irem x1 (256 : Int))) < 256 then
    some (byteOf (iconv .u8 (irem x1 (256 : Int))) :: ([] : List UInt8))
  else none

noncomputable def F_tollbarref01_Big_L1 (x2 : Int) : Int × (List UInt8) × Int → Option ((Int × (List UInt8) × Int) ⊕ ((List UInt8)))
  | (i1, s1, i2) =>
    if (ilt i2 x2) = true then
      if (ile x2 (8 : Int)) = true then
        match F_tollbarref01_one i1 with
        | none => none
        | some t3 =>
          if (xlen t3) + (xlen s1) ≤ 9223372036854775807 then
            some (.inl ((iquo .u64 i1 (256 : Int)), (cat t3 s1), (iadd .i64 i2 (1 : Int))))
          else none
      else
        some (.inr s1)
    else
      some (.inr s1)
noncomputable def F_tollbarref01_Big (x1 : Int) (x2 : Int) : Option ((List UInt8)) :=
  iter (F_tollbarref01_Big_L1 x2) (x1, ([] : List UInt8), (0 : Int))

noncomputable def F_tollbarref04_Put (s1 : List UInt8) : Option ((List UInt8) × Int) :=
  if (ilt (8192 : Int) (ofN (xlen s1))) = true then
    some (([] : List UInt8), (14 : Int))
  else
    match F_tollbarref02_Put (iconv .u64 (ofN (xlen s1))) with
    | none => none
    | some t1 =>
      if (xlen t1) + (xlen s1) ≤ 9223372036854775807 then
        match F_tollbarref04_Sum (cat t1 s1) with
        | none => none
        | some y1 =>
          match F_tollbarref01_Big (iconv .u64 y1) (4 : Int) with
          | none => none
          | some t2 =>
            if (xlen (cat t1 s1)) + (xlen t2) ≤ 9223372036854775807 then
              some ((cat (cat t1 s1) t2), (0 : Int))
            else none
      else none

noncomputable def F_tollbarref02_Get_L2 (s1 : List UInt8) (i1 : Int) : Int × Int → Option ((Int × Int) ⊕ (Int × Int × Int))
  | (i2, i3) =>
    if (ile (0 : Int) i3) = true then
      if 0 ≤ i3 ∧ i3 < (ofN (xlen s1)) then
        if (ilt (144115188075855871 : Int) i2) = true then
          some (.inr ((0 : Int), (0 : Int), (14 : Int)))
        else
          some (.inl ((iadd .u64 (imul .u64 (128 : Int) i2) (iconv .u64 (irem (getB s1 (toN i3)) (128 : Int)))), (isub .i64 i3 (1 : Int))))
      else none
    else
      if (ilt (0 : Int) i1) = true then
        if 0 ≤ i1 ∧ i1 < (ofN (xlen s1)) then
          if (ieq (getB s1 (toN i1)) (0 : Int)) = true then
            some (.inr ((0 : Int), (0 : Int), (11 : Int)))
          else
            some (.inr (i2, (iadd .i64 i1 (1 : Int)), (0 : Int)))
        else none
      else
        some (.inr (i2, (iadd .i64 i1 (1 : Int)), (0 : Int)))
noncomputable def F_tollbarref02_Get_L3 (s1 : List UInt8) (i1 : Int) : Int × Int → Option ((Int × Int) ⊕ (Int × Int × Int))
  | (i4, i5) =>
    if (ile (0 : Int) i5) = true then
      if 0 ≤ i5 ∧ i5 < (ofN (xlen s1)) then
        if (ilt (144115188075855871 : Int) i4) = true then
          some (.inr ((0 : Int), (0 : Int), (14 : Int)))
        else
          some (.inl ((iadd .u64 (imul .u64 (128 : Int) i4) (iconv .u64 (irem (getB s1 (toN i5)) (128 : Int)))), (isub .i64 i5 (1 : Int))))
      else none
    else
      if (ilt (0 : Int) i1) = true then
        if 0 ≤ i1 ∧ i1 < (ofN (xlen s1)) then
          if (ieq (getB s1 (toN i1)) (0 : Int)) = true then
            some (.inr ((0 : Int), (0 : Int), (11 : Int)))
          else
            some (.inr (i4, (iadd .i64 i1 (1 : Int)), (0 : Int)))
        else none
      else
        some (.inr (i4, (iadd .i64 i1 (1 : Int)), (0 : Int)))
noncomputable def F_tollbarref02_Get_L4 (s1 : List UInt8) (i1 : Int) : Int × Int → Option ((Int × Int) ⊕ (Int × Int × Int))
  | (i6, i7) =>
    if (ile (0 : Int) i7) = true then
      if 0 ≤ i7 ∧ i7 < (ofN (xlen s1)) then
        if (ilt (144115188075855871 : Int) i6) = true then
          some (.inr ((0 : Int), (0 : Int), (14 : Int)))
        else
          some (.inl ((iadd .u64 (imul .u64 (128 : Int) i6) (iconv .u64 (irem (getB s1 (toN i7)) (128 : Int)))), (isub .i64 i7 (1 : Int))))
      else none
    else
      if (ilt (0 : Int) i1) = true then
        if 0 ≤ i1 ∧ i1 < (ofN (xlen s1)) then
          if (ieq (getB s1 (toN i1)) (0 : Int)) = true then
            some (.inr ((0 : Int), (0 : Int), (11 : Int)))
          else
            some (.inr (i6, (iadd .i64 i1 (1 : Int)), (0 : Int)))
        else none
      else
        some (.inr (i6, (iadd .i64 i1 (1 : Int)), (0 : Int)))
noncomputable def F_tollbarref02_Get_L1 (s1 : List UInt8) : Int → Option ((Int) ⊕ (Int × Int × Int))
  | i1 =>
    if (ilt i1 (ofN (xlen s1))) = true then
      if (ilt i1 (10 : Int)) = true then
        if 0 ≤ i1 ∧ i1 < (ofN (xlen s1)) then
          if (ilt (127 : Int) (getB s1 (toN i1))) = true then
            some (.inl (iadd .i64 i1 (1 : Int)))
          else
            if (ieq i1 (10 : Int)) = true then
              some (.inr ((0 : Int), (0 : Int), (14 : Int)))
            else
              if (ieq i1 (ofN (xlen s1))) = true then
                some (.inr ((0 : Int), (0 : Int), (10 : Int)))
              else
                Option.map (fun t => (.inr t)) (iter (F_tollbarref02_Get_L2 s1 i1) ((0 : Int), i1))
        else none
      else
        if (ieq i1 (10 : Int)) = true then
          some (.inr ((0 : Int), (0 : Int), (14 : Int)))
        else
          if (ieq i1 (ofN (xlen s1))) = true then
            some (.inr ((0 : Int), (0 : Int), (10 : Int)))
          else
            Option.map (fun t => (.inr t)) (iter (F_tollbarref02_Get_L3 s1 i1) ((0 : Int), i1))
    else
      if (ieq i1 (10 : Int)) = true then
        some (.inr ((0 : Int), (0 : Int), (14 : Int)))
      else
        if (ieq i1 (ofN (xlen s1))) = true then
          some (.inr ((0 : Int), (0 : Int), (10 : Int)))
        else
          Option.map (fun t => (.inr t)) (iter (F_tollbarref02_Get_L4 s1 i1) ((0 : Int), i1))
noncomputable def F_tollbarref02_Get (s1 : List UInt8) : Option (Int × Int × Int) :=
  iter (F_tollbarref02_Get_L1 s1) (0 : Int)

noncomputable def F_tollbarref04_Get (s1 : List UInt8) : Option ((List UInt8) × Int × Int) :=
  match F_tollbarref02_Get s1 with
  | none => none
  | some (y1, y2, y3) =>
    if (ieq y3 (0 : Int)) = true then
      if (ilt (8192 : Int) y1) = true then
        some (([] : List UInt8), (0 : Int), (14 : Int))
      else
        if (ilt (ofN (xlen s1)) (iadd .i64 (iadd .i64 y2 (iconv .i64 y1)) (4 : Int))) = true then
          some (([] : List UInt8), (0 : Int), (10 : Int))
        else
          if 0 ≤ (iadd .i64 y2 (iconv .i64 y1)) ∧ (iadd .i64 y2 (iconv .i64 y1)) ≤ (ofN (xlen s1)) then
            match F_tollbarref04_Sum (lsub s1 0 (toN (iadd .i64 y2 (iconv .i64 y1)))) with
            | none => none
            | some y4 =>
              match F_tollbarref01_Big (iconv .u64 y4) (4 : Int) with
              | none => none
              | some t1 =>
                if 0 ≤ (iadd .i64 y2 (iconv .i64 y1)) ∧ (iadd .i64 y2 (iconv .i64 y1)) ≤ (iadd .i64 (iadd .i64 y2 (iconv .i64 y1)) (4 : Int)) ∧ (iadd .i64 (iadd .i64 y2 (iconv .i64 y1)) (4 : Int)) ≤ (ofN (xlen s1)) then
                  if (seq t1 (lsub s1 (toN (iadd .i64 y2 (iconv .i64 y1))) (ndec (toN (iadd .i64 (iadd .i64 y2 (iconv .i64 y1)) (4 : Int))) (toN (iadd .i64 y2 (iconv .i64 y1)))))) = true then
                    if 0 ≤ y2 ∧ y2 ≤ (iadd .i64 y2 (iconv .i64 y1)) ∧ (iadd .i64 y2 (iconv .i64 y1)) ≤ (ofN (xlen s1)) then
                      some ((lsub s1 (toN y2) (ndec (toN (iadd .i64 y2 (iconv .i64 y1))) (toN y2))), (iadd .i64 (iadd .i64 y2 (iconv .i64 y1)) (4 : Int)), (0 : Int))
                    else none
                  else
                    some (([] : List UInt8), (0 : Int), (12 : Int))
                else none
          else none
    else
      some (([] : List UInt8), (0 : Int), y3)

noncomputable def F_tollbarlaw04_FrameTells (s1 : List UInt8) : Option (Bool) :=
  match F_tollbarlaw04_awake with
  | none => none
  | some c1 =>
    if c1 = true then
      if (ilt (9000 : Int) (ofN (xlen s1))) = true then
        some true
      else
        match F_frame_Put s1 with
        | none => none
        | some (y1, t1) =>
          match F_tollbarref04_Put s1 with
          | none => none
          | some (t2, y2) =>
            match F_frame_Get s1 with
            | none => none
            | some (y3, y4, t3) =>
              match F_tollbarref04_Get s1 with
              | none => none
              | some (t4, y5, y6) =>
                match F_frame_Sum s1 with
                | none => none
                | some y7 =>
                  match F_tollbarref04_Sum s1 with
                  | none => none
                  | some y8 =>
                    if (ieq y7 y8) = true then
                      if (seq t1 t2) = true then
                        if (ieq y1 y2) = true then
                          if (seq t3 t4) = true then
                            if (ieq y3 y5) = true then
                              some (ieq y4 y6)
                            else
                              some false
                          else
                            some false
                        else
                          some false
                      else
                        some false
                    else
                      some false
    else
      some false

noncomputable def F_tollbarref04_All_L1 (s1 : List UInt8) : Int × (List D) → Option ((Int × (List D)) ⊕ (Int × Int × (List D)))
  | (i1, r1) =>
    if (ilt i1 (ofN (xlen s1))) = true then
      if 0 ≤ i1 ∧ i1 ≤ (ofN (xlen s1)) then
        match F_tollbarref04_Get (lsub s1 (toN i1) (ndec (xlen s1) (toN i1))) with
        | none => none
        | some (t4, y7, y8) =>
          if (ieq y8 (0 : Int)) = true then
            if ((((xlen r1) : Nat) : Int) + (((xlen ([(D.s t4)] : List D)) : Nat) : Int)) * ((16 : Nat) : Int) ≤ 140737488355328 then
              some (.inl ((iadd .i64 i1 y7), (cat r1 ([(D.s t4)] : List D))))
            else none
          else
            some (.inr (i1, y8, r1))
      else none
    else
      some (.inr (i1, (0 : Int), r1))
noncomputable def F_tollbarref04_All (s1 : List UInt8) : Option (Int × Int × (List D)) :=
  iter (F_tollbarref04_All_L1 s1) ((0 : Int), ([] : List D))

noncomputable def F_tollbarlaw04_texts_L1 (r1 : List D) : Int × (List D) → Option ((Int × (List D)) ⊕ ((List D)))
  | (i1, r2) =>
    if (ilt i1 (ofN (xlen r1))) = true then
      if 0 ≤ i1 ∧ i1 < (ofN (xlen r1)) then
        if ((((xlen r2) : Nat) : Int) + (((xlen ([(D.s (D.toS (getD r1 (toN i1))))] : List D)) : Nat) : Int)) * ((16 : Nat) : Int) ≤ 140737488355328 then
          some (.inl ((iadd .i64 i1 (1 : Int)), (cat r2 ([(D.s (D.toS (getD r1 (toN i1))))] : List D))))
        else none
      else none
    else
      some (.inr r2)
noncomputable def F_tollbarlaw04_texts (r1 : List D) : Option ((List D)) :=
  iter (F_tollbarlaw04_texts_L1 r1) ((0 : Int), ([] : List D))

noncomputable def F_tollbarref04_Same_L1 (r1 : List D) (r2 : List D) : Int → Option ((Int) ⊕ (Bool))
  | i1 =>
    if (ilt i1 (ofN (xlen r1))) = true then
      if 0 ≤ i1 ∧ i1 < (ofN (xlen r1)) then
        if 0 ≤ i1 ∧ i1 < (ofN (xlen r2)) then
          if (seq (D.toS (getD r1 (toN i1))) (D.toS (getD r2 (toN i1)))) = true then
            some (.inl (iadd .i64 i1 (1 : Int)))
          else
            some (.inr false)
        else none
      else none
    else
      some (.inr true)
noncomputable def F_tollbarref04_Same (r1 : List D) (r2 : List D) : Option (Bool) :=
  if (ieq (ofN (xlen r1)) (ofN (xlen r2))) = true then
    iter (F_tollbarref04_Same_L1 r1 r2) (0 : Int)
  else
    some false

noncomputable def F_tollbarlaw04_FrameAlls (s1 : List UInt8) : Option (Bool) :=
  match F_tollbarlaw04_awake with
  | none => none
  | some c1 =>
    if c1 = true then
      if (ilt (2000 : Int) (ofN (xlen s1))) = true then
        some true
      else
        match F_frame_All s1 with
        | none => none
        | some (y1, y2, q1) =>
          match F_tollbarref04_All s1 with
          | none => none
          | some (y3, y4, q2) =>
            match F_tollbarlaw04_texts q1 with
            | none => none
            | some q3 =>
              match F_tollbarref04_Same q3 q2 with
              | none => none
              | some c2 =>
                if c2 = true then
                  if (ieq y1 y3) = true then
                    some (ieq y2 y4)
                  else
                    some false
                else
                  some false
    else
      some false

noncomputable def F_tollbarlaw04_FrameBack_L2 (l1 : List Int) (x1 : Int) (s1 : List UInt8) (r1 : List D) : Int × Int × Int → Option ((Int × Int × Int) ⊕ (Bool))
  | (i2, i3, i4) =>
    if (ilt i4 (ofN (xlen l1))) = true then
      if 0 ≤ i4 ∧ i4 < (ofN (xlen l1)) then
        if (ile (getI l1 (toN i4)) (irem (iconv .i64 x1) (iadd .i64 (ofN (xlen s1)) (1 : Int)))) = true then
          if 0 ≤ i4 ∧ i4 < (ofN (xlen l1)) then
            some (.inl ((iadd .i64 i4 (1 : Int)), (getI l1 (toN i4)), (iadd .i64 i4 (1 : Int))))
          else none
        else
          if 0 ≤ (irem (iconv .i64 x1) (iadd .i64 (ofN (xlen s1)) (1 : Int))) ∧ (irem (iconv .i64 x1) (iadd .i64 (ofN (xlen s1)) (1 : Int))) ≤ (ofN (xlen s1)) then
            match F_frame_All (lsub s1 0 (toN (irem (iconv .i64 x1) (iadd .i64 (ofN (xlen s1)) (1 : Int))))) with
            | none => none
            | some (y7, y8, q4) =>
              match F_tollbarlaw04_texts q4 with
              | none => none
              | some q5 =>
                if 0 ≤ i2 ∧ i2 ≤ (ofN (xlen r1)) then
                  match F_tollbarlaw04_texts (lsub r1 0 (toN i2)) with
                  | none => none
                  | some q6 =>
                    match F_tollbarref04_Same q5 q6 with
                    | none => none
                    | some c3 =>
                      if c3 = true then
                        if (ieq y7 i3) = true then
                          if (beq2 (ieq y8 (0 : Int)) (ieq i3 (irem (iconv .i64 x1) (iadd .i64 (ofN (xlen s1)) (1 : Int))))) = true then
                            if (ieq y8 (0 : Int)) = true then
                              some (.inr true)
                            else
                              some (.inr (ieq y8 (10 : Int)))
                          else
                            some (.inr false)
                        else
                          some (.inr false)
                      else
                        some (.inr false)
                else none
          else none
      else none
    else
      if 0 ≤ (irem (iconv .i64 x1) (iadd .i64 (ofN (xlen s1)) (1 : Int))) ∧ (irem (iconv .i64 x1) (iadd .i64 (ofN (xlen s1)) (1 : Int))) ≤ (ofN (xlen s1)) then
        match F_frame_All (lsub s1 0 (toN (irem (iconv .i64 x1) (iadd .i64 (ofN (xlen s1)) (1 : Int))))) with
        | none => none
        | some (y9, y10, q7) =>
          match F_tollbarlaw04_texts q7 with
          | none => none
          | some q8 =>
            if 0 ≤ i2 ∧ i2 ≤ (ofN (xlen r1)) then
              match F_tollbarlaw04_texts (lsub r1 0 (toN i2)) with
              | none => none
              | some q9 =>
                match F_tollbarref04_Same q8 q9 with
                | none => none
                | some c4 =>
                  if c4 = true then
                    if (ieq y9 i3) = true then
                      if (beq2 (ieq y10 (0 : Int)) (ieq i3 (irem (iconv .i64 x1) (iadd .i64 (ofN (xlen s1)) (1 : Int))))) = true then
                        if (ieq y10 (0 : Int)) = true then
                          some (.inr true)
                        else
                          some (.inr (ieq y10 (10 : Int)))
                      else
                        some (.inr false)
                    else
                      some (.inr false)
                  else
                    some (.inr false)
            else none
      else none
noncomputable def F_tollbarlaw04_FrameBack_L1 (r1 : List D) (x1 : Int) : Int × (List UInt8) × (List Int) → Option ((Int × (List UInt8) × (List Int)) ⊕ (Bool))
  | (i1, s1, l1) =>
    if (ilt i1 (ofN (xlen r1))) = true then
      if 0 ≤ i1 ∧ i1 < (ofN (xlen r1)) then
        match F_frame_Put (D.toS (getD r1 (toN i1))) with
        | none => none
        | some (y4, t4) =>
          if 0 ≤ i1 ∧ i1 < (ofN (xlen r1)) then
            if (beq2 (ieq y4 (0 : Int)) (ile (ofN (xlen (D.toS (getD r1 (toN i1))))) (8192 : Int))) = true then
              if 0 ≤ i1 ∧ i1 < (ofN (xlen r1)) then
                if (ilt (300 : Int) (ofN (xlen (D.toS (getD r1 (toN i1)))))) = true then
                  some (.inr true)
                else
                  if ((((xlen s1) : Nat) : Int) + (((xlen t4) : Nat) : Int)) * ((1 : Nat) : Int) ≤ 140737488355328 then
                    if ((((xlen l1) : Nat) : Int) + (((xlen ([(ofN (xlen (cat s1 t4)))] : List Int)) : Nat) : Int)) * ((8 : Nat) : Int) ≤ 140737488355328 then
                      some (.inl ((iadd .i64 i1 (1 : Int)), (cat s1 t4), (cat l1 ([(ofN (xlen (cat s1 t4)))] : List Int))))
                    else none
                  else none
              else none
            else
              some (.inr false)
          else none
      else none
    else
      match F_frame_All s1 with
      | none => none
      | some (y5, y6, q1) =>
        match F_tollbarlaw04_texts q1 with
        | none => none
        | some q2 =>
          match F_tollbarlaw04_texts r1 with
          | none => none
          | some q3 =>
            match F_tollbarref04_Same q2 q3 with
            | none => none
            | some c2 =>
              if c2 = true then
                if (ieq y5 (ofN (xlen s1))) = true then
                  if (ieq y6 (0 : Int)) = true then
                    if (iadd .i64 (ofN (xlen s1)) (1 : Int)) ≠ 0 then
                      Option.map (fun t => (.inr t)) (iter (F_tollbarlaw04_FrameBack_L2 l1 x1 s1 r1) ((0 : Int), (0 : Int), (0 : Int)))
                    else none
                  else
                    some (.inr false)
                else
                  some (.inr false)
              else
                some (.inr false)
noncomputable def F_tollbarlaw04_FrameBack (r1 : List D) (x1 : Int) : Option (Bool) :=
  match F_tollbarlaw04_awake with
  | none => none
  | some c1 =>
    if c1 = true then
      if (ilt (20 : Int) (ofN (xlen r1))) = true then
        some true
      else
        iter (F_tollbarlaw04_FrameBack_L1 r1 x1) ((0 : Int), ([] : List UInt8), ([] : List Int))
    else
      some false

noncomputable def F_tollbarlaw04_FrameTurns_L2 (x1 : Int) (s1 : List UInt8) (i4 : Int) (s2 : List UInt8) (i3 : Int) : Int × Int → Option ((Int × Int) ⊕ ((Int × Bool × Int × (List UInt8)) ⊕ (Bool)))
  | (i7, i8) =>
    if (ilt i8 (irem (iadd .i64 (iadd .i64 (8 : Int) (irem (iconv .i64 x1) (iadd .i64 (imul .i64 (8 : Int) (ofN (xlen s1))) (1 : Int)))) i4) (8 : Int))) = true then
      some (.inl ((imul .u8 i7 (2 : Int)), (iadd .i64 i8 (1 : Int))))
    else
      if 0 ≤ (iquo .i64 (iadd .i64 (iadd .i64 (8 : Int) (irem (iconv .i64 x1) (iadd .i64 (imul .i64 (8 : Int) (ofN (xlen s1))) (1 : Int)))) i4) (8 : Int)) ∧ (iquo .i64 (iadd .i64 (iadd .i64 (8 : Int) (irem (iconv .i64 x1) (iadd .i64 (imul .i64 (8 : Int) (ofN (xlen s1))) (1 : Int)))) i4) (8 : Int)) < (ofN (xlen s2)) then
        if 0 ≤ (iquo .i64 (iadd .i64 (iadd .i64 (8 : Int) (irem (iconv .i64 x1) (iadd .i64 (imul .i64 (8 : Int) (ofN (xlen s1))) (1 : Int)))) i4) (8 : Int)) ∧ (iquo .i64 (iadd .i64 (iadd .i64 (8 : Int) (irem (iconv .i64 x1) (iadd .i64 (imul .i64 (8 : Int) (ofN (xlen s1))) (1 : Int)))) i4) (8 : Int)) < (ofN (xlen s2)) then
          if 0 ≤ (ixor .u8 (getB s2 (toN (iquo .i64 (iadd .i64 (iadd .i64 (8 : Int) (irem (iconv .i64 x1) (iadd .i64 (imul .i64 (8 : Int) (ofN (xlen s1))) (1 : Int)))) i4) (8 : Int)))) i7) ∧ (ixor .u8 (getB s2 (toN (iquo .i64 (iadd .i64 (iadd .i64 (8 : Int) (irem (iconv .i64 x1) (iadd .i64 (imul .i64 (8 : Int) (ofN (xlen s1))) (1 : Int)))) i4) (8 : Int)))) i7) < 256 then
            some (.inr (.inl ((iquo .u32 i3 (2 : Int)), true, (iadd .i64 i4 (1 : Int)), (setB s2 (toN (iquo .i64 (iadd .i64 (iadd .i64 (8 : Int) (irem (iconv .i64 x1) (iadd .i64 (imul .i64 (8 : Int) (ofN (xlen s1))) (1 : Int)))) i4) (8 : Int))) (ixor .u8 (getB s2 (toN (iquo .i64 (iadd .i64 (iadd .i64 (8 : Int) (irem (iconv .i64 x1) (iadd .i64 (imul .i64 (8 : Int) (ofN (xlen s1))) (1 : Int)))) i4) (8 : Int)))) i7)))))
          else none
        else none
      else none
noncomputable def F_tollbarlaw04_FrameTurns_L1 (x1 : Int) (s1 : List UInt8) : Int × Bool × Int × (List UInt8) → Option ((Int × Bool × Int × (List UInt8)) ⊕ (Bool))
  | (i3, b1, i4, s2) =>
    if (ilt i4 (32 : Int)) = true then
      if (ieq (irem i3 (2 : Int)) (1 : Int)) = true then
        if (ilt (iadd .i64 (iadd .i64 (8 : Int) (irem (iconv .i64 x1) (iadd .i64 (imul .i64 (8 : Int) (ofN (xlen s1))) (1 : Int)))) i4) (isub .i64 (imul .i64 (8 : Int) (ofN (xlen s2))) (32 : Int))) = true then
          iter (F_tollbarlaw04_FrameTurns_L2 x1 s1 i4 s2 i3) ((1 : Int), (0 : Int))
        else
          some (.inl ((iquo .u32 i3 (2 : Int)), b1, (iadd .i64 i4 (1 : Int)), s2))
      else
        some (.inl ((iquo .u32 i3 (2 : Int)), b1, (iadd .i64 i4 (1 : Int)), s2))
    else
      if b1 = true then
        match F_frame_Get s2 with
        | none => none
        | some (y2, y3, t2) =>
          match F_frame_All s2 with
          | none => none
          | some (y4, y5, q1) =>
            if (ieq (ofN (xlen t2)) (0 : Int)) = true then
              if (ieq y2 (0 : Int)) = true then
                if (ieq y3 (12 : Int)) = true then
                  if (ieq (ofN (xlen q1)) (0 : Int)) = true then
                    if (ieq y4 (0 : Int)) = true then
                      some (.inr (ieq y5 (12 : Int)))
                    else
                      some (.inr false)
                  else
                    some (.inr false)
                else
                  some (.inr false)
              else
                some (.inr false)
            else
              some (.inr false)
      else
        some (.inr true)
noncomputable def F_tollbarlaw04_FrameTurns (s1 : List UInt8) (x1 : Int) (x2 : Int) : Option (Bool) :=
  match F_tollbarlaw04_awake with
  | none => none
  | some c1 =>
    if c1 = true then
      if (ilt (100 : Int) (ofN (xlen s1))) = true then
        some true
      else
        if (ieq x2 (0 : Int)) = true then
          some true
        else
          match F_frame_Put s1 with
          | none => none
          | some (y1, t1) =>
            if (iadd .i64 (imul .i64 (8 : Int) (ofN (xlen s1))) (1 : Int)) ≠ 0 then
              iter (F_tollbarlaw04_FrameTurns_L1 x1 s1) (x2, false, (0 : Int), t1)
            else none
    else
      some false

noncomputable def F_tollbarlaw04_FrameXors_L1 (s1 : List UInt8) (s2 : List UInt8) (s3 : List UInt8) : Int × (List UInt8) → Option ((Int × (List UInt8)) ⊕ (Bool))
  | (i1, s4) =>
    if (ilt i1 (imin (imin (ofN (xlen s1)) (ofN (xlen s2))) (ofN (xlen s3)))) = true then
      if 0 ≤ i1 ∧ i1 < (ofN (xlen s1)) then
        if 0 ≤ i1 ∧ i1 < (ofN (xlen s2)) then
          if 0 ≤ i1 ∧ i1 < (ofN (xlen s3)) then
            if 0 ≤ i1 ∧ i1 < (ofN (xlen s4)) then
              if 0 ≤ (ixor .u8 (ixor .u8 (getB s1 (toN i1)) (getB s2 (toN i1))) (getB s3 (toN i1))) ∧ (ixor .u8 (ixor .u8 (getB s1 (toN i1)) (getB s2 (toN i1))) (getB s3 (toN i1))) < 256 then
                some (.inl ((iadd .i64 i1 (1 : Int)), (setB s4 (toN i1) (ixor .u8 (ixor .u8 (getB s1 (toN i1)) (getB s2 (toN i1))) (getB s3 (toN i1))))))
              else none
            else none
          else none
        else none
      else none
    else
      match F_frame_Sum s4 with
      | none => none
      | some y1 =>
        if 0 ≤ (imin (imin (ofN (xlen s1)) (ofN (xlen s2))) (ofN (xlen s3))) ∧ (imin (imin (ofN (xlen s1)) (ofN (xlen s2))) (ofN (xlen s3))) ≤ (ofN (xlen s1)) then
          match F_frame_Sum (lsub s1 0 (toN (imin (imin (ofN (xlen s1)) (ofN (xlen s2))) (ofN (xlen s3))))) with
          | none => none
          | some y2 =>
            if 0 ≤ (imin (imin (ofN (xlen s1)) (ofN (xlen s2))) (ofN (xlen s3))) ∧ (imin (imin (ofN (xlen s1)) (ofN (xlen s2))) (ofN (xlen s3))) ≤ (ofN (xlen s2)) then
              match F_frame_Sum (lsub s2 0 (toN (imin (imin (ofN (xlen s1)) (ofN (xlen s2))) (ofN (xlen s3))))) with
              | none => none
              | some y3 =>
                if 0 ≤ (imin (imin (ofN (xlen s1)) (ofN (xlen s2))) (ofN (xlen s3))) ∧ (imin (imin (ofN (xlen s1)) (ofN (xlen s2))) (ofN (xlen s3))) ≤ (ofN (xlen s3)) then
                  match F_frame_Sum (lsub s3 0 (toN (imin (imin (ofN (xlen s1)) (ofN (xlen s2))) (ofN (xlen s3))))) with
                  | none => none
                  | some y4 =>
                    if (ieq y1 (ixor .u32 (ixor .u32 y2 y3) y4)) = true then
                      match F_frame_Sum ([] : List UInt8) with
                      | none => none
                      | some y5 =>
                        some (.inr (ieq y5 (0 : Int)))
                    else
                      some (.inr false)
                else none
            else none
        else none
noncomputable def F_tollbarlaw04_FrameXors (s1 : List UInt8) (s2 : List UInt8) (s3 : List UInt8) : Option (Bool) :=
  match F_tollbarlaw04_awake with
  | none => none
  | some c1 =>
    if c1 = true then
      if (ilt (500 : Int) (imin (imin (ofN (xlen s1)) (ofN (xlen s2))) (ofN (xlen s3)))) = true then
        some true
      else
        if 0 ≤ (imin (imin (ofN (xlen s1)) (ofN (xlen s2))) (ofN (xlen s3))) ∧ (imin (imin (ofN (xlen s1)) (ofN (xlen s2))) (ofN (xlen s3))) ≤ (imin (imin (ofN (xlen s1)) (ofN (xlen s2))) (ofN (xlen s3))) ∧ (imin (imin (ofN (xlen s1)) (ofN (xlen s2))) (ofN (xlen s3))) * ((1 : Nat) : Int) ≤ 140737488355328 ∧ (imin (imin (ofN (xlen s1)) (ofN (xlen s2))) (ofN (xlen s3))) ≤ 9223372036854775807 then
          iter (F_tollbarlaw04_FrameXors_L1 s1 s2 s3) ((0 : Int), (@lrep UInt8 (toN (imin (imin (ofN (xlen s1)) (ofN (xlen s2))) (ofN (xlen s3)))) (0 : UInt8)))
        else none
    else
      some false

noncomputable def F_tollbarlaw04_FrameBehind (s1 : List UInt8) (s2 : List UInt8) (s3 : List UInt8) : Option (Bool) :=
  match F_tollbarlaw04_awake with
  | none => none
  | some c1 =>
    if c1 = true then
      if (ilt (300 : Int) (ofN (xlen s1))) = true then
        some true
      else
        if (ilt (300 : Int) (ofN (xlen s2))) = true then
          some true
        else
          if (ilt (300 : Int) (ofN (xlen s3))) = true then
            some true
          else
            match F_frame_Put s1 with
            | none => none
            | some (y1, t1) =>
              match F_frame_Put s2 with
              | none => none
              | some (y2, t2) =>
                if (((xlen t1) : Nat) : Int) * ((1 : Nat) : Int) ≤ 140737488355328 then
                  if ((((xlen t1) : Nat) : Int) + (((xlen t2) : Nat) : Int)) * ((1 : Nat) : Int) ≤ 140737488355328 then
                    if ((((xlen (cat t1 t2)) : Nat) : Int) + (((xlen s3) : Nat) : Int)) * ((1 : Nat) : Int) ≤ 140737488355328 then
                      match F_frame_Get (cat (cat t1 t2) s3) with
                      | none => none
                      | some (y3, y4, t3) =>
                        if (ieq y4 (0 : Int)) = true then
                          if (ieq y3 (ofN (xlen t1))) = true then
                            if (seq t3 s1) = true then
                              if 0 ≤ y3 ∧ y3 ≤ (ofN (xlen (cat (cat t1 t2) s3))) then
                                match F_frame_Get (lsub (cat (cat t1 t2) s3) (toN y3) (ndec (xlen (cat (cat t1 t2) s3)) (toN y3))) with
                                | none => none
                                | some (y5, y6, t4) =>
                                  match F_frame_All (cat (cat t1 t2) s3) with
                                  | none => none
                                  | some (y7, y8, q1) =>
                                    if (ieq y6 (0 : Int)) = true then
                                      if (ieq y5 (ofN (xlen t2))) = true then
                                        if (seq t4 s2) = true then
                                          if (ile (2 : Int) (ofN (xlen q1))) = true then
                                            some (ile (iadd .i64 y3 y5) y7)
                                          else
                                            some false
                                        else
                                          some false
                                      else
                                        some false
                                    else
                                      some false
                              else none
                            else
                              some false
                          else
                            some false
                        else
                          some false
                    else none
                  else none
                else none
    else
      some false
end Go.Proofs.YtnkfginlmdenjaaDoor
end
section
/-
  The contracts of the functions (printed by a program of ours).
-/
set_option linter.unusedVariables false
set_option linter.unusedSimpArgs false
namespace Go.Proofs.YtnkfginlmdenjaaDoor
open Go.RowKit

noncomputable def con_bytes_Clone_1 (a : List SV) (c : List Ck) : Option CEff := match a, c with
  | [(.rsl (.bs 5 s1))], [] => some ⟨[lock Obl fun _ => ∃ r, lock cloneB s1 = some r], .many ((List UInt8)) (fun r => lock cloneB s1 = some r) (fun u0 => (.wsl 0)) (fun u0 => [.to (.row (.bs 5 u0))]), []⟩
  | _, _ => none
noncomputable def con_bytes_Clone : Con := ⟨[(some (.bs 5))], fun a c => con_bytes_Clone_1 a c, []⟩

noncomputable def con_varint_groups_1 (a : List SV) (c : List Ck) : Option CEff := match a, c with
  | [(.v (.int .u64 x1))], [] => some ⟨[lock Obl fun _ => ∃ r, lock F_varint_groups x1 = some r], .many (Unit) (fun r => lock F_varint_groups x1 = some r) (fun _ => (.fn 32 [(.ptr 0 0)])) (fun _ => [.to (.blk 51 [(.v (.int .u64 x1))])]), []⟩
  | _, _ => none
noncomputable def con_varint_groups : Con := ⟨[none], fun a c => con_varint_groups_1 a c, []⟩

noncomputable def con_varint_Put_1 (a : List SV) (c : List Ck) : Option CEff := match a, c with
  | [(.v (.int .u64 x1))], [] => some ⟨[lock Obl fun _ => ∃ r, lock F_varint_Put x1 = some r], .many ((List UInt8)) (fun r => lock F_varint_Put x1 = some r) (fun u0 => (.wsl 0)) (fun u0 => [.to (.row (.bs 5 u0))]), []⟩
  | _, _ => none
noncomputable def con_varint_Put : Con := ⟨[none], fun a c => con_varint_Put_1 a c, []⟩

noncomputable def con_frame_Sum_1 (a : List SV) (c : List Ck) : Option CEff := match a, c with
  | [(.rsl (.bs 5 s1))], [] => some ⟨[lock Obl fun _ => ∃ r, lock F_frame_Sum s1 = some r], .many (Int) (fun r => lock F_frame_Sum s1 = some r) (fun u0 => (.v (.int .u32 u0))) (fun u0 => []), []⟩
  | _, _ => none
noncomputable def con_frame_Sum : Con := ⟨[(some (.bs 5))], fun a c => con_frame_Sum_1 a c, []⟩

noncomputable def con_octet_Big_1 (a : List SV) (c : List Ck) : Option CEff := match a, c with
  | [(.v (.int .u64 x1)), (.v (.int .i64 x2))], [] => some ⟨[lock Obl fun _ => ∃ r, lock F_octet_Big x1 x2 = some r], .many ((List UInt8)) (fun r => lock F_octet_Big x1 x2 = some r) (fun u0 => (.wsl 0)) (fun u0 => [.to (.row (.bs 5 u0))]), []⟩
  | _, _ => none
noncomputable def con_octet_Big : Con := ⟨[none, none], fun a c => con_octet_Big_1 a c, []⟩

noncomputable def con_frame_Put_1 (a : List SV) (c : List Ck) : Option CEff := match a, c with
  | [(.rsl (.bs 5 s1))], [] => some ⟨[lock Obl fun _ => ∃ r, lock F_frame_Put s1 = some r], .many (Int × (List UInt8)) (fun r => lock F_frame_Put s1 = some r) (fun | (u0, u1) => (.tup [(.wsl 0), (.v (.int .i64 u0))])) (fun | (u0, u1) => [.to (.row (.bs 5 u1))]), []⟩
  | _, _ => none
noncomputable def con_frame_Put : Con := ⟨[(some (.bs 5))], fun a c => con_frame_Put_1 a c, []⟩

noncomputable def con_varint_Get_1 (a : List SV) (c : List Ck) : Option CEff := match a, c with
  | [(.rsl (.bs 5 s1))], [] => some ⟨[lock Obl fun _ => ∃ r, lock F_varint_Get s1 = some r], .many (Int × Int × Int) (fun r => lock F_varint_Get s1 = some r) (fun | (u0, u1, u2) => (.tup [(.v (.int .u64 u0)), (.v (.int .i64 u1)), (.v (.int .i64 u2))])) (fun | (u0, u1, u2) => []), []⟩
  | _, _ => none
noncomputable def con_varint_Get : Con := ⟨[(some (.bs 5))], fun a c => con_varint_Get_1 a c, []⟩

noncomputable def con_bytes_Equal_1 (a : List SV) (c : List Ck) : Option CEff := match a, c with
  | [(.rsl (.bs 5 s1)), (.rsl (.bs 5 s2))], [] => some ⟨[lock Obl fun _ => ∃ r, lock F_bytes_Equal s1 s2 = some r], .many (Bool) (fun r => lock F_bytes_Equal s1 s2 = some r) (fun u0 => (.v (.bool u0))) (fun u0 => []), []⟩
  | _, _ => none
noncomputable def con_bytes_Equal : Con := ⟨[(some (.bs 5)), (some (.bs 5))], fun a c => con_bytes_Equal_1 a c, []⟩

noncomputable def con_frame_Get_1 (a : List SV) (c : List Ck) : Option CEff := match a, c with
  | [(.rsl (.bs 5 s1))], [] => some ⟨[lock Obl fun _ => ∃ r, lock F_frame_Get s1 = some r], .many (Int × Int × (List UInt8)) (fun r => lock F_frame_Get s1 = some r) (fun | (u0, u1, u2) => (.tup [(.wsl 0), (.v (.int .i64 u0)), (.v (.int .i64 u1))])) (fun | (u0, u1, u2) => [.to (.row (.bs 5 u2))]), []⟩
  | _, _ => none
noncomputable def con_frame_Get : Con := ⟨[(some (.bs 5))], fun a c => con_frame_Get_1 a c, []⟩

noncomputable def con_frame_records_1 (a : List SV) (c : List Ck) : Option CEff := match a, c with
  | [(.rsl (.bs 5 s1)), (.ptr 0 0)], [.blk 24 [(.v (.int .i64 x1))]] => some ⟨[lock Obl fun _ => ∃ r, lock F_frame_records s1 x1 = some r], .many (Unit) (fun r => lock F_frame_records s1 x1 = some r) (fun _ => (.fn 31 [(.ptr 1 0), (.ptr 2 0)])) (fun _ => [.same, .to (.blk 22 [(.rsl (.bs 5 s1))]), .to (.blk 65 [(.ptr 0 0)])]), [true]⟩
  | _, _ => none
noncomputable def con_frame_records : Con := ⟨[(some (.bs 5)), none], fun a c => con_frame_records_1 a c, []⟩

noncomputable def con_frame_All_1 (a : List SV) (c : List Ck) : Option CEff := match a, c with
  | [(.rsl (.bs 5 s1))], [] => some ⟨[lock Obl fun _ => ∃ r, lock F_frame_All s1 = some r], .many (Int × Int × (List D)) (fun r => lock F_frame_All s1 = some r) (fun | (u0, u1, u2) => (.tup [(.wsl 0), (.v (.int .i64 u0)), (.v (.int .i64 u1))])) (fun | (u0, u1, u2) => [.to (.row (.row 22 (.bytes 5) u2))]), []⟩
  | _, _ => none
noncomputable def con_frame_All : Con := ⟨[(some (.bs 5))], fun a c => con_frame_All_1 a c, [true]⟩

noncomputable def con_tollbarlaw04_awake_1 (a : List SV) (c : List Ck) : Option CEff := match a, c with
  | [], [] => some ⟨[lock Obl fun _ => ∃ r, lock F_tollbarlaw04_awake = some r], .many (Bool) (fun r => lock F_tollbarlaw04_awake = some r) (fun u0 => (.v (.bool u0))) (fun u0 => []), []⟩
  | _, _ => none
noncomputable def con_tollbarlaw04_awake : Con := ⟨[], fun a c => con_tollbarlaw04_awake_1 a c, []⟩

noncomputable def con_tollbarref02_Put_1 (a : List SV) (c : List Ck) : Option CEff := match a, c with
  | [(.v (.int .u64 x1))], [] => some ⟨[lock Obl fun _ => ∃ r, lock F_tollbarref02_Put x1 = some r], .many ((List UInt8)) (fun r => lock F_tollbarref02_Put x1 = some r) (fun u0 => (.str u0)) (fun u0 => []), []⟩
  | _, _ => none
noncomputable def con_tollbarref02_PutG_1 (gn : Nat) (a : List SV) (c : List Ck) : Option CEff := match a, c with
  | [(.v (.int .u64 x1))], [] => some ⟨[lock Obl fun _ => ∃ r, lock G_tollbarref02_Put gn x1 = some r], .many ((List UInt8)) (fun r => lock G_tollbarref02_Put gn x1 = some r) (fun u0 => (.str u0)) (fun u0 => []), []⟩
  | _, _ => none
noncomputable def con_tollbarref02_Put : Con := ⟨[none], fun a c => con_tollbarref02_Put_1 a c, []⟩
noncomputable def con_tollbarref02_PutG (gn : Nat) : Con := ⟨[none], fun a c => con_tollbarref02_PutG_1 gn a c, []⟩

noncomputable def con_tollbarref04_Sum_1 (a : List SV) (c : List Ck) : Option CEff := match a, c with
  | [(.str s1)], [] => some ⟨[lock Obl fun _ => ∃ r, lock F_tollbarref04_Sum s1 = some r], .many (Int) (fun r => lock F_tollbarref04_Sum s1 = some r) (fun u0 => (.v (.int .u32 u0))) (fun u0 => []), []⟩
  | _, _ => none
noncomputable def con_tollbarref04_Sum : Con := ⟨[none], fun a c => con_tollbarref04_Sum_1 a c, []⟩

noncomputable def con_tollbarref01_one_1 (a : List SV) (c : List Ck) : Option CEff := match a, c with
  | [(.v (.int .u64 x1))], [] => some ⟨[lock Obl fun _ => ∃ r, lock F_tollbarref01_one x1 = some r], .many ((List UInt8)) (fun r => lock F_tollbarref01_one x1 = some r) (fun u0 => (.str u0)) (fun u0 => []), []⟩
  | _, _ => none
noncomputable def con_tollbarref01_one : Con := ⟨[none], fun a c => con_tollbarref01_one_1 a c, []⟩

noncomputable def con_tollbarref01_Big_1 (a : List SV) (c : List Ck) : Option CEff := match a, c with
  | [(.v (.int .u64 x1)), (.v (.int .i64 x2))], [] => some ⟨[lock Obl fun _ => ∃ r, lock F_tollbarref01_Big x1 x2 = some r], .many ((List UInt8)) (fun r => lock F_tollbarref01_Big x1 x2 = some r) (fun u0 => (.str u0)) (fun u0 => []), []⟩
  | _, _ => none
noncomputable def con_tollbarref01_Big : Con := ⟨[none, none], fun a c => con_tollbarref01_Big_1 a c, []⟩

noncomputable def con_tollbarref04_Put_1 (a : List SV) (c : List Ck) : Option CEff := match a, c with
  | [(.str s1)], [] => some ⟨[lock Obl fun _ => ∃ r, lock F_tollbarref04_Put s1 = some r], .many ((List UInt8) × Int) (fun r => lock F_tollbarref04_Put s1 = some r) (fun | (u0, u1) => (.tup [(.str u0), (.v (.int .i64 u1))])) (fun | (u0, u1) => []), []⟩
  | _, _ => none
noncomputable def con_tollbarref04_Put : Con := ⟨[none], fun a c => con_tollbarref04_Put_1 a c, []⟩

noncomputable def con_tollbarref02_Get_1 (a : List SV) (c : List Ck) : Option CEff := match a, c with
  | [(.str s1)], [] => some ⟨[lock Obl fun _ => ∃ r, lock F_tollbarref02_Get s1 = some r], .many (Int × Int × Int) (fun r => lock F_tollbarref02_Get s1 = some r) (fun | (u0, u1, u2) => (.tup [(.v (.int .u64 u0)), (.v (.int .i64 u1)), (.v (.int .i64 u2))])) (fun | (u0, u1, u2) => []), []⟩
  | _, _ => none
noncomputable def con_tollbarref02_Get : Con := ⟨[none], fun a c => con_tollbarref02_Get_1 a c, []⟩

noncomputable def con_tollbarref04_Get_1 (a : List SV) (c : List Ck) : Option CEff := match a, c with
  | [(.str s1)], [] => some ⟨[lock Obl fun _ => ∃ r, lock F_tollbarref04_Get s1 = some r], .many ((List UInt8) × Int × Int) (fun r => lock F_tollbarref04_Get s1 = some r) (fun | (u0, u1, u2) => (.tup [(.str u0), (.v (.int .i64 u1)), (.v (.int .i64 u2))])) (fun | (u0, u1, u2) => []), []⟩
  | _, _ => none
noncomputable def con_tollbarref04_Get : Con := ⟨[none], fun a c => con_tollbarref04_Get_1 a c, []⟩

noncomputable def con_tollbarlaw04_FrameTells_1 (a : List SV) (c : List Ck) : Option CEff := match a, c with
  | [(.rsl (.bs 5 s1))], [] => some ⟨[lock Obl fun _ => ∃ r, lock F_tollbarlaw04_FrameTells s1 = some r], .many (Bool) (fun r => lock F_tollbarlaw04_FrameTells s1 = some r) (fun u0 => (.v (.bool u0))) (fun u0 => []), []⟩
  | _, _ => none
noncomputable def con_tollbarlaw04_FrameTells : Con := ⟨[], fun a c => con_tollbarlaw04_FrameTells_1 a c, []⟩

noncomputable def con_tollbarref04_All_1 (a : List SV) (c : List Ck) : Option CEff := match a, c with
  | [(.str s1)], [] => some ⟨[lock Obl fun _ => ∃ r, lock F_tollbarref04_All s1 = some r], .many (Int × Int × (List D)) (fun r => lock F_tollbarref04_All s1 = some r) (fun | (u0, u1, u2) => (.tup [(.wsl 0), (.v (.int .i64 u0)), (.v (.int .i64 u1))])) (fun | (u0, u1, u2) => [.to (.row (.row 9 .str u2))]), []⟩
  | _, _ => none
noncomputable def con_tollbarref04_All : Con := ⟨[none], fun a c => con_tollbarref04_All_1 a c, []⟩

noncomputable def con_tollbarlaw04_texts_1 (a : List SV) (c : List Ck) : Option CEff := match a, c with
  | [(.rsl (.row 22 (.bytes 5) r1))], [] => some ⟨[lock Obl fun _ => ∃ r, lock F_tollbarlaw04_texts r1 = some r], .many ((List D)) (fun r => lock F_tollbarlaw04_texts r1 = some r) (fun u0 => (.wsl 0)) (fun u0 => [.to (.row (.row 9 .str u0))]), []⟩
  | _, _ => none
noncomputable def con_tollbarlaw04_texts : Con := ⟨[(some (.row 22 (.bytes 5)))], fun a c => con_tollbarlaw04_texts_1 a c, []⟩

noncomputable def con_tollbarref04_Same_1 (a : List SV) (c : List Ck) : Option CEff := match a, c with
  | [(.rsl (.row 9 .str r1)), (.rsl (.row 9 .str r2))], [] => some ⟨[lock Obl fun _ => ∃ r, lock F_tollbarref04_Same r1 r2 = some r], .many (Bool) (fun r => lock F_tollbarref04_Same r1 r2 = some r) (fun u0 => (.v (.bool u0))) (fun u0 => []), []⟩
  | _, _ => none
noncomputable def con_tollbarref04_Same : Con := ⟨[(some (.row 9 .str)), (some (.row 9 .str))], fun a c => con_tollbarref04_Same_1 a c, []⟩

noncomputable def con_tollbarlaw04_FrameAlls_1 (a : List SV) (c : List Ck) : Option CEff := match a, c with
  | [(.rsl (.bs 5 s1))], [] => some ⟨[lock Obl fun _ => ∃ r, lock F_tollbarlaw04_FrameAlls s1 = some r], .many (Bool) (fun r => lock F_tollbarlaw04_FrameAlls s1 = some r) (fun u0 => (.v (.bool u0))) (fun u0 => []), []⟩
  | _, _ => none
noncomputable def con_tollbarlaw04_FrameAlls : Con := ⟨[], fun a c => con_tollbarlaw04_FrameAlls_1 a c, []⟩

noncomputable def con_tollbarlaw04_FrameBack_1 (a : List SV) (c : List Ck) : Option CEff := match a, c with
  | [(.rsl (.row 22 (.bytes 5) r1)), (.v (.int .u16 x1))], [] => some ⟨[lock Obl fun _ => ∃ r, lock F_tollbarlaw04_FrameBack r1 x1 = some r], .many (Bool) (fun r => lock F_tollbarlaw04_FrameBack r1 x1 = some r) (fun u0 => (.v (.bool u0))) (fun u0 => []), []⟩
  | _, _ => none
noncomputable def con_tollbarlaw04_FrameBack : Con := ⟨[], fun a c => con_tollbarlaw04_FrameBack_1 a c, []⟩

noncomputable def con_tollbarlaw04_FrameTurns_1 (a : List SV) (c : List Ck) : Option CEff := match a, c with
  | [(.rsl (.bs 5 s1)), (.v (.int .u16 x1)), (.v (.int .u32 x2))], [] => some ⟨[lock Obl fun _ => ∃ r, lock F_tollbarlaw04_FrameTurns s1 x1 x2 = some r], .many (Bool) (fun r => lock F_tollbarlaw04_FrameTurns s1 x1 x2 = some r) (fun u0 => (.v (.bool u0))) (fun u0 => []), []⟩
  | _, _ => none
noncomputable def con_tollbarlaw04_FrameTurns : Con := ⟨[], fun a c => con_tollbarlaw04_FrameTurns_1 a c, []⟩

noncomputable def con_tollbarlaw04_FrameXors_1 (a : List SV) (c : List Ck) : Option CEff := match a, c with
  | [(.rsl (.bs 5 s1)), (.rsl (.bs 5 s2)), (.rsl (.bs 5 s3))], [] => some ⟨[lock Obl fun _ => ∃ r, lock F_tollbarlaw04_FrameXors s1 s2 s3 = some r], .many (Bool) (fun r => lock F_tollbarlaw04_FrameXors s1 s2 s3 = some r) (fun u0 => (.v (.bool u0))) (fun u0 => []), []⟩
  | _, _ => none
noncomputable def con_tollbarlaw04_FrameXors : Con := ⟨[], fun a c => con_tollbarlaw04_FrameXors_1 a c, []⟩

noncomputable def con_tollbarlaw04_FrameBehind_1 (a : List SV) (c : List Ck) : Option CEff := match a, c with
  | [(.rsl (.bs 5 s1)), (.rsl (.bs 5 s2)), (.rsl (.bs 5 s3))], [] => some ⟨[lock Obl fun _ => ∃ r, lock F_tollbarlaw04_FrameBehind s1 s2 s3 = some r], .many (Bool) (fun r => lock F_tollbarlaw04_FrameBehind s1 s2 s3 = some r) (fun u0 => (.v (.bool u0))) (fun u0 => []), []⟩
  | _, _ => none
noncomputable def con_tollbarlaw04_FrameBehind : Con := ⟨[], fun a c => con_tollbarlaw04_FrameBehind_1 a c, []⟩
end Go.Proofs.YtnkfginlmdenjaaDoor
end
section
/-
  The functions of this seat, made short (printed by a program of ours).
-/
set_option linter.unusedVariables false
set_option maxRecDepth 20000
namespace Go.Proofs.YtnkfginlmdenjaaDoor
open Go.RowKit

/-- tollbar/tollbarlaw04.FrameTells -/
def ic_3 : IC := (.seq (.reg false [⟨some 2, none, [], .mv (.k (.v (.bool false)))⟩])
 (.seq (.reg false [⟨some 14, none, [], .call 9 []⟩,
  ⟨some 3, none, [], .mv (.t 14)⟩])
 (.seq (.seq (.reg false [⟨some 15, none, [], .mv (.t 3)⟩,
  ⟨some 16, none, [], .bnot (.t 15)⟩])
 (.cond (.t 16)
 (.seq (.reg false [⟨some 2, none, [], .mv (.k (.v (.bool false)))⟩])
 .ret)
 .skip))
 (.seq (.seq (.reg false [⟨some 17, none, [], .mv (.t 0)⟩,
  ⟨some 18, none, [], .len false (.t 17)⟩,
  ⟨some 19, none, [], .ib .gt .i64 (.t 18) (.k (.v (.int .i64 9000)))⟩])
 (.cond (.t 19)
 (.seq (.reg false [⟨some 2, none, [], .mv (.k (.v (.bool true)))⟩])
 .ret)
 .skip))
 (.seq (.reg false [⟨some 21, none, [], .mv (.t 0)⟩,
  ⟨some 22, none, [], .call 10 [(.t 21)]⟩,
  ⟨some 20, none, [], .mv (.t 22)⟩,
  ⟨some 23, none, [], .ext (.t 20) 0⟩,
  ⟨some 24, none, [], .ext (.t 20) 1⟩,
  ⟨some 4, none, [], .mv (.t 23)⟩,
  ⟨some 5, none, [], .mv (.t 24)⟩])
 (.seq (.reg false [⟨some 26, none, [], .mv (.t 0)⟩,
  ⟨some 27, none, [], .b2s (.t 26)⟩,
  ⟨some 28, none, [], .call 11 [(.t 27)]⟩,
  ⟨some 25, none, [], .mv (.t 28)⟩,
  ⟨some 29, none, [], .ext (.t 25) 0⟩,
  ⟨some 30, none, [], .ext (.t 25) 1⟩,
  ⟨some 6, none, [], .mv (.t 29)⟩,
  ⟨some 7, none, [], .mv (.t 30)⟩])
 (.seq (.reg false [⟨some 32, none, [], .mv (.t 0)⟩,
  ⟨some 33, none, [], .call 12 [(.t 32)]⟩,
  ⟨some 31, none, [], .mv (.t 33)⟩,
  ⟨some 34, none, [], .ext (.t 31) 0⟩,
  ⟨some 35, none, [], .ext (.t 31) 1⟩,
  ⟨some 36, none, [], .ext (.t 31) 2⟩,
  ⟨some 8, none, [], .mv (.t 34)⟩,
  ⟨some 9, none, [], .mv (.t 35)⟩,
  ⟨some 10, none, [], .mv (.t 36)⟩])
 (.seq (.reg false [⟨some 38, none, [], .mv (.t 0)⟩,
  ⟨some 39, none, [], .b2s (.t 38)⟩,
  ⟨some 40, none, [], .call 13 [(.t 39)]⟩,
  ⟨some 37, none, [], .mv (.t 40)⟩,
  ⟨some 41, none, [], .ext (.t 37) 0⟩,
  ⟨some 42, none, [], .ext (.t 37) 1⟩,
  ⟨some 43, none, [], .ext (.t 37) 2⟩,
  ⟨some 11, none, [], .mv (.t 41)⟩,
  ⟨some 12, none, [], .mv (.t 42)⟩,
  ⟨some 13, none, [], .mv (.t 43)⟩])
 (.seq (.reg true [⟨some 44, none, [], .mv (.t 0)⟩,
  ⟨some 45, none, [0], .call 14 [(.t 44)]⟩,
  ⟨some 46, none, [], .mv (.t 0)⟩,
  ⟨some 47, none, [2], .b2s (.t 46)⟩,
  ⟨some 48, none, [3, 2, 1, 0], .call 15 [(.t 47)]⟩,
  ⟨some 49, none, [1, 0, 4, 3, 2], .ib .eq .u32 (.t 45) (.t 48)⟩,
  ⟨some 50, none, [5, 1, 0, 4, 3, 2], .mv (.t 49)⟩,
  ⟨some 51, some (50, true), [6, 5, 1, 0, 4, 3, 2], .mv (.t 4)⟩,
  ⟨some 52, some (50, true), [7, 6, 5, 1, 0, 4, 3, 2], .b2s (.t 51)⟩,
  ⟨some 53, some (50, true), [6, 5, 1, 0, 4, 3, 2], .mv (.t 6)⟩,
  ⟨some 54, some (50, true), [8, 7, 6, 5, 1, 0, 4, 3, 2, 9], .sb .eq (.t 52) (.t 53)⟩,
  ⟨some 55, none, [6, 5, 1, 0, 4, 3, 2, 10, 8, 7, 9], .pick (.t 50) (.t 54) (.k (.v (.bool false)))⟩,
  ⟨some 56, none, [11, 6, 5, 1, 0, 4, 3, 2, 10, 8, 7, 9], .mv (.t 55)⟩,
  ⟨some 57, some (56, true), [12, 11, 6, 5, 1, 0, 4, 3, 2, 10, 8, 7, 9], .mv (.t 5)⟩,
  ⟨some 58, some (56, true), [12, 11, 6, 5, 1, 0, 4, 3, 2, 10, 8, 7, 9], .mv (.t 7)⟩,
  ⟨some 59, some (56, true), [13, 12, 11, 6, 5, 1, 0, 4, 3, 2, 10, 8, 7, 9, 14], .ib .eq .i64 (.t 57) (.t 58)⟩,
  ⟨some 60, none, [12, 11, 6, 5, 1, 0, 4, 3, 2, 10, 8, 7, 9, 15, 13, 14], .pick (.t 56) (.t 59) (.k (.v (.bool false)))⟩,
  ⟨some 61, none, [16, 12, 11, 6, 5, 1, 0, 4, 3, 2, 10, 8, 7, 9, 15, 13, 14], .mv (.t 60)⟩,
  ⟨some 62, some (61, true), [17, 16, 12, 11, 6, 5, 1, 0, 4, 3, 2, 10, 8, 7, 9, 15, 13, 14], .mv (.t 8)⟩,
  ⟨some 63, some (61, true), [18, 17, 16, 12, 11, 6, 5, 1, 0, 4, 3, 2, 10, 8, 7, 9, 15, 13, 14], .b2s (.t 62)⟩,
  ⟨some 64, some (61, true), [17, 16, 12, 11, 6, 5, 1, 0, 4, 3, 2, 10, 8, 7, 9, 15, 13, 14], .mv (.t 11)⟩,
  ⟨some 65, some (61, true), [19, 18, 17, 16, 12, 11, 6, 5, 1, 0, 4, 3, 2, 10, 8, 7, 9, 15, 13, 14, 20], .sb .eq (.t 63) (.t 64)⟩,
  ⟨some 66, none, [17, 16, 12, 11, 6, 5, 1, 0, 4, 3, 2, 10, 8, 7, 9, 15, 13, 14, 21, 19, 18, 20], .pick (.t 61) (.t 65) (.k (.v (.bool false)))⟩,
  ⟨some 67, none, [22, 17, 16, 12, 11, 6, 5, 1, 0, 4, 3, 2, 10, 8, 7, 9, 15, 13, 14, 21, 19, 18, 20], .mv (.t 66)⟩,
  ⟨some 68, some (67, true), [23, 22, 17, 16, 12, 11, 6, 5, 1, 0, 4, 3, 2, 10, 8, 7, 9, 15, 13, 14, 21, 19, 18, 20], .mv (.t 9)⟩,
  ⟨some 69, some (67, true), [23, 22, 17, 16, 12, 11, 6, 5, 1, 0, 4, 3, 2, 10, 8, 7, 9, 15, 13, 14, 21, 19, 18, 20], .mv (.t 12)⟩,
  ⟨some 70, some (67, true), [24, 23, 22, 17, 16, 12, 11, 6, 5, 1, 0, 4, 3, 2, 10, 8, 7, 9, 15, 13, 14, 21, 19, 18, 20, 25], .ib .eq .i64 (.t 68) (.t 69)⟩,
  ⟨some 71, none, [23, 22, 17, 16, 12, 11, 6, 5, 1, 0, 4, 3, 2, 10, 8, 7, 9, 15, 13, 14, 21, 19, 18, 20, 26, 24, 25], .pick (.t 67) (.t 70) (.k (.v (.bool false)))⟩,
  ⟨some 72, none, [27, 23, 22, 17, 16, 12, 11, 6, 5, 1, 0, 4, 3, 2, 10, 8, 7, 9, 15, 13, 14, 21, 19, 18, 20, 26, 24, 25], .mv (.t 71)⟩,
  ⟨some 73, some (72, true), [28, 27, 23, 22, 17, 16, 12, 11, 6, 5, 1, 0, 4, 3, 2, 10, 8, 7, 9, 15, 13, 14, 21, 19, 18, 20, 26, 24, 25], .mv (.t 10)⟩,
  ⟨some 74, some (72, true), [28, 27, 23, 22, 17, 16, 12, 11, 6, 5, 1, 0, 4, 3, 2, 10, 8, 7, 9, 15, 13, 14, 21, 19, 18, 20, 26, 24, 25], .mv (.t 13)⟩,
  ⟨some 75, some (72, true), [29, 28, 27, 23, 22, 17, 16, 12, 11, 6, 5, 1, 0, 4, 3, 2, 10, 8, 7, 9, 15, 13, 14, 21, 19, 18, 20, 26, 24, 25, 30], .ib .eq .i64 (.t 73) (.t 74)⟩,
  ⟨some 76, none, [28, 27, 23, 22, 17, 16, 12, 11, 6, 5, 1, 0, 4, 3, 2, 10, 8, 7, 9, 15, 13, 14, 21, 19, 18, 20, 26, 24, 25, 31, 29, 30], .pick (.t 72) (.t 75) (.k (.v (.bool false)))⟩,
  ⟨some 2, none, [32, 28, 27, 23, 22, 17, 16, 12, 11, 6, 5, 1, 0, 4, 3, 2, 10, 8, 7, 9, 15, 13, 14, 21, 19, 18, 20, 26, 24, 25, 31, 29, 30], .mv (.t 76)⟩])
 .ret)))))))))
theorem comp_3 : compF Tryd.prog Tryd.f3 = some (ic_3, [.t 2], 77) := by kernel_rfl
-- ros 3 [(some (.bs 5))] TYS [(.bytes 5)]

/-- tollbar/tollbarlaw04.FrameAlls -/
def ic_4 : IC := (.seq (.reg false [⟨some 2, none, [], .mv (.k (.v (.bool false)))⟩])
 (.seq (.reg false [⟨some 10, none, [], .call 9 []⟩,
  ⟨some 3, none, [], .mv (.t 10)⟩])
 (.seq (.seq (.reg false [⟨some 11, none, [], .mv (.t 3)⟩,
  ⟨some 12, none, [], .bnot (.t 11)⟩])
 (.cond (.t 12)
 (.seq (.reg false [⟨some 2, none, [], .mv (.k (.v (.bool false)))⟩])
 .ret)
 .skip))
 (.seq (.seq (.reg false [⟨some 13, none, [], .mv (.t 0)⟩,
  ⟨some 14, none, [], .len false (.t 13)⟩,
  ⟨some 15, none, [], .ib .gt .i64 (.t 14) (.k (.v (.int .i64 2000)))⟩])
 (.cond (.t 15)
 (.seq (.reg false [⟨some 2, none, [], .mv (.k (.v (.bool true)))⟩])
 .ret)
 .skip))
 (.seq (.reg false [⟨some 17, none, [], .mv (.t 0)⟩,
  ⟨some 18, none, [], .call 16 [(.t 17)]⟩,
  ⟨some 16, none, [], .mv (.t 18)⟩,
  ⟨some 19, none, [], .ext (.t 16) 0⟩,
  ⟨some 20, none, [], .ext (.t 16) 1⟩,
  ⟨some 21, none, [], .ext (.t 16) 2⟩,
  ⟨some 4, none, [], .mv (.t 19)⟩,
  ⟨some 5, none, [], .mv (.t 20)⟩,
  ⟨some 6, none, [], .mv (.t 21)⟩])
 (.seq (.reg false [⟨some 23, none, [], .mv (.t 0)⟩,
  ⟨some 24, none, [], .b2s (.t 23)⟩,
  ⟨some 25, none, [], .call 17 [(.t 24)]⟩,
  ⟨some 22, none, [], .mv (.t 25)⟩,
  ⟨some 26, none, [], .ext (.t 22) 0⟩,
  ⟨some 27, none, [], .ext (.t 22) 1⟩,
  ⟨some 28, none, [], .ext (.t 22) 2⟩,
  ⟨some 7, none, [], .mv (.t 26)⟩,
  ⟨some 8, none, [], .mv (.t 27)⟩,
  ⟨some 9, none, [], .mv (.t 28)⟩])
 (.seq (.reg false [⟨some 29, none, [], .mv (.t 4)⟩,
  ⟨some 30, none, [], .call 19 [(.t 29)]⟩,
  ⟨some 31, none, [], .mv (.t 7)⟩,
  ⟨some 32, none, [], .call 18 [(.t 30), (.t 31)]⟩,
  ⟨some 33, none, [], .mv (.t 32)⟩,
  ⟨some 34, some (33, true), [], .mv (.t 5)⟩,
  ⟨some 35, some (33, true), [], .mv (.t 8)⟩,
  ⟨some 36, some (33, true), [], .ib .eq .i64 (.t 34) (.t 35)⟩,
  ⟨some 37, none, [], .pick (.t 33) (.t 36) (.k (.v (.bool false)))⟩,
  ⟨some 38, none, [], .mv (.t 37)⟩,
  ⟨some 39, some (38, true), [], .mv (.t 6)⟩,
  ⟨some 40, some (38, true), [], .mv (.t 9)⟩,
  ⟨some 41, some (38, true), [], .ib .eq .i64 (.t 39) (.t 40)⟩,
  ⟨some 42, none, [], .pick (.t 38) (.t 41) (.k (.v (.bool false)))⟩,
  ⟨some 2, none, [], .mv (.t 42)⟩])
 .ret)))))))
theorem comp_4 : compF Tryd.prog Tryd.f4 = some (ic_4, [.t 2], 43) := by kernel_rfl
-- ros 4 [(some (.bs 5))] TYS [(.bytes 5)]

/-- tollbar/tollbarlaw04.FrameBack -/
def ic_5 : IC := (.seq (.reg false [⟨some 4, none, [], .mv (.k (.v (.bool false)))⟩])
 (.seq (.reg false [⟨some 21, none, [], .call 9 []⟩,
  ⟨some 5, none, [], .mv (.t 21)⟩])
 (.seq (.seq (.reg false [⟨some 22, none, [], .mv (.t 5)⟩,
  ⟨some 23, none, [], .bnot (.t 22)⟩])
 (.cond (.t 23)
 (.seq (.reg false [⟨some 4, none, [], .mv (.k (.v (.bool false)))⟩])
 .ret)
 .skip))
 (.seq (.seq (.reg false [⟨some 24, none, [], .mv (.t 0)⟩,
  ⟨some 25, none, [], .len false (.t 24)⟩,
  ⟨some 26, none, [], .ib .gt .i64 (.t 25) (.k (.v (.int .i64 20)))⟩])
 (.cond (.t 26)
 (.seq (.reg false [⟨some 4, none, [], .mv (.k (.v (.bool true)))⟩])
 .ret)
 .skip))
 (.seq (.reg false [⟨some 6, none, [], .mv (.k .nsl)⟩])
 (.seq (.reg false [⟨some 7, none, [], .mv (.k .nsl)⟩])
 (.seq (.seq (.reg false [⟨some 8, none, [], .mv (.k (.v (.int .i64 0)))⟩])
 (.block 0
 (.loop
 (.seq (.seq (.reg false [⟨some 27, none, [], .mv (.t 8)⟩,
  ⟨some 28, none, [], .mv (.t 0)⟩,
  ⟨some 29, none, [], .len false (.t 28)⟩,
  ⟨some 30, none, [], .ib .lt .i64 (.t 27) (.t 29)⟩])
 (.cond (.t 30)
 .skip
 (.exit 0)))
 (.seq (.block 1
 (.seq (.reg false [⟨some 34, none, [], .mv (.t 0)⟩,
  ⟨some 35, none, [], .mv (.t 8)⟩,
  ⟨some 36, none, [], .idx (.t 34) (.t 35) 1⟩,
  ⟨some 37, none, [], .ld (.t 36)⟩,
  ⟨some 38, none, [], .call 10 [(.t 37)]⟩,
  ⟨some 33, none, [], .mv (.t 38)⟩,
  ⟨some 39, none, [], .ext (.t 33) 0⟩,
  ⟨some 40, none, [], .ext (.t 33) 1⟩,
  ⟨some 9, none, [], .mv (.t 39)⟩,
  ⟨some 10, none, [], .mv (.t 40)⟩])
 (.seq (.seq (.reg false [⟨some 41, none, [], .mv (.t 10)⟩,
  ⟨some 42, none, [], .ib .eq .i64 (.t 41) (.k (.v (.int .i64 0)))⟩,
  ⟨some 43, none, [], .mv (.t 0)⟩,
  ⟨some 44, none, [], .mv (.t 8)⟩,
  ⟨some 45, none, [], .idx (.t 43) (.t 44) 1⟩,
  ⟨some 46, none, [], .ld (.t 45)⟩,
  ⟨some 47, none, [], .len false (.t 46)⟩,
  ⟨some 48, none, [], .ib .le .i64 (.t 47) (.k (.v (.int .i64 8192)))⟩,
  ⟨some 49, none, [], .bb true (.t 42) (.t 48)⟩])
 (.cond (.t 49)
 (.seq (.reg false [⟨some 4, none, [], .mv (.k (.v (.bool false)))⟩])
 .ret)
 .skip))
 (.seq (.seq (.reg false [⟨some 50, none, [], .mv (.t 0)⟩,
  ⟨some 51, none, [], .mv (.t 8)⟩,
  ⟨some 52, none, [], .idx (.t 50) (.t 51) 1⟩,
  ⟨some 53, none, [], .ld (.t 52)⟩,
  ⟨some 54, none, [], .len false (.t 53)⟩,
  ⟨some 55, none, [], .ib .gt .i64 (.t 54) (.k (.v (.int .i64 300)))⟩])
 (.cond (.t 55)
 (.seq (.reg false [⟨some 4, none, [], .mv (.k (.v (.bool true)))⟩])
 .ret)
 .skip))
 (.seq (.reg false [⟨some 56, none, [], .mv (.t 6)⟩,
  ⟨some 57, none, [], .mv (.t 9)⟩,
  ⟨some 58, none, [], .app (.bs 5) 1 (.t 56) (.t 57)⟩,
  ⟨some 6, none, [], .mv (.t 58)⟩])
 (.reg false [⟨some 59, none, [], .mv (.t 7)⟩,
  ⟨some 60, none, [], .mv (.t 6)⟩,
  ⟨some 61, none, [], .len false (.t 60)⟩,
  ⟨some 62, none, [], .bsl (.ints 3 .i64) 1 [(.v (.int .i64 0))] [(0, 1, (.t 61))]⟩,
  ⟨some 63, none, [], .app (.ints 3 .i64) 8 (.t 59) (.t 62)⟩,
  ⟨some 7, none, [], .mv (.t 63)⟩]))))))
 (.reg false [⟨some 31, none, [], .mv (.t 8)⟩,
  ⟨some 32, none, [], .ib .add .i64 (.t 31) (.k (.v (.int .i64 1)))⟩,
  ⟨some 8, none, [], .mv (.t 32)⟩]))))))
 (.seq (.reg false [⟨some 65, none, [], .mv (.t 6)⟩,
  ⟨some 66, none, [], .call 16 [(.t 65)]⟩,
  ⟨some 64, none, [], .mv (.t 66)⟩,
  ⟨some 67, none, [], .ext (.t 64) 0⟩,
  ⟨some 68, none, [], .ext (.t 64) 1⟩,
  ⟨some 69, none, [], .ext (.t 64) 2⟩,
  ⟨some 11, none, [], .mv (.t 67)⟩,
  ⟨some 12, none, [], .mv (.t 68)⟩,
  ⟨some 13, none, [], .mv (.t 69)⟩])
 (.seq (.seq (.reg false [⟨some 70, none, [], .mv (.t 11)⟩,
  ⟨some 71, none, [], .call 19 [(.t 70)]⟩,
  ⟨some 72, none, [], .mv (.t 0)⟩,
  ⟨some 73, none, [], .call 19 [(.t 72)]⟩,
  ⟨some 74, none, [], .call 18 [(.t 71), (.t 73)]⟩,
  ⟨some 75, none, [], .bnot (.t 74)⟩,
  ⟨some 76, none, [], .mv (.t 75)⟩,
  ⟨some 77, some (76, false), [], .mv (.t 12)⟩,
  ⟨some 78, some (76, false), [], .mv (.t 6)⟩,
  ⟨some 79, some (76, false), [], .len false (.t 78)⟩,
  ⟨some 80, some (76, false), [], .ib .ne .i64 (.t 77) (.t 79)⟩,
  ⟨some 81, none, [], .pick (.t 76) (.k (.v (.bool true))) (.t 80)⟩,
  ⟨some 82, none, [], .mv (.t 81)⟩,
  ⟨some 83, some (82, false), [], .mv (.t 13)⟩,
  ⟨some 84, some (82, false), [], .ib .ne .i64 (.t 83) (.k (.v (.int .i64 0)))⟩,
  ⟨some 85, none, [], .pick (.t 82) (.k (.v (.bool true))) (.t 84)⟩])
 (.cond (.t 85)
 (.seq (.reg false [⟨some 4, none, [], .mv (.k (.v (.bool false)))⟩])
 .ret)
 .skip))
 (.seq (.reg false [⟨some 86, none, [], .mv (.t 1)⟩,
  ⟨some 87, none, [], .conv .i64 (.t 86)⟩,
  ⟨some 88, none, [], .mv (.t 6)⟩,
  ⟨some 89, none, [], .len false (.t 88)⟩,
  ⟨some 90, none, [], .ib .add .i64 (.t 89) (.k (.v (.int .i64 1)))⟩,
  ⟨some 91, none, [], .ib .rem .i64 (.t 87) (.t 90)⟩,
  ⟨some 14, none, [], .mv (.t 91)⟩])
 (.seq (.reg false [⟨some 15, none, [], .mv (.k (.v (.int .i64 0)))⟩])
 (.seq (.reg false [⟨some 16, none, [], .mv (.k (.v (.int .i64 0)))⟩])
 (.seq (.seq (.reg false [⟨some 17, none, [], .mv (.k (.v (.int .i64 0)))⟩])
 (.block 2
 (.loop
 (.seq (.seq (.reg false [⟨some 92, none, [], .mv (.t 17)⟩,
  ⟨some 93, none, [], .mv (.t 7)⟩,
  ⟨some 94, none, [], .len false (.t 93)⟩,
  ⟨some 95, none, [], .ib .lt .i64 (.t 92) (.t 94)⟩,
  ⟨some 96, none, [], .mv (.t 95)⟩,
  ⟨some 97, some (96, true), [], .mv (.t 7)⟩,
  ⟨some 98, some (96, true), [], .mv (.t 17)⟩,
  ⟨some 99, some (96, true), [], .idx (.t 97) (.t 98) 1⟩,
  ⟨some 100, some (96, true), [], .ld (.t 99)⟩,
  ⟨some 101, some (96, true), [], .mv (.t 14)⟩,
  ⟨some 102, some (96, true), [], .ib .le .i64 (.t 100) (.t 101)⟩,
  ⟨some 103, none, [], .pick (.t 96) (.t 102) (.k (.v (.bool false)))⟩])
 (.cond (.t 103)
 .skip
 (.exit 2)))
 (.seq (.block 3
 (.seq (.reg false [⟨some 106, none, [], .mv (.t 17)⟩,
  ⟨some 107, none, [], .ib .add .i64 (.t 106) (.k (.v (.int .i64 1)))⟩,
  ⟨some 15, none, [], .mv (.t 107)⟩])
 (.reg false [⟨some 108, none, [], .mv (.t 7)⟩,
  ⟨some 109, none, [], .mv (.t 17)⟩,
  ⟨some 110, none, [], .idx (.t 108) (.t 109) 1⟩,
  ⟨some 111, none, [], .ld (.t 110)⟩,
  ⟨some 16, none, [], .mv (.t 111)⟩])))
 (.reg false [⟨some 104, none, [], .mv (.t 17)⟩,
  ⟨some 105, none, [], .ib .add .i64 (.t 104) (.k (.v (.int .i64 1)))⟩,
  ⟨some 17, none, [], .mv (.t 105)⟩]))))))
 (.seq (.reg false [⟨some 113, none, [], .mv (.t 6)⟩,
  ⟨some 114, none, [], .mv (.t 14)⟩,
  ⟨some 115, none, [], .sls (.t 113) none (some (.t 114)) 1⟩,
  ⟨some 116, none, [], .call 16 [(.t 115)]⟩,
  ⟨some 112, none, [], .mv (.t 116)⟩,
  ⟨some 117, none, [], .ext (.t 112) 0⟩,
  ⟨some 118, none, [], .ext (.t 112) 1⟩,
  ⟨some 119, none, [], .ext (.t 112) 2⟩,
  ⟨some 18, none, [], .mv (.t 117)⟩,
  ⟨some 19, none, [], .mv (.t 118)⟩,
  ⟨some 20, none, [], .mv (.t 119)⟩])
 (.seq (.reg true [⟨some 120, none, [], .mv (.t 18)⟩,
  ⟨some 121, none, [0], .call 19 [(.t 120)]⟩,
  ⟨some 122, none, [], .mv (.t 0)⟩,
  ⟨some 123, none, [], .mv (.t 15)⟩,
  ⟨some 124, none, [2, 3], .sls (.t 122) none (some (.t 123)) 1⟩,
  ⟨some 125, none, [4, 2, 3, 1, 0], .call 19 [(.t 124)]⟩,
  ⟨some 126, none, [1, 0, 5, 4, 2, 3], .call 18 [(.t 121), (.t 125)]⟩,
  ⟨some 127, none, [6, 1, 0, 5, 4, 2, 3], .mv (.t 126)⟩,
  ⟨some 128, some (127, true), [7, 6, 1, 0, 5, 4, 2, 3], .mv (.t 19)⟩,
  ⟨some 129, some (127, true), [7, 6, 1, 0, 5, 4, 2, 3], .mv (.t 16)⟩,
  ⟨some 130, some (127, true), [8, 7, 6, 1, 0, 5, 4, 2, 3, 9], .ib .eq .i64 (.t 128) (.t 129)⟩,
  ⟨some 131, none, [7, 6, 1, 0, 5, 4, 2, 3, 10, 8, 9], .pick (.t 127) (.t 130) (.k (.v (.bool false)))⟩,
  ⟨some 132, none, [11, 7, 6, 1, 0, 5, 4, 2, 3, 10, 8, 9], .mv (.t 131)⟩,
  ⟨some 133, some (132, true), [12, 11, 7, 6, 1, 0, 5, 4, 2, 3, 10, 8, 9], .mv (.t 20)⟩,
  ⟨some 134, some (132, true), [13, 12, 11, 7, 6, 1, 0, 5, 4, 2, 3, 10, 8, 9], .ib .eq .i64 (.t 133) (.k (.v (.int .i64 0)))⟩,
  ⟨some 135, some (132, true), [12, 11, 7, 6, 1, 0, 5, 4, 2, 3, 10, 8, 9], .mv (.t 16)⟩,
  ⟨some 136, some (132, true), [12, 11, 7, 6, 1, 0, 5, 4, 2, 3, 10, 8, 9], .mv (.t 14)⟩,
  ⟨some 137, some (132, true), [15, 12, 11, 7, 6, 1, 0, 5, 4, 2, 3, 10, 8, 9, 16], .ib .eq .i64 (.t 135) (.t 136)⟩,
  ⟨some 138, some (132, true), [14, 13, 12, 11, 7, 6, 1, 0, 5, 4, 2, 3, 10, 8, 9, 17, 15, 16], .bb false (.t 134) (.t 137)⟩,
  ⟨some 139, none, [12, 11, 7, 6, 1, 0, 5, 4, 2, 3, 10, 8, 9, 18, 14, 13, 17, 15, 16], .pick (.t 132) (.t 138) (.k (.v (.bool false)))⟩,
  ⟨some 140, none, [19, 12, 11, 7, 6, 1, 0, 5, 4, 2, 3, 10, 8, 9, 18, 14, 13, 17, 15, 16], .mv (.t 139)⟩,
  ⟨some 141, some (140, true), [20, 19, 12, 11, 7, 6, 1, 0, 5, 4, 2, 3, 10, 8, 9, 18, 14, 13, 17, 15, 16], .mv (.t 20)⟩,
  ⟨some 142, some (140, true), [21, 20, 19, 12, 11, 7, 6, 1, 0, 5, 4, 2, 3, 10, 8, 9, 18, 14, 13, 17, 15, 16], .ib .eq .i64 (.t 141) (.k (.v (.int .i64 0)))⟩,
  ⟨some 143, some (140, true), [22, 21, 20, 19, 12, 11, 7, 6, 1, 0, 5, 4, 2, 3, 10, 8, 9, 18, 14, 13, 17, 15, 16], .mv (.t 142)⟩,
  ⟨some 144, some (143, false), [23, 22, 21, 20, 19, 12, 11, 7, 6, 1, 0, 5, 4, 2, 3, 10, 8, 9, 18, 14, 13, 17, 15, 16], .mv (.t 20)⟩,
  ⟨some 145, some (143, false), [24, 23, 22, 21, 20, 19, 12, 11, 7, 6, 1, 0, 5, 4, 2, 3, 10, 8, 9, 18, 14, 13, 17, 15, 16], .ib .eq .i64 (.t 144) (.k (.v (.int .i64 10)))⟩,
  ⟨some 146, some (140, true), [23, 22, 21, 20, 19, 12, 11, 7, 6, 1, 0, 5, 4, 2, 3, 10, 8, 9, 18, 14, 13, 17, 15, 16, 25, 24], .pick (.t 143) (.k (.v (.bool true))) (.t 145)⟩,
  ⟨some 147, none, [20, 19, 12, 11, 7, 6, 1, 0, 5, 4, 2, 3, 10, 8, 9, 18, 14, 13, 17, 15, 16, 26, 23, 22, 21, 25, 24], .pick (.t 140) (.t 146) (.k (.v (.bool false)))⟩,
  ⟨some 4, none, [27, 20, 19, 12, 11, 7, 6, 1, 0, 5, 4, 2, 3, 10, 8, 9, 18, 14, 13, 17, 15, 16, 26, 23, 22, 21, 25, 24], .mv (.t 147)⟩])
 .ret)))))))))))))))
theorem comp_5 : compF Tryd.prog Tryd.f5 = some (ic_5, [.t 4], 148) := by kernel_rfl
-- ros 5 [(some (.row 22 (.bytes 5))), none] TYS [(.row 22 (.bytes 5)), (.int .u16)]

/-- tollbar/tollbarlaw04.FrameTurns -/
def ic_6 : IC := (.seq (.reg false [⟨some 6, none, [], .mv (.k (.v (.bool false)))⟩])
 (.seq (.reg false [⟨some 22, none, [], .call 9 []⟩,
  ⟨some 7, none, [], .mv (.t 22)⟩])
 (.seq (.seq (.reg false [⟨some 23, none, [], .mv (.t 7)⟩,
  ⟨some 24, none, [], .bnot (.t 23)⟩])
 (.cond (.t 24)
 (.seq (.reg false [⟨some 6, none, [], .mv (.k (.v (.bool false)))⟩])
 .ret)
 .skip))
 (.seq (.seq (.reg false [⟨some 25, none, [], .mv (.t 0)⟩,
  ⟨some 26, none, [], .len false (.t 25)⟩,
  ⟨some 27, none, [], .ib .gt .i64 (.t 26) (.k (.v (.int .i64 100)))⟩,
  ⟨some 28, none, [], .mv (.t 27)⟩,
  ⟨some 29, some (28, false), [], .mv (.t 2)⟩,
  ⟨some 30, some (28, false), [], .ib .eq .u32 (.t 29) (.k (.v (.int .u32 0)))⟩,
  ⟨some 31, none, [], .pick (.t 28) (.k (.v (.bool true))) (.t 30)⟩])
 (.cond (.t 31)
 (.seq (.reg false [⟨some 6, none, [], .mv (.k (.v (.bool true)))⟩])
 .ret)
 .skip))
 (.seq (.reg false [⟨some 33, none, [], .mv (.t 0)⟩,
  ⟨some 34, none, [], .call 10 [(.t 33)]⟩,
  ⟨some 32, none, [], .mv (.t 34)⟩,
  ⟨some 35, none, [], .ext (.t 32) 0⟩,
  ⟨some 36, none, [], .ext (.t 32) 1⟩,
  ⟨some 8, none, [], .mv (.t 35)⟩,
  ⟨some 9, none, [], .mv (.t 36)⟩])
 (.seq (.reg false [⟨some 37, none, [], .mv (.t 1)⟩,
  ⟨some 38, none, [], .conv .i64 (.t 37)⟩,
  ⟨some 39, none, [], .mv (.t 0)⟩,
  ⟨some 40, none, [], .len false (.t 39)⟩,
  ⟨some 41, none, [], .ib .mul .i64 (.k (.v (.int .i64 8))) (.t 40)⟩,
  ⟨some 42, none, [], .ib .add .i64 (.t 41) (.k (.v (.int .i64 1)))⟩,
  ⟨some 43, none, [], .ib .rem .i64 (.t 38) (.t 42)⟩,
  ⟨some 44, none, [], .ib .add .i64 (.k (.v (.int .i64 8))) (.t 43)⟩,
  ⟨some 10, none, [], .mv (.t 44)⟩])
 (.seq (.reg false [⟨some 11, none, [], .mv (.k (.v (.bool false)))⟩])
 (.seq (.seq (.reg false [⟨some 12, none, [], .mv (.k (.v (.int .i64 0)))⟩])
 (.block 0
 (.loop
 (.seq (.seq (.reg false [⟨some 45, none, [], .mv (.t 12)⟩,
  ⟨some 46, none, [], .ib .lt .i64 (.t 45) (.k (.v (.int .i64 32)))⟩])
 (.cond (.t 46)
 .skip
 (.exit 0)))
 (.seq (.block 1
 (.seq (.seq (.reg false [⟨some 49, none, [], .mv (.t 2)⟩,
  ⟨some 50, none, [], .ib .rem .u32 (.t 49) (.k (.v (.int .u32 2)))⟩,
  ⟨some 51, none, [], .ib .eq .u32 (.t 50) (.k (.v (.int .u32 1)))⟩,
  ⟨some 52, none, [], .mv (.t 51)⟩,
  ⟨some 53, some (52, true), [], .mv (.t 10)⟩,
  ⟨some 54, some (52, true), [], .mv (.t 12)⟩,
  ⟨some 55, some (52, true), [], .ib .add .i64 (.t 53) (.t 54)⟩,
  ⟨some 56, some (52, true), [], .mv (.t 8)⟩,
  ⟨some 57, some (52, true), [], .len false (.t 56)⟩,
  ⟨some 58, some (52, true), [], .ib .mul .i64 (.k (.v (.int .i64 8))) (.t 57)⟩,
  ⟨some 59, some (52, true), [], .ib .sub .i64 (.t 58) (.k (.v (.int .i64 32)))⟩,
  ⟨some 60, some (52, true), [], .ib .lt .i64 (.t 55) (.t 59)⟩,
  ⟨some 61, none, [], .pick (.t 52) (.t 60) (.k (.v (.bool false)))⟩])
 (.cond (.t 61)
 (.seq (.reg false [⟨some 11, none, [], .mv (.k (.v (.bool true)))⟩])
 (.seq (.reg false [⟨some 62, none, [], .mv (.t 10)⟩,
  ⟨some 63, none, [], .mv (.t 12)⟩,
  ⟨some 64, none, [], .ib .add .i64 (.t 62) (.t 63)⟩,
  ⟨some 13, none, [], .mv (.t 64)⟩])
 (.seq (.reg false [⟨some 14, none, [], .mv (.k (.v (.int .u8 1)))⟩])
 (.seq (.seq (.reg false [⟨some 15, none, [], .mv (.k (.v (.int .i64 0)))⟩])
 (.block 2
 (.loop
 (.seq (.seq (.reg false [⟨some 65, none, [], .mv (.t 15)⟩,
  ⟨some 66, none, [], .mv (.t 13)⟩,
  ⟨some 67, none, [], .ib .rem .i64 (.t 66) (.k (.v (.int .i64 8)))⟩,
  ⟨some 68, none, [], .ib .lt .i64 (.t 65) (.t 67)⟩])
 (.cond (.t 68)
 .skip
 (.exit 2)))
 (.seq (.block 3
 (.reg false [⟨some 71, none, [], .mv (.t 14)⟩,
  ⟨some 72, none, [], .ib .mul .u8 (.t 71) (.k (.v (.int .u8 2)))⟩,
  ⟨some 14, none, [], .mv (.t 72)⟩]))
 (.reg false [⟨some 69, none, [], .mv (.t 15)⟩,
  ⟨some 70, none, [], .ib .add .i64 (.t 69) (.k (.v (.int .i64 1)))⟩,
  ⟨some 15, none, [], .mv (.t 70)⟩]))))))
 (.reg false [⟨some 73, none, [], .mv (.t 8)⟩,
  ⟨some 74, none, [], .mv (.t 13)⟩,
  ⟨some 75, none, [], .ib .quo .i64 (.t 74) (.k (.v (.int .i64 8)))⟩,
  ⟨some 76, none, [], .mv (.t 8)⟩,
  ⟨some 77, none, [], .mv (.t 13)⟩,
  ⟨some 78, none, [], .ib .quo .i64 (.t 77) (.k (.v (.int .i64 8)))⟩,
  ⟨some 79, none, [], .idx (.t 76) (.t 78) 1⟩,
  ⟨some 80, none, [], .ld (.t 79)⟩,
  ⟨some 81, none, [], .mv (.t 14)⟩,
  ⟨some 82, none, [], .ib .xor .u8 (.t 80) (.t 81)⟩,
  ⟨some 83, none, [], .idx (.t 73) (.t 75) 1⟩,
  ⟨none, none, [], .st (.t 83) (.t 82) 1⟩])))))
 .skip))
 (.reg false [⟨some 84, none, [], .mv (.t 2)⟩,
  ⟨some 85, none, [], .ib .quo .u32 (.t 84) (.k (.v (.int .u32 2)))⟩,
  ⟨some 2, none, [], .mv (.t 85)⟩])))
 (.reg false [⟨some 47, none, [], .mv (.t 12)⟩,
  ⟨some 48, none, [], .ib .add .i64 (.t 47) (.k (.v (.int .i64 1)))⟩,
  ⟨some 12, none, [], .mv (.t 48)⟩]))))))
 (.seq (.seq (.reg false [⟨some 86, none, [], .mv (.t 11)⟩,
  ⟨some 87, none, [], .bnot (.t 86)⟩])
 (.cond (.t 87)
 (.seq (.reg false [⟨some 6, none, [], .mv (.k (.v (.bool true)))⟩])
 .ret)
 .skip))
 (.seq (.reg false [⟨some 89, none, [], .mv (.t 8)⟩,
  ⟨some 90, none, [], .call 12 [(.t 89)]⟩,
  ⟨some 88, none, [], .mv (.t 90)⟩,
  ⟨some 91, none, [], .ext (.t 88) 0⟩,
  ⟨some 92, none, [], .ext (.t 88) 1⟩,
  ⟨some 93, none, [], .ext (.t 88) 2⟩,
  ⟨some 16, none, [], .mv (.t 91)⟩,
  ⟨some 17, none, [], .mv (.t 92)⟩,
  ⟨some 18, none, [], .mv (.t 93)⟩])
 (.seq (.reg false [⟨some 95, none, [], .mv (.t 8)⟩,
  ⟨some 96, none, [], .call 16 [(.t 95)]⟩,
  ⟨some 94, none, [], .mv (.t 96)⟩,
  ⟨some 97, none, [], .ext (.t 94) 0⟩,
  ⟨some 98, none, [], .ext (.t 94) 1⟩,
  ⟨some 99, none, [], .ext (.t 94) 2⟩,
  ⟨some 19, none, [], .mv (.t 97)⟩,
  ⟨some 20, none, [], .mv (.t 98)⟩,
  ⟨some 21, none, [], .mv (.t 99)⟩])
 (.seq (.reg false [⟨some 100, none, [], .mv (.t 16)⟩,
  ⟨some 101, none, [], .len false (.t 100)⟩,
  ⟨some 102, none, [], .ib .eq .i64 (.t 101) (.k (.v (.int .i64 0)))⟩,
  ⟨some 103, none, [], .mv (.t 102)⟩,
  ⟨some 104, some (103, true), [], .mv (.t 17)⟩,
  ⟨some 105, some (103, true), [], .ib .eq .i64 (.t 104) (.k (.v (.int .i64 0)))⟩,
  ⟨some 106, none, [], .pick (.t 103) (.t 105) (.k (.v (.bool false)))⟩,
  ⟨some 107, none, [], .mv (.t 106)⟩,
  ⟨some 108, some (107, true), [], .mv (.t 18)⟩,
  ⟨some 109, some (107, true), [], .ib .eq .i64 (.t 108) (.k (.v (.int .i64 12)))⟩,
  ⟨some 110, none, [], .pick (.t 107) (.t 109) (.k (.v (.bool false)))⟩,
  ⟨some 111, none, [], .mv (.t 110)⟩,
  ⟨some 112, some (111, true), [], .mv (.t 19)⟩,
  ⟨some 113, some (111, true), [], .len false (.t 112)⟩,
  ⟨some 114, some (111, true), [], .ib .eq .i64 (.t 113) (.k (.v (.int .i64 0)))⟩,
  ⟨some 115, none, [], .pick (.t 111) (.t 114) (.k (.v (.bool false)))⟩,
  ⟨some 116, none, [], .mv (.t 115)⟩,
  ⟨some 117, some (116, true), [], .mv (.t 20)⟩,
  ⟨some 118, some (116, true), [], .ib .eq .i64 (.t 117) (.k (.v (.int .i64 0)))⟩,
  ⟨some 119, none, [], .pick (.t 116) (.t 118) (.k (.v (.bool false)))⟩,
  ⟨some 120, none, [], .mv (.t 119)⟩,
  ⟨some 121, some (120, true), [], .mv (.t 21)⟩,
  ⟨some 122, some (120, true), [], .ib .eq .i64 (.t 121) (.k (.v (.int .i64 12)))⟩,
  ⟨some 123, none, [], .pick (.t 120) (.t 122) (.k (.v (.bool false)))⟩,
  ⟨some 6, none, [], .mv (.t 123)⟩])
 .ret))))))))))))
theorem comp_6 : compF Tryd.prog Tryd.f6 = some (ic_6, [.t 6], 124) := by kernel_rfl
-- ros 6 [(some (.bs 5)), none, none] TYS [(.bytes 5), (.int .u16), (.int .u32)]

/-- tollbar/tollbarlaw04.FrameXors -/
def ic_7 : IC := (.seq (.reg false [⟨some 6, none, [], .mv (.k (.v (.bool false)))⟩])
 (.seq (.reg false [⟨some 11, none, [], .call 9 []⟩,
  ⟨some 7, none, [], .mv (.t 11)⟩])
 (.seq (.seq (.reg false [⟨some 12, none, [], .mv (.t 7)⟩,
  ⟨some 13, none, [], .bnot (.t 12)⟩])
 (.cond (.t 13)
 (.seq (.reg false [⟨some 6, none, [], .mv (.k (.v (.bool false)))⟩])
 .ret)
 .skip))
 (.seq (.reg false [⟨some 14, none, [], .mv (.t 0)⟩,
  ⟨some 15, none, [], .len false (.t 14)⟩,
  ⟨some 16, none, [], .mv (.t 1)⟩,
  ⟨some 17, none, [], .len false (.t 16)⟩,
  ⟨some 18, none, [], .mn (.t 15) (.t 17)⟩,
  ⟨some 8, none, [], .mv (.t 18)⟩])
 (.seq (.reg false [⟨some 19, none, [], .mv (.t 8)⟩,
  ⟨some 20, none, [], .mv (.t 2)⟩,
  ⟨some 21, none, [], .len false (.t 20)⟩,
  ⟨some 22, none, [], .mn (.t 19) (.t 21)⟩,
  ⟨some 8, none, [], .mv (.t 22)⟩])
 (.seq (.seq (.reg false [⟨some 23, none, [], .mv (.t 8)⟩,
  ⟨some 24, none, [], .ib .gt .i64 (.t 23) (.k (.v (.int .i64 500)))⟩])
 (.cond (.t 24)
 (.seq (.reg false [⟨some 6, none, [], .mv (.k (.v (.bool true)))⟩])
 .ret)
 .skip))
 (.seq (.reg false [⟨some 25, none, [], .mv (.t 8)⟩,
  ⟨some 26, none, [], .mks (.bs 5) 1 (.t 25) (.t 25)⟩,
  ⟨some 9, none, [], .mv (.t 26)⟩])
 (.seq (.seq (.reg false [⟨some 10, none, [], .mv (.k (.v (.int .i64 0)))⟩])
 (.block 0
 (.loop
 (.seq (.seq (.reg false [⟨some 27, none, [], .mv (.t 10)⟩,
  ⟨some 28, none, [], .mv (.t 8)⟩,
  ⟨some 29, none, [], .ib .lt .i64 (.t 27) (.t 28)⟩])
 (.cond (.t 29)
 .skip
 (.exit 0)))
 (.seq (.block 1
 (.reg true [⟨some 32, none, [], .mv (.t 9)⟩,
  ⟨some 33, none, [], .mv (.t 10)⟩,
  ⟨some 34, none, [], .mv (.t 0)⟩,
  ⟨some 35, none, [], .mv (.t 10)⟩,
  ⟨some 36, none, [2, 3], .idx (.t 34) (.t 35) 1⟩,
  ⟨some 37, none, [4, 2, 3], .ld (.t 36)⟩,
  ⟨some 38, none, [], .mv (.t 1)⟩,
  ⟨some 39, none, [], .mv (.t 10)⟩,
  ⟨some 40, none, [6, 7], .idx (.t 38) (.t 39) 1⟩,
  ⟨some 41, none, [8, 6, 7], .ld (.t 40)⟩,
  ⟨some 42, none, [5, 4, 2, 3, 9, 8, 6, 7], .ib .xor .u8 (.t 37) (.t 41)⟩,
  ⟨some 43, none, [], .mv (.t 2)⟩,
  ⟨some 44, none, [], .mv (.t 10)⟩,
  ⟨some 45, none, [11, 12], .idx (.t 43) (.t 44) 1⟩,
  ⟨some 46, none, [13, 11, 12], .ld (.t 45)⟩,
  ⟨some 47, none, [10, 5, 4, 2, 3, 9, 8, 6, 7, 14, 13, 11, 12], .ib .xor .u8 (.t 42) (.t 46)⟩,
  ⟨some 48, none, [0, 1, 2, 3, 4, 5, 6, 7, 8, 9, 10, 11, 12, 13, 14, 15], .idx (.t 32) (.t 33) 1⟩,
  ⟨none, none, [16, 0, 1, 2, 3, 4, 5, 6, 7, 8, 9, 10, 11, 12, 13, 14, 15], .st (.t 48) (.t 47) 1⟩]))
 (.reg false [⟨some 30, none, [], .mv (.t 10)⟩,
  ⟨some 31, none, [], .ib .add .i64 (.t 30) (.k (.v (.int .i64 1)))⟩,
  ⟨some 10, none, [], .mv (.t 31)⟩]))))))
 (.seq (.reg true [⟨some 49, none, [], .mv (.t 9)⟩,
  ⟨some 50, none, [0], .call 14 [(.t 49)]⟩,
  ⟨some 51, none, [], .mv (.t 0)⟩,
  ⟨some 52, none, [], .mv (.t 8)⟩,
  ⟨some 53, none, [2, 3], .sls (.t 51) none (some (.t 52)) 1⟩,
  ⟨some 54, none, [4, 2, 3, 1, 0], .call 14 [(.t 53)]⟩,
  ⟨some 55, none, [], .mv (.t 1)⟩,
  ⟨some 56, none, [], .mv (.t 8)⟩,
  ⟨some 57, none, [6, 7], .sls (.t 55) none (some (.t 56)) 1⟩,
  ⟨some 58, none, [8, 6, 7, 5, 4, 2, 3, 1, 0], .call 14 [(.t 57)]⟩,
  ⟨some 59, none, [5, 4, 2, 3, 1, 0, 9, 8, 6, 7], .ib .xor .u32 (.t 54) (.t 58)⟩,
  ⟨some 60, none, [], .mv (.t 2)⟩,
  ⟨some 61, none, [], .mv (.t 8)⟩,
  ⟨some 62, none, [11, 12], .sls (.t 60) none (some (.t 61)) 1⟩,
  ⟨some 63, none, [13, 11, 12, 9, 8, 6, 7, 5, 4, 2, 3, 1, 0], .call 14 [(.t 62)]⟩,
  ⟨some 64, none, [10, 5, 4, 2, 3, 1, 0, 9, 8, 6, 7, 14, 13, 11, 12], .ib .xor .u32 (.t 59) (.t 63)⟩,
  ⟨some 65, none, [1, 0, 15, 10, 5, 4, 2, 3, 9, 8, 6, 7, 14, 13, 11, 12], .ib .eq .u32 (.t 50) (.t 64)⟩,
  ⟨some 66, none, [16, 1, 0, 15, 10, 5, 4, 2, 3, 9, 8, 6, 7, 14, 13, 11, 12], .mv (.t 65)⟩,
  ⟨some 67, some (66, true), [17, 16, 1, 0, 15, 10, 5, 4, 2, 3, 9, 8, 6, 7, 14, 13, 11, 12], .call 14 [(.k .nsl)]⟩,
  ⟨some 68, some (66, true), [18, 17, 16, 1, 0, 15, 10, 5, 4, 2, 3, 9, 8, 6, 7, 14, 13, 11, 12], .ib .eq .u32 (.t 67) (.k (.v (.int .u32 0)))⟩,
  ⟨some 69, none, [17, 16, 1, 0, 15, 10, 5, 4, 2, 3, 9, 8, 6, 7, 14, 13, 11, 12, 19, 18], .pick (.t 66) (.t 68) (.k (.v (.bool false)))⟩,
  ⟨some 6, none, [20, 17, 16, 1, 0, 15, 10, 5, 4, 2, 3, 9, 8, 6, 7, 14, 13, 11, 12, 19, 18], .mv (.t 69)⟩])
 .ret)))))))))
theorem comp_7 : compF Tryd.prog Tryd.f7 = some (ic_7, [.t 6], 70) := by kernel_rfl
-- ros 7 [(some (.bs 5)), (some (.bs 5)), (some (.bs 5))] TYS [(.bytes 5), (.bytes 5), (.bytes 5)]

/-- tollbar/tollbarlaw04.FrameBehind -/
def ic_8 : IC := (.seq (.reg false [⟨some 6, none, [], .mv (.k (.v (.bool false)))⟩])
 (.seq (.reg false [⟨some 22, none, [], .call 9 []⟩,
  ⟨some 7, none, [], .mv (.t 22)⟩])
 (.seq (.seq (.reg false [⟨some 23, none, [], .mv (.t 7)⟩,
  ⟨some 24, none, [], .bnot (.t 23)⟩])
 (.cond (.t 24)
 (.seq (.reg false [⟨some 6, none, [], .mv (.k (.v (.bool false)))⟩])
 .ret)
 .skip))
 (.seq (.seq (.reg false [⟨some 25, none, [], .mv (.t 0)⟩,
  ⟨some 26, none, [], .len false (.t 25)⟩,
  ⟨some 27, none, [], .ib .gt .i64 (.t 26) (.k (.v (.int .i64 300)))⟩,
  ⟨some 28, none, [], .mv (.t 27)⟩,
  ⟨some 29, some (28, false), [], .mv (.t 1)⟩,
  ⟨some 30, some (28, false), [], .len false (.t 29)⟩,
  ⟨some 31, some (28, false), [], .ib .gt .i64 (.t 30) (.k (.v (.int .i64 300)))⟩,
  ⟨some 32, none, [], .pick (.t 28) (.k (.v (.bool true))) (.t 31)⟩,
  ⟨some 33, none, [], .mv (.t 32)⟩,
  ⟨some 34, some (33, false), [], .mv (.t 2)⟩,
  ⟨some 35, some (33, false), [], .len false (.t 34)⟩,
  ⟨some 36, some (33, false), [], .ib .gt .i64 (.t 35) (.k (.v (.int .i64 300)))⟩,
  ⟨some 37, none, [], .pick (.t 33) (.k (.v (.bool true))) (.t 36)⟩])
 (.cond (.t 37)
 (.seq (.reg false [⟨some 6, none, [], .mv (.k (.v (.bool true)))⟩])
 .ret)
 .skip))
 (.seq (.reg false [⟨some 39, none, [], .mv (.t 0)⟩,
  ⟨some 40, none, [], .call 10 [(.t 39)]⟩,
  ⟨some 38, none, [], .mv (.t 40)⟩,
  ⟨some 41, none, [], .ext (.t 38) 0⟩,
  ⟨some 42, none, [], .ext (.t 38) 1⟩,
  ⟨some 8, none, [], .mv (.t 41)⟩,
  ⟨some 9, none, [], .mv (.t 42)⟩])
 (.seq (.reg false [⟨some 44, none, [], .mv (.t 1)⟩,
  ⟨some 45, none, [], .call 10 [(.t 44)]⟩,
  ⟨some 43, none, [], .mv (.t 45)⟩,
  ⟨some 46, none, [], .ext (.t 43) 0⟩,
  ⟨some 47, none, [], .ext (.t 43) 1⟩,
  ⟨some 10, none, [], .mv (.t 46)⟩,
  ⟨some 11, none, [], .mv (.t 47)⟩])
 (.seq (.reg false [⟨some 12, none, [], .mv (.k .nsl)⟩])
 (.seq (.reg false [⟨some 48, none, [], .mv (.t 12)⟩,
  ⟨some 49, none, [], .mv (.t 8)⟩,
  ⟨some 50, none, [], .app (.bs 5) 1 (.t 48) (.t 49)⟩,
  ⟨some 12, none, [], .mv (.t 50)⟩])
 (.seq (.reg false [⟨some 51, none, [], .mv (.t 12)⟩,
  ⟨some 52, none, [], .mv (.t 10)⟩,
  ⟨some 53, none, [], .app (.bs 5) 1 (.t 51) (.t 52)⟩,
  ⟨some 12, none, [], .mv (.t 53)⟩])
 (.seq (.reg false [⟨some 54, none, [], .mv (.t 12)⟩,
  ⟨some 55, none, [], .mv (.t 2)⟩,
  ⟨some 56, none, [], .app (.bs 5) 1 (.t 54) (.t 55)⟩,
  ⟨some 12, none, [], .mv (.t 56)⟩])
 (.seq (.reg false [⟨some 58, none, [], .mv (.t 12)⟩,
  ⟨some 59, none, [], .call 12 [(.t 58)]⟩,
  ⟨some 57, none, [], .mv (.t 59)⟩,
  ⟨some 60, none, [], .ext (.t 57) 0⟩,
  ⟨some 61, none, [], .ext (.t 57) 1⟩,
  ⟨some 62, none, [], .ext (.t 57) 2⟩,
  ⟨some 13, none, [], .mv (.t 60)⟩,
  ⟨some 14, none, [], .mv (.t 61)⟩,
  ⟨some 15, none, [], .mv (.t 62)⟩])
 (.seq (.seq (.reg false [⟨some 63, none, [], .mv (.t 15)⟩,
  ⟨some 64, none, [], .ib .ne .i64 (.t 63) (.k (.v (.int .i64 0)))⟩,
  ⟨some 65, none, [], .mv (.t 64)⟩,
  ⟨some 66, some (65, false), [], .mv (.t 14)⟩,
  ⟨some 67, some (65, false), [], .mv (.t 8)⟩,
  ⟨some 68, some (65, false), [], .len false (.t 67)⟩,
  ⟨some 69, some (65, false), [], .ib .ne .i64 (.t 66) (.t 68)⟩,
  ⟨some 70, none, [], .pick (.t 65) (.k (.v (.bool true))) (.t 69)⟩,
  ⟨some 71, none, [], .mv (.t 70)⟩,
  ⟨some 72, some (71, false), [], .mv (.t 13)⟩,
  ⟨some 73, some (71, false), [], .b2s (.t 72)⟩,
  ⟨some 74, some (71, false), [], .mv (.t 0)⟩,
  ⟨some 75, some (71, false), [], .b2s (.t 74)⟩,
  ⟨some 76, some (71, false), [], .sb .ne (.t 73) (.t 75)⟩,
  ⟨some 77, none, [], .pick (.t 71) (.k (.v (.bool true))) (.t 76)⟩])
 (.cond (.t 77)
 (.seq (.reg false [⟨some 6, none, [], .mv (.k (.v (.bool false)))⟩])
 .ret)
 .skip))
 (.seq (.reg false [⟨some 79, none, [], .mv (.t 12)⟩,
  ⟨some 80, none, [], .mv (.t 14)⟩,
  ⟨some 81, none, [], .sls (.t 79) (some (.t 80)) none 1⟩,
  ⟨some 82, none, [], .call 12 [(.t 81)]⟩,
  ⟨some 78, none, [], .mv (.t 82)⟩,
  ⟨some 83, none, [], .ext (.t 78) 0⟩,
  ⟨some 84, none, [], .ext (.t 78) 1⟩,
  ⟨some 85, none, [], .ext (.t 78) 2⟩,
  ⟨some 16, none, [], .mv (.t 83)⟩,
  ⟨some 17, none, [], .mv (.t 84)⟩,
  ⟨some 18, none, [], .mv (.t 85)⟩])
 (.seq (.reg false [⟨some 87, none, [], .mv (.t 12)⟩,
  ⟨some 88, none, [], .call 16 [(.t 87)]⟩,
  ⟨some 86, none, [], .mv (.t 88)⟩,
  ⟨some 89, none, [], .ext (.t 86) 0⟩,
  ⟨some 90, none, [], .ext (.t 86) 1⟩,
  ⟨some 91, none, [], .ext (.t 86) 2⟩,
  ⟨some 19, none, [], .mv (.t 89)⟩,
  ⟨some 20, none, [], .mv (.t 90)⟩,
  ⟨some 21, none, [], .mv (.t 91)⟩])
 (.seq (.reg false [⟨some 92, none, [], .mv (.t 18)⟩,
  ⟨some 93, none, [], .ib .eq .i64 (.t 92) (.k (.v (.int .i64 0)))⟩,
  ⟨some 94, none, [], .mv (.t 93)⟩,
  ⟨some 95, some (94, true), [], .mv (.t 17)⟩,
  ⟨some 96, some (94, true), [], .mv (.t 10)⟩,
  ⟨some 97, some (94, true), [], .len false (.t 96)⟩,
  ⟨some 98, some (94, true), [], .ib .eq .i64 (.t 95) (.t 97)⟩,
  ⟨some 99, none, [], .pick (.t 94) (.t 98) (.k (.v (.bool false)))⟩,
  ⟨some 100, none, [], .mv (.t 99)⟩,
  ⟨some 101, some (100, true), [], .mv (.t 16)⟩,
  ⟨some 102, some (100, true), [], .b2s (.t 101)⟩,
  ⟨some 103, some (100, true), [], .mv (.t 1)⟩,
  ⟨some 104, some (100, true), [], .b2s (.t 103)⟩,
  ⟨some 105, some (100, true), [], .sb .eq (.t 102) (.t 104)⟩,
  ⟨some 106, none, [], .pick (.t 100) (.t 105) (.k (.v (.bool false)))⟩,
  ⟨some 107, none, [], .mv (.t 106)⟩,
  ⟨some 108, some (107, true), [], .mv (.t 19)⟩,
  ⟨some 109, some (107, true), [], .len false (.t 108)⟩,
  ⟨some 110, some (107, true), [], .ib .ge .i64 (.t 109) (.k (.v (.int .i64 2)))⟩,
  ⟨some 111, none, [], .pick (.t 107) (.t 110) (.k (.v (.bool false)))⟩,
  ⟨some 112, none, [], .mv (.t 111)⟩,
  ⟨some 113, some (112, true), [], .mv (.t 20)⟩,
  ⟨some 114, some (112, true), [], .mv (.t 14)⟩,
  ⟨some 115, some (112, true), [], .mv (.t 17)⟩,
  ⟨some 116, some (112, true), [], .ib .add .i64 (.t 114) (.t 115)⟩,
  ⟨some 117, some (112, true), [], .ib .ge .i64 (.t 113) (.t 116)⟩,
  ⟨some 118, none, [], .pick (.t 112) (.t 117) (.k (.v (.bool false)))⟩,
  ⟨some 6, none, [], .mv (.t 118)⟩])
 .ret)))))))))))))))
theorem comp_8 : compF Tryd.prog Tryd.f8 = some (ic_8, [.t 6], 119) := by kernel_rfl
-- ros 8 [(some (.bs 5)), (some (.bs 5)), (some (.bs 5))] TYS [(.bytes 5), (.bytes 5), (.bytes 5)]

/-- tollbar/tollbarlaw04.awake -/
def ic_9 : IC := (.seq (.reg false [⟨some 0, none, [], .mv (.k (.v (.bool false)))⟩])
 (.seq (.reg false [⟨some 10, none, [], .bsl (.bs 5) 2 [(.v (.int .u8 0)), (.v (.int .u8 0))] [(0, 1, (.k (.v (.int .u8 97)))), (1, 1, (.k (.v (.int .u8 98))))]⟩,
  ⟨some 11, none, [], .cvs (.t 10)⟩,
  ⟨some 12, none, [], .call 10 [(.t 11)]⟩,
  ⟨some 9, none, [], .mv (.t 12)⟩,
  ⟨some 13, none, [], .ext (.t 9) 0⟩,
  ⟨some 14, none, [], .ext (.t 9) 1⟩,
  ⟨some 1, none, [], .mv (.t 13)⟩,
  ⟨some 2, none, [], .mv (.t 14)⟩])
 (.seq (.reg false [⟨some 16, none, [], .mv (.t 1)⟩,
  ⟨some 17, none, [], .call 12 [(.t 16)]⟩,
  ⟨some 15, none, [], .mv (.t 17)⟩,
  ⟨some 18, none, [], .ext (.t 15) 0⟩,
  ⟨some 19, none, [], .ext (.t 15) 1⟩,
  ⟨some 20, none, [], .ext (.t 15) 2⟩,
  ⟨some 3, none, [], .mv (.t 18)⟩,
  ⟨some 4, none, [], .mv (.t 19)⟩,
  ⟨some 5, none, [], .mv (.t 20)⟩])
 (.seq (.reg false [⟨some 22, none, [], .mv (.t 1)⟩,
  ⟨some 23, none, [], .call 16 [(.t 22)]⟩,
  ⟨some 21, none, [], .mv (.t 23)⟩,
  ⟨some 24, none, [], .ext (.t 21) 0⟩,
  ⟨some 25, none, [], .ext (.t 21) 1⟩,
  ⟨some 26, none, [], .ext (.t 21) 2⟩,
  ⟨some 6, none, [], .mv (.t 24)⟩,
  ⟨some 7, none, [], .mv (.t 25)⟩,
  ⟨some 8, none, [], .mv (.t 26)⟩])
 (.seq (.reg false [⟨some 27, none, [], .bsl (.bs 5) 9 [(.v (.int .u8 0)), (.v (.int .u8 0)), (.v (.int .u8 0)), (.v (.int .u8 0)), (.v (.int .u8 0)), (.v (.int .u8 0)), (.v (.int .u8 0)), (.v (.int .u8 0)), (.v (.int .u8 0))] [(0, 1, (.k (.v (.int .u8 49)))), (1, 1, (.k (.v (.int .u8 50)))), (2, 1, (.k (.v (.int .u8 51)))), (3, 1, (.k (.v (.int .u8 52)))), (4, 1, (.k (.v (.int .u8 53)))), (5, 1, (.k (.v (.int .u8 54)))), (6, 1, (.k (.v (.int .u8 55)))), (7, 1, (.k (.v (.int .u8 56)))), (8, 1, (.k (.v (.int .u8 57))))]⟩,
  ⟨some 28, none, [], .cvs (.t 27)⟩,
  ⟨some 29, none, [], .call 14 [(.t 28)]⟩,
  ⟨some 30, none, [], .ib .eq .u32 (.t 29) (.k (.v (.int .u32 3808858755)))⟩,
  ⟨some 31, none, [], .mv (.t 30)⟩,
  ⟨some 32, some (31, true), [], .mv (.t 2)⟩,
  ⟨some 33, some (31, true), [], .ib .eq .i64 (.t 32) (.k (.v (.int .i64 0)))⟩,
  ⟨some 34, none, [], .pick (.t 31) (.t 33) (.k (.v (.bool false)))⟩,
  ⟨some 35, none, [], .mv (.t 34)⟩,
  ⟨some 36, some (35, true), [], .mv (.t 1)⟩,
  ⟨some 37, some (35, true), [], .len false (.t 36)⟩,
  ⟨some 38, some (35, true), [], .ib .eq .i64 (.t 37) (.k (.v (.int .i64 7)))⟩,
  ⟨some 39, none, [], .pick (.t 35) (.t 38) (.k (.v (.bool false)))⟩,
  ⟨some 40, none, [], .mv (.t 39)⟩,
  ⟨some 41, some (40, true), [], .mv (.t 3)⟩,
  ⟨some 42, some (40, true), [], .b2s (.t 41)⟩,
  ⟨some 43, some (40, true), [], .sb .eq (.t 42) (.k (.str [97, 98]))⟩,
  ⟨some 44, none, [], .pick (.t 40) (.t 43) (.k (.v (.bool false)))⟩,
  ⟨some 45, none, [], .mv (.t 44)⟩,
  ⟨some 46, some (45, true), [], .mv (.t 4)⟩,
  ⟨some 47, some (45, true), [], .ib .eq .i64 (.t 46) (.k (.v (.int .i64 7)))⟩,
  ⟨some 48, none, [], .pick (.t 45) (.t 47) (.k (.v (.bool false)))⟩,
  ⟨some 49, none, [], .mv (.t 48)⟩,
  ⟨some 50, some (49, true), [], .mv (.t 5)⟩,
  ⟨some 51, some (49, true), [], .ib .eq .i64 (.t 50) (.k (.v (.int .i64 0)))⟩,
  ⟨some 52, none, [], .pick (.t 49) (.t 51) (.k (.v (.bool false)))⟩,
  ⟨some 53, none, [], .mv (.t 52)⟩,
  ⟨some 54, some (53, true), [], .mv (.t 6)⟩,
  ⟨some 55, some (53, true), [], .len false (.t 54)⟩,
  ⟨some 56, some (53, true), [], .ib .eq .i64 (.t 55) (.k (.v (.int .i64 1)))⟩,
  ⟨some 57, none, [], .pick (.t 53) (.t 56) (.k (.v (.bool false)))⟩,
  ⟨some 58, none, [], .mv (.t 57)⟩,
  ⟨some 59, some (58, true), [], .mv (.t 7)⟩,
  ⟨some 60, some (58, true), [], .ib .eq .i64 (.t 59) (.k (.v (.int .i64 7)))⟩,
  ⟨some 61, none, [], .pick (.t 58) (.t 60) (.k (.v (.bool false)))⟩,
  ⟨some 62, none, [], .mv (.t 61)⟩,
  ⟨some 63, some (62, true), [], .mv (.t 8)⟩,
  ⟨some 64, some (62, true), [], .ib .eq .i64 (.t 63) (.k (.v (.int .i64 0)))⟩,
  ⟨some 65, none, [], .pick (.t 62) (.t 64) (.k (.v (.bool false)))⟩,
  ⟨some 0, none, [], .mv (.t 65)⟩])
 .ret)))))
theorem comp_9 : compF Tryd.prog Tryd.f9 = some (ic_9, [.t 0], 66) := by kernel_rfl
-- ros 9 [] TYS []

/-- tollbar/frame.Put -/
def ic_10 : IC := (.seq (.reg false [⟨some 2, none, [], .mv (.k .nsl)⟩,
  ⟨some 3, none, [], .mv (.k (.v (.int .i64 0)))⟩])
 (.seq (.seq (.reg false [⟨some 5, none, [], .mv (.t 0)⟩,
  ⟨some 6, none, [], .len false (.t 5)⟩,
  ⟨some 7, none, [], .ib .gt .i64 (.t 6) (.k (.v (.int .i64 8192)))⟩])
 (.cond (.t 7)
 (.seq (.reg false [⟨some 2, none, [], .mv (.k .nsl)⟩,
  ⟨some 3, none, [], .mv (.k (.v (.int .i64 14)))⟩])
 .ret)
 .skip))
 (.seq (.reg false [⟨some 8, none, [], .mv (.t 0)⟩,
  ⟨some 9, none, [], .len false (.t 8)⟩,
  ⟨some 10, none, [], .conv .u64 (.t 9)⟩,
  ⟨some 11, none, [], .call 20 [(.t 10)]⟩,
  ⟨some 12, none, [], .mv (.t 0)⟩,
  ⟨some 13, none, [], .app (.bs 5) 1 (.t 11) (.t 12)⟩,
  ⟨some 4, none, [], .mv (.t 13)⟩])
 (.seq (.reg false [⟨some 14, none, [], .mv (.t 4)⟩,
  ⟨some 15, none, [], .mv (.t 4)⟩,
  ⟨some 16, none, [], .call 14 [(.t 15)]⟩,
  ⟨some 17, none, [], .conv .u64 (.t 16)⟩,
  ⟨some 18, none, [], .call 21 [(.t 17), (.k (.v (.int .i64 4)))]⟩,
  ⟨some 19, none, [], .app (.bs 5) 1 (.t 14) (.t 18)⟩,
  ⟨some 2, none, [], .mv (.t 19)⟩,
  ⟨some 3, none, [], .mv (.k (.v (.int .i64 0)))⟩])
 .ret))))
theorem comp_10 : compF Tryd.prog Tryd.f10 = some (ic_10, [.t 2, .t 3], 20) := by kernel_rfl
-- ros 10 [(some (.bs 5))] TYS [(.bytes 5)]

/-- tollbar/tollbarref04.Put -/
def ic_11 : IC := (.seq (.reg false [⟨some 2, none, [], .mv (.k (.str []))⟩,
  ⟨some 3, none, [], .mv (.k (.v (.int .i64 0)))⟩])
 (.seq (.seq (.reg false [⟨some 5, none, [], .mv (.t 0)⟩,
  ⟨some 6, none, [], .len true (.t 5)⟩,
  ⟨some 7, none, [], .ib .gt .i64 (.t 6) (.k (.v (.int .i64 8192)))⟩])
 (.cond (.t 7)
 (.seq (.reg false [⟨some 2, none, [], .mv (.k (.str []))⟩,
  ⟨some 3, none, [], .mv (.k (.v (.int .i64 14)))⟩])
 .ret)
 .skip))
 (.seq (.reg false [⟨some 8, none, [], .mv (.t 0)⟩,
  ⟨some 9, none, [], .len true (.t 8)⟩,
  ⟨some 10, none, [], .conv .u64 (.t 9)⟩,
  ⟨some 11, none, [], .call 22 [(.t 10)]⟩,
  ⟨some 12, none, [], .mv (.t 0)⟩,
  ⟨some 13, none, [], .sb .add (.t 11) (.t 12)⟩,
  ⟨some 4, none, [], .mv (.t 13)⟩])
 (.seq (.reg false [⟨some 14, none, [], .mv (.t 4)⟩,
  ⟨some 15, none, [], .mv (.t 4)⟩,
  ⟨some 16, none, [], .call 15 [(.t 15)]⟩,
  ⟨some 17, none, [], .conv .u64 (.t 16)⟩,
  ⟨some 18, none, [], .call 23 [(.t 17), (.k (.v (.int .i64 4)))]⟩,
  ⟨some 19, none, [], .sb .add (.t 14) (.t 18)⟩,
  ⟨some 2, none, [], .mv (.t 19)⟩,
  ⟨some 3, none, [], .mv (.k (.v (.int .i64 0)))⟩])
 .ret))))
theorem comp_11 : compF Tryd.prog Tryd.f11 = some (ic_11, [.t 2, .t 3], 20) := by kernel_rfl
-- ros 11 [none] TYS [.str]

/-- tollbar/frame.Get -/
def ic_12 : IC := (.seq (.reg false [⟨some 2, none, [], .mv (.k .nsl)⟩,
  ⟨some 3, none, [], .mv (.k (.v (.int .i64 0)))⟩,
  ⟨some 4, none, [], .mv (.k (.v (.int .i64 0)))⟩])
 (.seq (.reg false [⟨some 10, none, [], .mv (.t 0)⟩,
  ⟨some 11, none, [], .call 24 [(.t 10)]⟩,
  ⟨some 9, none, [], .mv (.t 11)⟩,
  ⟨some 12, none, [], .ext (.t 9) 0⟩,
  ⟨some 13, none, [], .ext (.t 9) 1⟩,
  ⟨some 14, none, [], .ext (.t 9) 2⟩,
  ⟨some 5, none, [], .mv (.t 12)⟩,
  ⟨some 6, none, [], .mv (.t 13)⟩,
  ⟨some 7, none, [], .mv (.t 14)⟩])
 (.seq (.block 0
 (.seq (.reg false [⟨some 16, none, [], .mv (.t 7)⟩,
  ⟨some 17, none, [], .ib .ne .i64 (.t 16) (.k (.v (.int .i64 0)))⟩,
  ⟨some 15, none, [], .mv (.t 17)⟩])
 (.cond (.t 15)
 (.seq (.reg false [⟨some 18, none, [], .mv (.t 7)⟩,
  ⟨some 2, none, [], .mv (.k .nsl)⟩,
  ⟨some 3, none, [], .mv (.k (.v (.int .i64 0)))⟩,
  ⟨some 4, none, [], .mv (.t 18)⟩])
 .ret)
 (.seq (.reg false [⟨some 20, none, [], .mv (.t 5)⟩,
  ⟨some 21, none, [], .ib .gt .u64 (.t 20) (.k (.v (.int .u64 8192)))⟩,
  ⟨some 19, none, [], .mv (.t 21)⟩])
 (.cond (.t 19)
 (.seq (.reg false [⟨some 2, none, [], .mv (.k .nsl)⟩,
  ⟨some 3, none, [], .mv (.k (.v (.int .i64 0)))⟩,
  ⟨some 4, none, [], .mv (.k (.v (.int .i64 14)))⟩])
 .ret)
 (.seq (.reg false [⟨some 23, none, [], .mv (.t 6)⟩,
  ⟨some 24, none, [], .mv (.t 5)⟩,
  ⟨some 25, none, [], .conv .i64 (.t 24)⟩,
  ⟨some 26, none, [], .ib .add .i64 (.t 23) (.t 25)⟩,
  ⟨some 27, none, [], .ib .add .i64 (.t 26) (.k (.v (.int .i64 4)))⟩,
  ⟨some 28, none, [], .mv (.t 0)⟩,
  ⟨some 29, none, [], .len false (.t 28)⟩,
  ⟨some 30, none, [], .ib .gt .i64 (.t 27) (.t 29)⟩,
  ⟨some 22, none, [], .mv (.t 30)⟩])
 (.cond (.t 22)
 (.seq (.reg false [⟨some 2, none, [], .mv (.k .nsl)⟩,
  ⟨some 3, none, [], .mv (.k (.v (.int .i64 0)))⟩,
  ⟨some 4, none, [], .mv (.k (.v (.int .i64 10)))⟩])
 .ret)
 .skip)))))))
 (.seq (.reg false [⟨some 31, none, [], .mv (.t 6)⟩,
  ⟨some 32, none, [], .mv (.t 5)⟩,
  ⟨some 33, none, [], .conv .i64 (.t 32)⟩,
  ⟨some 34, none, [], .ib .add .i64 (.t 31) (.t 33)⟩,
  ⟨some 8, none, [], .mv (.t 34)⟩])
 (.seq (.seq (.reg true [⟨some 35, none, [], .mv (.t 0)⟩,
  ⟨some 36, none, [], .mv (.t 8)⟩,
  ⟨some 37, none, [0, 1], .sls (.t 35) none (some (.t 36)) 1⟩,
  ⟨some 38, none, [2, 0, 1], .call 14 [(.t 37)]⟩,
  ⟨some 39, none, [3, 2, 0, 1], .conv .u64 (.t 38)⟩,
  ⟨some 40, none, [4, 3, 2, 0, 1], .call 21 [(.t 39), (.k (.v (.int .i64 4)))]⟩,
  ⟨some 41, none, [], .mv (.t 0)⟩,
  ⟨some 42, none, [], .mv (.t 8)⟩,
  ⟨some 43, none, [], .mv (.t 8)⟩,
  ⟨some 44, none, [8], .ib .add .i64 (.t 43) (.k (.v (.int .i64 4)))⟩,
  ⟨some 45, none, [6, 7, 9, 8], .sls (.t 41) (some (.t 42)) (some (.t 44)) 1⟩,
  ⟨some 46, none, [5, 4, 3, 2, 0, 1, 10, 6, 7, 9, 8], .call 25 [(.t 40), (.t 45)]⟩,
  ⟨some 47, none, [11, 5, 4, 3, 2, 0, 1, 10, 6, 7, 9, 8], .bnot (.t 46)⟩])
 (.cond (.t 47)
 (.seq (.reg false [⟨some 2, none, [], .mv (.k .nsl)⟩,
  ⟨some 3, none, [], .mv (.k (.v (.int .i64 0)))⟩,
  ⟨some 4, none, [], .mv (.k (.v (.int .i64 12)))⟩])
 .ret)
 .skip))
 (.seq (.reg false [⟨some 48, none, [], .mv (.t 0)⟩,
  ⟨some 49, none, [], .mv (.t 6)⟩,
  ⟨some 50, none, [], .mv (.t 8)⟩,
  ⟨some 51, none, [], .sls (.t 48) (some (.t 49)) (some (.t 50)) 1⟩,
  ⟨some 52, none, [], .call 26 [(.t 51)]⟩,
  ⟨some 53, none, [], .mv (.t 8)⟩,
  ⟨some 54, none, [], .ib .add .i64 (.t 53) (.k (.v (.int .i64 4)))⟩,
  ⟨some 2, none, [], .mv (.t 52)⟩,
  ⟨some 3, none, [], .mv (.t 54)⟩,
  ⟨some 4, none, [], .mv (.k (.v (.int .i64 0)))⟩])
 .ret))))))
theorem comp_12 : compF Tryd.prog Tryd.f12 = some (ic_12, [.t 2, .t 3, .t 4], 55) := by kernel_rfl
-- ros 12 [(some (.bs 5))] TYS [(.bytes 5)]

/-- tollbar/tollbarref04.Get -/
def ic_13 : IC := (.seq (.reg false [⟨some 2, none, [], .mv (.k (.str []))⟩,
  ⟨some 3, none, [], .mv (.k (.v (.int .i64 0)))⟩,
  ⟨some 4, none, [], .mv (.k (.v (.int .i64 0)))⟩])
 (.seq (.reg false [⟨some 10, none, [], .mv (.t 0)⟩,
  ⟨some 11, none, [], .call 27 [(.t 10)]⟩,
  ⟨some 9, none, [], .mv (.t 11)⟩,
  ⟨some 12, none, [], .ext (.t 9) 0⟩,
  ⟨some 13, none, [], .ext (.t 9) 1⟩,
  ⟨some 14, none, [], .ext (.t 9) 2⟩,
  ⟨some 5, none, [], .mv (.t 12)⟩,
  ⟨some 6, none, [], .mv (.t 13)⟩,
  ⟨some 7, none, [], .mv (.t 14)⟩])
 (.seq (.seq (.reg false [⟨some 15, none, [], .mv (.t 7)⟩,
  ⟨some 16, none, [], .ib .ne .i64 (.t 15) (.k (.v (.int .i64 0)))⟩])
 (.cond (.t 16)
 (.seq (.reg false [⟨some 17, none, [], .mv (.t 7)⟩,
  ⟨some 2, none, [], .mv (.k (.str []))⟩,
  ⟨some 3, none, [], .mv (.k (.v (.int .i64 0)))⟩,
  ⟨some 4, none, [], .mv (.t 17)⟩])
 .ret)
 .skip))
 (.seq (.seq (.reg false [⟨some 18, none, [], .mv (.t 5)⟩,
  ⟨some 19, none, [], .ib .gt .u64 (.t 18) (.k (.v (.int .u64 8192)))⟩])
 (.cond (.t 19)
 (.seq (.reg false [⟨some 2, none, [], .mv (.k (.str []))⟩,
  ⟨some 3, none, [], .mv (.k (.v (.int .i64 0)))⟩,
  ⟨some 4, none, [], .mv (.k (.v (.int .i64 14)))⟩])
 .ret)
 .skip))
 (.seq (.reg false [⟨some 20, none, [], .mv (.t 6)⟩,
  ⟨some 21, none, [], .mv (.t 5)⟩,
  ⟨some 22, none, [], .conv .i64 (.t 21)⟩,
  ⟨some 23, none, [], .ib .add .i64 (.t 20) (.t 22)⟩,
  ⟨some 8, none, [], .mv (.t 23)⟩])
 (.seq (.seq (.reg false [⟨some 24, none, [], .mv (.t 8)⟩,
  ⟨some 25, none, [], .ib .add .i64 (.t 24) (.k (.v (.int .i64 4)))⟩,
  ⟨some 26, none, [], .mv (.t 0)⟩,
  ⟨some 27, none, [], .len true (.t 26)⟩,
  ⟨some 28, none, [], .ib .gt .i64 (.t 25) (.t 27)⟩])
 (.cond (.t 28)
 (.seq (.reg false [⟨some 2, none, [], .mv (.k (.str []))⟩,
  ⟨some 3, none, [], .mv (.k (.v (.int .i64 0)))⟩,
  ⟨some 4, none, [], .mv (.k (.v (.int .i64 10)))⟩])
 .ret)
 .skip))
 (.seq (.seq (.reg true [⟨some 29, none, [], .mv (.t 0)⟩,
  ⟨some 30, none, [], .mv (.t 8)⟩,
  ⟨some 31, none, [0, 1], .ssl (.t 29) none (some (.t 30))⟩,
  ⟨some 32, none, [2, 0, 1], .call 15 [(.t 31)]⟩,
  ⟨some 33, none, [3, 2, 0, 1], .conv .u64 (.t 32)⟩,
  ⟨some 34, none, [4, 3, 2, 0, 1], .call 23 [(.t 33), (.k (.v (.int .i64 4)))]⟩,
  ⟨some 35, none, [], .mv (.t 0)⟩,
  ⟨some 36, none, [], .mv (.t 8)⟩,
  ⟨some 37, none, [], .mv (.t 8)⟩,
  ⟨some 38, none, [8], .ib .add .i64 (.t 37) (.k (.v (.int .i64 4)))⟩,
  ⟨some 39, none, [6, 7, 9, 8], .ssl (.t 35) (some (.t 36)) (some (.t 38))⟩,
  ⟨some 40, none, [5, 4, 3, 2, 0, 1, 10, 6, 7, 9, 8], .sb .ne (.t 34) (.t 39)⟩])
 (.cond (.t 40)
 (.seq (.reg false [⟨some 2, none, [], .mv (.k (.str []))⟩,
  ⟨some 3, none, [], .mv (.k (.v (.int .i64 0)))⟩,
  ⟨some 4, none, [], .mv (.k (.v (.int .i64 12)))⟩])
 .ret)
 .skip))
 (.seq (.reg false [⟨some 41, none, [], .mv (.t 0)⟩,
  ⟨some 42, none, [], .mv (.t 6)⟩,
  ⟨some 43, none, [], .mv (.t 8)⟩,
  ⟨some 44, none, [], .ssl (.t 41) (some (.t 42)) (some (.t 43))⟩,
  ⟨some 45, none, [], .mv (.t 8)⟩,
  ⟨some 46, none, [], .ib .add .i64 (.t 45) (.k (.v (.int .i64 4)))⟩,
  ⟨some 2, none, [], .mv (.t 44)⟩,
  ⟨some 3, none, [], .mv (.t 46)⟩,
  ⟨some 4, none, [], .mv (.k (.v (.int .i64 0)))⟩])
 .ret))))))))
theorem comp_13 : compF Tryd.prog Tryd.f13 = some (ic_13, [.t 2, .t 3, .t 4], 47) := by kernel_rfl
-- ros 13 [none] TYS [.str]

/-- tollbar/frame.Sum -/
def ic_14 : IC := (.seq (.reg false [⟨some 2, none, [], .mv (.k (.v (.int .u32 0)))⟩])
 (.seq (.reg false [⟨some 3, none, [], .mv (.k (.v (.int .u32 4294967295)))⟩])
 (.seq (.seq (.reg false [⟨some 6, none, [], .mv (.t 0)⟩,
  ⟨some 7, none, [], .len false (.t 6)⟩,
  ⟨some 8, none, [], .mv (.k (.v (.int .i64 0)))⟩])
 (.block 0
 (.loop
 (.seq (.reg false [⟨some 9, none, [], .ib .lt .i64 (.t 8) (.t 7)⟩])
 (.seq (.cond (.t 9)
 .skip
 (.exit 0))
 (.seq (.block 1
 (.seq (.reg false [⟨some 10, none, [], .idx (.t 6) (.t 8) 1⟩,
  ⟨some 11, none, [], .ld (.t 10)⟩,
  ⟨some 5, none, [], .mv (.t 11)⟩])
 (.seq (.reg false [⟨some 12, none, [], .mv (.t 3)⟩,
  ⟨some 13, none, [], .mv (.t 5)⟩,
  ⟨some 14, none, [], .conv .u32 (.t 13)⟩,
  ⟨some 15, none, [], .ib .xor .u32 (.t 12) (.t 14)⟩,
  ⟨some 3, none, [], .mv (.t 15)⟩])
 (.seq (.reg false [⟨some 16, none, [], .mv (.k (.v (.int .i64 0)))⟩])
 (.block 2
 (.loop
 (.seq (.reg false [⟨some 17, none, [], .ib .lt .i64 (.t 16) (.k (.v (.int .i64 2)))⟩])
 (.seq (.cond (.t 17)
 .skip
 (.exit 2))
 (.seq (.block 3
 (.reg false [⟨some 18, none, [], .mv (.t 3)⟩,
  ⟨some 19, none, [], .sh false .u32 (.t 18) (.k (.v (.int .u64 4)))⟩,
  ⟨some 20, none, [], .mv (.t 3)⟩,
  ⟨some 21, none, [], .ib .and .u32 (.t 20) (.k (.v (.int .u32 15)))⟩,
  ⟨some 22, none, [], .gix 0 (.t 21)⟩,
  ⟨some 23, none, [], .ld (.t 22)⟩,
  ⟨some 24, none, [], .ib .xor .u32 (.t 19) (.t 23)⟩,
  ⟨some 3, none, [], .mv (.t 24)⟩]))
 (.reg false [⟨some 25, none, [], .ib .add .i64 (.t 16) (.k (.v (.int .i64 1)))⟩,
  ⟨some 16, none, [], .mv (.t 25)⟩]))))))))))
 (.reg false [⟨some 26, none, [], .ib .add .i64 (.t 8) (.k (.v (.int .i64 1)))⟩,
  ⟨some 8, none, [], .mv (.t 26)⟩])))))))
 (.seq (.reg false [⟨some 27, none, [], .mv (.t 3)⟩,
  ⟨some 28, none, [], .icom .u32 (.t 27)⟩,
  ⟨some 2, none, [], .mv (.t 28)⟩])
 .ret))))
theorem comp_14 : compF Tryd.prog Tryd.f14 = some (ic_14, [.t 2], 29) := by kernel_rfl
-- ros 14 [(some (.bs 5))] TYS [(.bytes 5)]

/-- tollbar/tollbarref04.Sum -/
def ic_15 : IC := (.seq (.reg false [⟨some 2, none, [], .mv (.k (.v (.int .u32 0)))⟩])
 (.seq (.reg false [⟨some 3, none, [], .mv (.k (.v (.int .u32 4294967295)))⟩])
 (.seq (.seq (.reg false [⟨some 4, none, [], .mv (.k (.v (.int .i64 0)))⟩])
 (.block 0
 (.loop
 (.seq (.seq (.reg false [⟨some 7, none, [], .mv (.t 4)⟩,
  ⟨some 8, none, [], .mv (.t 0)⟩,
  ⟨some 9, none, [], .len true (.t 8)⟩,
  ⟨some 10, none, [], .ib .lt .i64 (.t 7) (.t 9)⟩])
 (.cond (.t 10)
 .skip
 (.exit 0)))
 (.seq (.block 1
 (.seq (.reg false [⟨some 13, none, [], .mv (.t 3)⟩,
  ⟨some 14, none, [], .mv (.t 0)⟩,
  ⟨some 15, none, [], .mv (.t 4)⟩,
  ⟨some 16, none, [], .sidx (.t 14) (.t 15)⟩,
  ⟨some 17, none, [], .conv .u32 (.t 16)⟩,
  ⟨some 18, none, [], .ib .xor .u32 (.t 13) (.t 17)⟩,
  ⟨some 3, none, [], .mv (.t 18)⟩])
 (.seq (.reg false [⟨some 5, none, [], .mv (.k (.v (.int .i64 0)))⟩])
 (.block 2
 (.loop
 (.seq (.seq (.reg false [⟨some 19, none, [], .mv (.t 5)⟩,
  ⟨some 20, none, [], .ib .lt .i64 (.t 19) (.k (.v (.int .i64 8)))⟩])
 (.cond (.t 20)
 .skip
 (.exit 2)))
 (.seq (.block 3
 (.seq (.reg false [⟨some 23, none, [], .mv (.t 3)⟩,
  ⟨some 24, none, [], .ib .rem .u32 (.t 23) (.k (.v (.int .u32 2)))⟩,
  ⟨some 25, none, [], .ib .eq .u32 (.t 24) (.k (.v (.int .u32 1)))⟩,
  ⟨some 6, none, [], .mv (.t 25)⟩])
 (.seq (.reg false [⟨some 26, none, [], .mv (.t 3)⟩,
  ⟨some 27, none, [], .ib .quo .u32 (.t 26) (.k (.v (.int .u32 2)))⟩,
  ⟨some 3, none, [], .mv (.t 27)⟩])
 (.seq (.reg false [⟨some 28, none, [], .mv (.t 6)⟩])
 (.cond (.t 28)
 (.reg false [⟨some 29, none, [], .mv (.t 3)⟩,
  ⟨some 30, none, [], .ib .xor .u32 (.t 29) (.k (.v (.int .u32 2197175160)))⟩,
  ⟨some 3, none, [], .mv (.t 30)⟩])
 .skip)))))
 (.reg false [⟨some 21, none, [], .mv (.t 5)⟩,
  ⟨some 22, none, [], .ib .add .i64 (.t 21) (.k (.v (.int .i64 1)))⟩,
  ⟨some 5, none, [], .mv (.t 22)⟩]))))))))
 (.reg false [⟨some 11, none, [], .mv (.t 4)⟩,
  ⟨some 12, none, [], .ib .add .i64 (.t 11) (.k (.v (.int .i64 1)))⟩,
  ⟨some 4, none, [], .mv (.t 12)⟩]))))))
 (.seq (.reg false [⟨some 31, none, [], .mv (.t 3)⟩,
  ⟨some 32, none, [], .ib .sub .u32 (.k (.v (.int .u32 4294967295))) (.t 31)⟩,
  ⟨some 2, none, [], .mv (.t 32)⟩])
 .ret))))
theorem comp_15 : compF Tryd.prog Tryd.f15 = some (ic_15, [.t 2], 33) := by kernel_rfl
-- ros 15 [none] TYS [.str]

/-- tollbar/frame.All -/
def ic_16 : IC := (.seq (.reg false [⟨some 2, none, [], .mv (.k .nsl)⟩,
  ⟨some 3, none, [], .mv (.k (.v (.int .i64 0)))⟩,
  ⟨some 4, none, [], .mv (.k (.v (.int .i64 0)))⟩])
 (.seq (.reg false [⟨some 5, none, [], .new 37 [.nsl]⟩])
 (.seq (.reg false [⟨some 6, none, [], .new 24 [(.v (.int .i64 0))]⟩,
  ⟨some 7, none, [], .new 3 [(.v (.int .i64 0))]⟩,
  ⟨none, none, [], .st (.t 6) (.k (.v (.int .i64 0))) 1⟩,
  ⟨none, none, [], .st (.t 7) (.k (.v (.int .i64 0))) 1⟩])
 (.seq (.seq (.reg false [⟨some 10, none, [], .mv (.t 0)⟩,
  ⟨some 11, none, [], .call 28 [(.t 10), (.t 6)]⟩])
 (.block 0
 (.rfn (.t 11) [12, 13]
 (.seq (.reg false [⟨some 8, none, [], .mv (.t 12)⟩])
 (.reg false [⟨some 9, none, [], .mv (.t 13)⟩]))
 (.block 1
 (.reg false [⟨some 14, none, [], .ld (.t 5)⟩,
  ⟨some 15, none, [], .mv (.t 9)⟩,
  ⟨some 16, none, [], .bsl (.row 22 (.bytes 5)) 1 [.nsl] [(0, 1, (.t 15))]⟩,
  ⟨some 17, none, [], .app (.row 22 (.bytes 5)) 24 (.t 14) (.t 16)⟩,
  ⟨some 18, none, [], .mv (.t 8)⟩,
  ⟨none, none, [], .st (.t 5) (.t 17) 1⟩,
  ⟨none, none, [], .st (.t 7) (.t 18) 1⟩])))))
 (.seq (.reg true [⟨some 19, none, [], .ld (.t 5)⟩,
  ⟨some 20, none, [], .ld (.t 7)⟩,
  ⟨some 21, none, [], .ld (.t 6)⟩,
  ⟨some 2, none, [0], .mv (.t 19)⟩,
  ⟨some 3, none, [1, 3, 0], .mv (.t 20)⟩,
  ⟨some 4, none, [2, 4, 1, 3, 0], .mv (.t 21)⟩])
 .ret)))))
theorem comp_16 : compF Tryd.prog Tryd.f16 = some (ic_16, [.t 2, .t 3, .t 4], 22) := by kernel_rfl
-- ros 16 [(some (.bs 5))] TYS [(.bytes 5)]

/-- tollbar/tollbarref04.All -/
def ic_17 : IC := (.seq (.reg false [⟨some 2, none, [], .mv (.k .nsl)⟩,
  ⟨some 3, none, [], .mv (.k (.v (.int .i64 0)))⟩,
  ⟨some 4, none, [], .mv (.k (.v (.int .i64 0)))⟩])
 (.seq (.reg false [⟨some 5, none, [], .mv (.k .nsl)⟩])
 (.seq (.reg false [⟨some 6, none, [], .mv (.k (.v (.int .i64 0)))⟩])
 (.seq (.block 0
 (.loop
 (.seq (.seq (.reg false [⟨some 10, none, [], .mv (.t 6)⟩,
  ⟨some 11, none, [], .mv (.t 0)⟩,
  ⟨some 12, none, [], .len true (.t 11)⟩,
  ⟨some 13, none, [], .ib .lt .i64 (.t 10) (.t 12)⟩])
 (.cond (.t 13)
 .skip
 (.exit 0)))
 (.block 1
 (.seq (.reg false [⟨some 15, none, [], .mv (.t 0)⟩,
  ⟨some 16, none, [], .mv (.t 6)⟩,
  ⟨some 17, none, [], .ssl (.t 15) (some (.t 16)) none⟩,
  ⟨some 18, none, [], .call 13 [(.t 17)]⟩,
  ⟨some 14, none, [], .mv (.t 18)⟩,
  ⟨some 19, none, [], .ext (.t 14) 0⟩,
  ⟨some 20, none, [], .ext (.t 14) 1⟩,
  ⟨some 21, none, [], .ext (.t 14) 2⟩,
  ⟨some 7, none, [], .mv (.t 19)⟩,
  ⟨some 8, none, [], .mv (.t 20)⟩,
  ⟨some 9, none, [], .mv (.t 21)⟩])
 (.seq (.seq (.reg false [⟨some 22, none, [], .mv (.t 9)⟩,
  ⟨some 23, none, [], .ib .ne .i64 (.t 22) (.k (.v (.int .i64 0)))⟩])
 (.cond (.t 23)
 (.seq (.reg false [⟨some 24, none, [], .mv (.t 5)⟩,
  ⟨some 25, none, [], .mv (.t 6)⟩,
  ⟨some 26, none, [], .mv (.t 9)⟩,
  ⟨some 2, none, [], .mv (.t 24)⟩,
  ⟨some 3, none, [], .mv (.t 25)⟩,
  ⟨some 4, none, [], .mv (.t 26)⟩])
 .ret)
 .skip))
 (.seq (.reg false [⟨some 27, none, [], .mv (.t 5)⟩,
  ⟨some 28, none, [], .mv (.t 7)⟩,
  ⟨some 29, none, [], .bsl (.row 9 .str) 1 [(.str [])] [(0, 1, (.t 28))]⟩,
  ⟨some 30, none, [], .app (.row 9 .str) 16 (.t 27) (.t 29)⟩,
  ⟨some 5, none, [], .mv (.t 30)⟩])
 (.reg false [⟨some 31, none, [], .mv (.t 6)⟩,
  ⟨some 32, none, [], .mv (.t 8)⟩,
  ⟨some 33, none, [], .ib .add .i64 (.t 31) (.t 32)⟩,
  ⟨some 6, none, [], .mv (.t 33)⟩]))))))))
 (.seq (.reg false [⟨some 34, none, [], .mv (.t 5)⟩,
  ⟨some 35, none, [], .mv (.t 6)⟩,
  ⟨some 2, none, [], .mv (.t 34)⟩,
  ⟨some 3, none, [], .mv (.t 35)⟩,
  ⟨some 4, none, [], .mv (.k (.v (.int .i64 0)))⟩])
 .ret)))))
theorem comp_17 : compF Tryd.prog Tryd.f17 = some (ic_17, [.t 2, .t 3, .t 4], 36) := by kernel_rfl
-- ros 17 [none] TYS [.str]

/-- tollbar/tollbarref04.Same -/
def ic_18 : IC := (.seq (.reg false [⟨some 4, none, [], .mv (.k (.v (.bool false)))⟩])
 (.seq (.seq (.reg false [⟨some 6, none, [], .mv (.t 0)⟩,
  ⟨some 7, none, [], .len false (.t 6)⟩,
  ⟨some 8, none, [], .mv (.t 1)⟩,
  ⟨some 9, none, [], .len false (.t 8)⟩,
  ⟨some 10, none, [], .ib .ne .i64 (.t 7) (.t 9)⟩])
 (.cond (.t 10)
 (.seq (.reg false [⟨some 4, none, [], .mv (.k (.v (.bool false)))⟩])
 .ret)
 .skip))
 (.seq (.seq (.reg false [⟨some 5, none, [], .mv (.k (.v (.int .i64 0)))⟩])
 (.block 0
 (.loop
 (.seq (.seq (.reg false [⟨some 11, none, [], .mv (.t 5)⟩,
  ⟨some 12, none, [], .mv (.t 0)⟩,
  ⟨some 13, none, [], .len false (.t 12)⟩,
  ⟨some 14, none, [], .ib .lt .i64 (.t 11) (.t 13)⟩])
 (.cond (.t 14)
 .skip
 (.exit 0)))
 (.seq (.block 1
 (.seq (.reg true [⟨some 17, none, [], .mv (.t 0)⟩,
  ⟨some 18, none, [], .mv (.t 5)⟩,
  ⟨some 19, none, [0, 1], .idx (.t 17) (.t 18) 1⟩,
  ⟨some 20, none, [2, 0, 1], .ld (.t 19)⟩,
  ⟨some 21, none, [], .mv (.t 1)⟩,
  ⟨some 22, none, [], .mv (.t 5)⟩,
  ⟨some 23, none, [4, 5], .idx (.t 21) (.t 22) 1⟩,
  ⟨some 24, none, [6, 4, 5], .ld (.t 23)⟩,
  ⟨some 25, none, [3, 2, 0, 1, 7, 6, 4, 5], .sb .ne (.t 20) (.t 24)⟩])
 (.cond (.t 25)
 (.seq (.reg false [⟨some 4, none, [], .mv (.k (.v (.bool false)))⟩])
 .ret)
 .skip)))
 (.reg false [⟨some 15, none, [], .mv (.t 5)⟩,
  ⟨some 16, none, [], .ib .add .i64 (.t 15) (.k (.v (.int .i64 1)))⟩,
  ⟨some 5, none, [], .mv (.t 16)⟩]))))))
 (.seq (.reg false [⟨some 4, none, [], .mv (.k (.v (.bool true)))⟩])
 .ret))))
theorem comp_18 : compF Tryd.prog Tryd.f18 = some (ic_18, [.t 4], 26) := by kernel_rfl
-- ros 18 [(some (.row 9 .str)), (some (.row 9 .str))] TYS [(.row 9 .str), (.row 9 .str)]

/-- tollbar/tollbarlaw04.texts -/
def ic_19 : IC := (.seq (.reg false [⟨some 2, none, [], .mv (.k .nsl)⟩])
 (.seq (.reg false [⟨some 3, none, [], .mv (.k .nsl)⟩])
 (.seq (.seq (.reg false [⟨some 4, none, [], .mv (.k (.v (.int .i64 0)))⟩])
 (.block 0
 (.loop
 (.seq (.seq (.reg false [⟨some 5, none, [], .mv (.t 4)⟩,
  ⟨some 6, none, [], .mv (.t 0)⟩,
  ⟨some 7, none, [], .len false (.t 6)⟩,
  ⟨some 8, none, [], .ib .lt .i64 (.t 5) (.t 7)⟩])
 (.cond (.t 8)
 .skip
 (.exit 0)))
 (.seq (.block 1
 (.reg false [⟨some 11, none, [], .mv (.t 3)⟩,
  ⟨some 12, none, [], .mv (.t 0)⟩,
  ⟨some 13, none, [], .mv (.t 4)⟩,
  ⟨some 14, none, [], .idx (.t 12) (.t 13) 1⟩,
  ⟨some 15, none, [], .ld (.t 14)⟩,
  ⟨some 16, none, [], .b2s (.t 15)⟩,
  ⟨some 17, none, [], .bsl (.row 9 .str) 1 [(.str [])] [(0, 1, (.t 16))]⟩,
  ⟨some 18, none, [], .app (.row 9 .str) 16 (.t 11) (.t 17)⟩,
  ⟨some 3, none, [], .mv (.t 18)⟩]))
 (.reg false [⟨some 9, none, [], .mv (.t 4)⟩,
  ⟨some 10, none, [], .ib .add .i64 (.t 9) (.k (.v (.int .i64 1)))⟩,
  ⟨some 4, none, [], .mv (.t 10)⟩]))))))
 (.seq (.reg false [⟨some 19, none, [], .mv (.t 3)⟩,
  ⟨some 2, none, [], .mv (.t 19)⟩])
 .ret))))
theorem comp_19 : compF Tryd.prog Tryd.f19 = some (ic_19, [.t 2], 20) := by kernel_rfl
-- ros 19 [(some (.row 22 (.bytes 5)))] TYS [(.row 22 (.bytes 5))]

/-- tollbar/varint.Put -/
def ic_20 : IC := (.seq (.reg false [⟨some 2, none, [], .mv (.k .nsl)⟩])
 (.seq (.reg false [⟨some 3, none, [], .new 22 [.nsl]⟩])
 (.seq (.seq (.reg false [⟨some 6, none, [], .mv (.t 0)⟩,
  ⟨some 7, none, [], .call 29 [(.t 6)]⟩])
 (.block 0
 (.rfn (.t 7) [8, 9]
 (.seq (.reg false [⟨some 4, none, [], .mv (.t 8)⟩])
 (.reg false [⟨some 5, none, [], .mv (.t 9)⟩]))
 (.block 1
 (.seq (.seq (.reg false [⟨some 10, none, [], .mv (.t 5)⟩])
 (.cond (.t 10)
 (.reg false [⟨some 11, none, [], .mv (.t 4)⟩,
  ⟨some 12, none, [], .ib .or .u8 (.t 11) (.k (.v (.int .u8 128)))⟩,
  ⟨some 4, none, [], .mv (.t 12)⟩])
 .skip))
 (.reg false [⟨some 13, none, [], .ld (.t 3)⟩,
  ⟨some 14, none, [], .mv (.t 4)⟩,
  ⟨some 15, none, [], .bsl (.bs 5) 1 [(.v (.int .u8 0))] [(0, 1, (.t 14))]⟩,
  ⟨some 16, none, [], .app (.bs 5) 1 (.t 13) (.t 15)⟩,
  ⟨none, none, [], .st (.t 3) (.t 16) 1⟩]))))))
 (.seq (.reg false [⟨some 17, none, [], .ld (.t 3)⟩,
  ⟨some 2, none, [], .mv (.t 17)⟩])
 .ret))))
theorem comp_20 : compF Tryd.prog Tryd.f20 = some (ic_20, [.t 2], 18) := by kernel_rfl
-- ros 20 [none] TYS [(.int .u64)]

/-- tollbar/octet.Big -/
def ic_21 : IC := (.seq (.reg false [⟨some 4, none, [], .mv (.k .nsl)⟩])
 (.seq (.reg false [⟨some 5, none, [], .mv (.k .nsl)⟩])
 (.seq (.seq (.reg false [⟨some 7, none, [], .mv (.t 1)⟩,
  ⟨some 8, none, [], .ib .lt .i64 (.t 7) (.k (.v (.int .i64 1)))⟩,
  ⟨some 9, none, [], .mv (.t 8)⟩,
  ⟨some 10, some (9, false), [], .mv (.t 1)⟩,
  ⟨some 11, some (9, false), [], .ib .gt .i64 (.t 10) (.k (.v (.int .i64 8)))⟩,
  ⟨some 12, none, [], .pick (.t 9) (.k (.v (.bool true))) (.t 11)⟩])
 (.cond (.t 12)
 (.seq (.reg false [⟨some 4, none, [], .mv (.k .nsl)⟩])
 .ret)
 .skip))
 (.seq (.seq (.reg false [⟨some 13, none, [], .mv (.t 1)⟩,
  ⟨some 14, none, [], .ib .sub .i64 (.t 13) (.k (.v (.int .i64 1)))⟩,
  ⟨some 6, none, [], .mv (.t 14)⟩])
 (.block 0
 (.loop
 (.seq (.seq (.reg false [⟨some 15, none, [], .mv (.t 6)⟩,
  ⟨some 16, none, [], .ib .ge .i64 (.t 15) (.k (.v (.int .i64 0)))⟩])
 (.cond (.t 16)
 .skip
 (.exit 0)))
 (.seq (.block 1
 (.reg false [⟨some 19, none, [], .mv (.t 5)⟩,
  ⟨some 20, none, [], .mv (.t 0)⟩,
  ⟨some 21, none, [], .mv (.t 6)⟩,
  ⟨some 22, none, [], .ib .mul .i64 (.k (.v (.int .i64 8))) (.t 21)⟩,
  ⟨some 23, none, [], .sh false .u64 (.t 20) (.t 22)⟩,
  ⟨some 24, none, [], .conv .u8 (.t 23)⟩,
  ⟨some 25, none, [], .bsl (.bs 5) 1 [(.v (.int .u8 0))] [(0, 1, (.t 24))]⟩,
  ⟨some 26, none, [], .app (.bs 5) 1 (.t 19) (.t 25)⟩,
  ⟨some 5, none, [], .mv (.t 26)⟩]))
 (.reg false [⟨some 17, none, [], .mv (.t 6)⟩,
  ⟨some 18, none, [], .ib .sub .i64 (.t 17) (.k (.v (.int .i64 1)))⟩,
  ⟨some 6, none, [], .mv (.t 18)⟩]))))))
 (.seq (.reg false [⟨some 27, none, [], .mv (.t 5)⟩,
  ⟨some 4, none, [], .mv (.t 27)⟩])
 .ret)))))
theorem comp_21 : compF Tryd.prog Tryd.f21 = some (ic_21, [.t 4], 28) := by kernel_rfl
-- ros 21 [none, none] TYS [(.int .u64), (.int .i64)]

/-- tollbar/tollbarref02.Put -/
def ic_22 : IC := (.seq (.reg false [⟨some 2, none, [], .mv (.k (.str []))⟩])
 (.seq (.seq (.reg false [⟨some 3, none, [], .mv (.t 0)⟩,
  ⟨some 4, none, [], .ib .lt .u64 (.t 3) (.k (.v (.int .u64 128)))⟩])
 (.cond (.t 4)
 (.seq (.reg false [⟨some 5, none, [], .mv (.t 0)⟩,
  ⟨some 6, none, [], .conv .u8 (.t 5)⟩,
  ⟨some 7, none, [], .bsl (.bs 5) 1 [(.v (.int .u8 0))] [(0, 1, (.t 6))]⟩,
  ⟨some 8, none, [], .b2s (.t 7)⟩,
  ⟨some 2, none, [], .mv (.t 8)⟩])
 .ret)
 .skip))
 (.seq (.reg true [⟨some 9, none, [], .mv (.t 0)⟩,
  ⟨some 10, none, [0], .ib .rem .u64 (.t 9) (.k (.v (.int .u64 128)))⟩,
  ⟨some 11, none, [1, 0], .conv .u8 (.t 10)⟩,
  ⟨some 12, none, [2, 1, 0], .ib .add .u8 (.t 11) (.k (.v (.int .u8 128)))⟩,
  ⟨some 13, none, [3, 2, 1, 0], .bsl (.bs 5) 1 [(.v (.int .u8 0))] [(0, 1, (.t 12))]⟩,
  ⟨some 14, none, [4, 3, 2, 1, 0], .b2s (.t 13)⟩,
  ⟨some 15, none, [], .mv (.t 0)⟩,
  ⟨some 16, none, [6], .ib .quo .u64 (.t 15) (.k (.v (.int .u64 128)))⟩,
  ⟨some 17, none, [7, 6], .call 22 [(.t 16)]⟩,
  ⟨some 18, none, [5, 4, 3, 2, 1, 0, 8, 7, 6], .sb .add (.t 14) (.t 17)⟩,
  ⟨some 2, none, [9, 5, 4, 3, 2, 1, 0, 8, 7, 6], .mv (.t 18)⟩])
 .ret)))
theorem comp_22 : compF Tryd.prog Tryd.f22 = some (ic_22, [.t 2], 19) := by kernel_rfl
-- ros 22 [none] TYS [(.int .u64)]

/-- tollbar/tollbarref01.Big -/
def ic_23 : IC := (.seq (.reg false [⟨some 4, none, [], .mv (.k (.str []))⟩])
 (.seq (.reg false [⟨some 5, none, [], .mv (.k (.str []))⟩])
 (.seq (.seq (.reg false [⟨some 6, none, [], .mv (.k (.v (.int .i64 0)))⟩])
 (.block 0
 (.loop
 (.seq (.seq (.reg false [⟨some 7, none, [], .mv (.t 6)⟩,
  ⟨some 8, none, [], .mv (.t 1)⟩,
  ⟨some 9, none, [], .ib .lt .i64 (.t 7) (.t 8)⟩,
  ⟨some 10, none, [], .mv (.t 9)⟩,
  ⟨some 11, some (10, true), [], .mv (.t 1)⟩,
  ⟨some 12, some (10, true), [], .ib .le .i64 (.t 11) (.k (.v (.int .i64 8)))⟩,
  ⟨some 13, none, [], .pick (.t 10) (.t 12) (.k (.v (.bool false)))⟩])
 (.cond (.t 13)
 .skip
 (.exit 0)))
 (.seq (.block 1
 (.seq (.reg false [⟨some 16, none, [], .mv (.t 0)⟩,
  ⟨some 17, none, [], .call 30 [(.t 16)]⟩,
  ⟨some 18, none, [], .mv (.t 5)⟩,
  ⟨some 19, none, [], .sb .add (.t 17) (.t 18)⟩,
  ⟨some 5, none, [], .mv (.t 19)⟩])
 (.reg false [⟨some 20, none, [], .mv (.t 0)⟩,
  ⟨some 21, none, [], .ib .quo .u64 (.t 20) (.k (.v (.int .u64 256)))⟩,
  ⟨some 0, none, [], .mv (.t 21)⟩])))
 (.reg false [⟨some 14, none, [], .mv (.t 6)⟩,
  ⟨some 15, none, [], .ib .add .i64 (.t 14) (.k (.v (.int .i64 1)))⟩,
  ⟨some 6, none, [], .mv (.t 15)⟩]))))))
 (.seq (.reg false [⟨some 22, none, [], .mv (.t 5)⟩,
  ⟨some 4, none, [], .mv (.t 22)⟩])
 .ret))))
theorem comp_23 : compF Tryd.prog Tryd.f23 = some (ic_23, [.t 4], 23) := by kernel_rfl
-- ros 23 [none, none] TYS [(.int .u64), (.int .i64)]

/-- tollbar/varint.Get -/
def ic_24 : IC := (.seq (.reg false [⟨some 2, none, [], .mv (.k (.v (.int .u64 0)))⟩,
  ⟨some 3, none, [], .mv (.k (.v (.int .i64 0)))⟩,
  ⟨some 4, none, [], .mv (.k (.v (.int .i64 0)))⟩])
 (.seq (.reg false [⟨some 5, none, [], .mv (.k (.v (.int .u64 0)))⟩])
 (.seq (.seq (.reg false [⟨some 9, none, [], .mv (.t 0)⟩,
  ⟨some 10, none, [], .mv (.t 0)⟩,
  ⟨some 11, none, [], .len false (.t 10)⟩,
  ⟨some 12, none, [], .mn (.t 11) (.k (.v (.int .i64 10)))⟩,
  ⟨some 13, none, [], .sls (.t 9) none (some (.t 12)) 1⟩,
  ⟨some 14, none, [], .len false (.t 13)⟩,
  ⟨some 15, none, [], .mv (.k (.v (.int .i64 0)))⟩])
 (.block 0
 (.loop
 (.seq (.reg false [⟨some 16, none, [], .ib .lt .i64 (.t 15) (.t 14)⟩])
 (.seq (.cond (.t 16)
 .skip
 (.exit 0))
 (.seq (.block 1
 (.seq (.reg false [⟨some 17, none, [], .mv (.t 15)⟩,
  ⟨some 18, none, [], .idx (.t 13) (.t 15) 1⟩,
  ⟨some 19, none, [], .ld (.t 18)⟩,
  ⟨some 6, none, [], .mv (.t 17)⟩,
  ⟨some 7, none, [], .mv (.t 19)⟩])
 (.seq (.reg false [⟨some 20, none, [], .mv (.t 7)⟩,
  ⟨some 21, none, [], .ib .rem .u8 (.t 20) (.k (.v (.int .u8 128)))⟩,
  ⟨some 22, none, [], .conv .u64 (.t 21)⟩,
  ⟨some 8, none, [], .mv (.t 22)⟩])
 (.seq (.seq (.reg false [⟨some 23, none, [], .mv (.t 8)⟩,
  ⟨some 24, none, [], .mv (.t 6)⟩,
  ⟨some 25, none, [], .ib .mul .i64 (.k (.v (.int .i64 7))) (.t 24)⟩,
  ⟨some 26, none, [], .sh true .u64 (.t 23) (.t 25)⟩,
  ⟨some 27, none, [], .mv (.t 6)⟩,
  ⟨some 28, none, [], .ib .mul .i64 (.k (.v (.int .i64 7))) (.t 27)⟩,
  ⟨some 29, none, [], .sh false .u64 (.t 26) (.t 28)⟩,
  ⟨some 30, none, [], .mv (.t 8)⟩,
  ⟨some 31, none, [], .ib .ne .u64 (.t 29) (.t 30)⟩])
 (.cond (.t 31)
 (.seq (.reg false [⟨some 2, none, [], .mv (.k (.v (.int .u64 0)))⟩,
  ⟨some 3, none, [], .mv (.k (.v (.int .i64 0)))⟩,
  ⟨some 4, none, [], .mv (.k (.v (.int .i64 14)))⟩])
 .ret)
 .skip))
 (.seq (.reg false [⟨some 32, none, [], .mv (.t 5)⟩,
  ⟨some 33, none, [], .mv (.t 8)⟩,
  ⟨some 34, none, [], .mv (.t 6)⟩,
  ⟨some 35, none, [], .ib .mul .i64 (.k (.v (.int .i64 7))) (.t 34)⟩,
  ⟨some 36, none, [], .sh true .u64 (.t 33) (.t 35)⟩,
  ⟨some 37, none, [], .ib .or .u64 (.t 32) (.t 36)⟩,
  ⟨some 5, none, [], .mv (.t 37)⟩])
 (.block 2
 (.seq (.reg false [⟨some 42, none, [], .mv (.t 7)⟩,
  ⟨some 43, none, [], .ib .ge .u8 (.t 42) (.k (.v (.int .u8 128)))⟩,
  ⟨some 41, none, [], .mv (.t 43)⟩])
 (.cond (.t 41)
 .skip
 (.seq (.reg false [⟨some 45, none, [], .mv (.t 7)⟩,
  ⟨some 46, none, [], .ib .eq .u8 (.t 45) (.k (.v (.int .u8 0)))⟩,
  ⟨some 47, none, [], .mv (.t 46)⟩,
  ⟨some 48, some (47, true), [], .mv (.t 6)⟩,
  ⟨some 49, some (47, true), [], .ib .gt .i64 (.t 48) (.k (.v (.int .i64 0)))⟩,
  ⟨some 50, none, [], .pick (.t 47) (.t 49) (.k (.v (.bool false)))⟩,
  ⟨some 44, none, [], .mv (.t 50)⟩])
 (.cond (.t 44)
 (.seq (.reg false [⟨some 2, none, [], .mv (.k (.v (.int .u64 0)))⟩,
  ⟨some 3, none, [], .mv (.k (.v (.int .i64 0)))⟩,
  ⟨some 4, none, [], .mv (.k (.v (.int .i64 11)))⟩])
 .ret)
 (.seq (.reg false [⟨some 38, none, [], .mv (.t 5)⟩,
  ⟨some 39, none, [], .mv (.t 6)⟩,
  ⟨some 40, none, [], .ib .add .i64 (.t 39) (.k (.v (.int .i64 1)))⟩,
  ⟨some 2, none, [], .mv (.t 38)⟩,
  ⟨some 3, none, [], .mv (.t 40)⟩,
  ⟨some 4, none, [], .mv (.k (.v (.int .i64 0)))⟩])
 .ret)))))))))))
 (.reg false [⟨some 51, none, [], .ib .add .i64 (.t 15) (.k (.v (.int .i64 1)))⟩,
  ⟨some 15, none, [], .mv (.t 51)⟩])))))))
 (.seq (.seq (.reg false [⟨some 52, none, [], .mv (.t 0)⟩,
  ⟨some 53, none, [], .len false (.t 52)⟩,
  ⟨some 54, none, [], .ib .ge .i64 (.t 53) (.k (.v (.int .i64 10)))⟩])
 (.cond (.t 54)
 (.seq (.reg false [⟨some 2, none, [], .mv (.k (.v (.int .u64 0)))⟩,
  ⟨some 3, none, [], .mv (.k (.v (.int .i64 0)))⟩,
  ⟨some 4, none, [], .mv (.k (.v (.int .i64 14)))⟩])
 .ret)
 .skip))
 (.seq (.reg false [⟨some 2, none, [], .mv (.k (.v (.int .u64 0)))⟩,
  ⟨some 3, none, [], .mv (.k (.v (.int .i64 0)))⟩,
  ⟨some 4, none, [], .mv (.k (.v (.int .i64 10)))⟩])
 .ret)))))
theorem comp_24 : compF Tryd.prog Tryd.f24 = some (ic_24, [.t 2, .t 3, .t 4], 55) := by kernel_rfl
-- ros 24 [(some (.bs 5))] TYS [(.bytes 5)]

/-- bytes.Equal -/
def ic_25 : IC := (.seq (.reg false [⟨some 4, none, [], .mv (.k (.v (.bool false)))⟩])
 (.seq (.reg false [⟨some 5, none, [], .mv (.t 0)⟩,
  ⟨some 6, none, [], .b2s (.t 5)⟩,
  ⟨some 7, none, [], .mv (.t 1)⟩,
  ⟨some 8, none, [], .b2s (.t 7)⟩,
  ⟨some 9, none, [], .sb .eq (.t 6) (.t 8)⟩,
  ⟨some 4, none, [], .mv (.t 9)⟩])
 .ret))
theorem comp_25 : compF Tryd.prog Tryd.f25 = some (ic_25, [.t 4], 10) := by kernel_rfl
-- ros 25 [(some (.bs 5)), (some (.bs 5))] TYS [(.bytes 5), (.bytes 5)]

/-- bytes.Clone -/
def ic_26 : IC := (.seq (.reg false [⟨some 2, none, [], .mv (.k .nsl)⟩])
 (.seq (.seq (.reg false [⟨some 3, none, [], .mv (.t 0)⟩,
  ⟨some 4, none, [], .isn 1 false (.t 3)⟩])
 (.cond (.t 4)
 (.seq (.reg false [⟨some 2, none, [], .mv (.k .nsl)⟩])
 .ret)
 .skip))
 (.seq (.reg false [⟨some 5, none, [], .bsl (.bs 5) 0 [] []⟩,
  ⟨some 6, none, [], .mv (.t 0)⟩,
  ⟨some 7, none, [], .app (.bs 5) 1 (.t 5) (.t 6)⟩,
  ⟨some 2, none, [], .mv (.t 7)⟩])
 .ret)))
theorem comp_26 : compF Tryd.prog Tryd.f26 = some (ic_26, [.t 2], 8) := by kernel_rfl
-- ros 26 [(some (.bs 5))] TYS [(.bytes 5)]

/-- tollbar/tollbarref02.Get -/
def ic_27 : IC := (.seq (.reg false [⟨some 2, none, [], .mv (.k (.v (.int .u64 0)))⟩,
  ⟨some 3, none, [], .mv (.k (.v (.int .i64 0)))⟩,
  ⟨some 4, none, [], .mv (.k (.v (.int .i64 0)))⟩])
 (.seq (.reg false [⟨some 5, none, [], .mv (.k (.v (.int .i64 0)))⟩])
 (.seq (.block 0
 (.loop
 (.seq (.seq (.reg false [⟨some 9, none, [], .mv (.t 5)⟩,
  ⟨some 10, none, [], .mv (.t 0)⟩,
  ⟨some 11, none, [], .len true (.t 10)⟩,
  ⟨some 12, none, [], .ib .lt .i64 (.t 9) (.t 11)⟩,
  ⟨some 13, none, [], .mv (.t 12)⟩,
  ⟨some 14, some (13, true), [], .mv (.t 5)⟩,
  ⟨some 15, some (13, true), [], .ib .lt .i64 (.t 14) (.k (.v (.int .i64 10)))⟩,
  ⟨some 16, none, [], .pick (.t 13) (.t 15) (.k (.v (.bool false)))⟩,
  ⟨some 17, none, [], .mv (.t 16)⟩,
  ⟨some 18, some (17, true), [], .mv (.t 0)⟩,
  ⟨some 19, some (17, true), [], .mv (.t 5)⟩,
  ⟨some 20, some (17, true), [], .sidx (.t 18) (.t 19)⟩,
  ⟨some 21, some (17, true), [], .ib .gt .u8 (.t 20) (.k (.v (.int .u8 127)))⟩,
  ⟨some 22, none, [], .pick (.t 17) (.t 21) (.k (.v (.bool false)))⟩])
 (.cond (.t 22)
 .skip
 (.exit 0)))
 (.block 1
 (.reg false [⟨some 23, none, [], .mv (.t 5)⟩,
  ⟨some 24, none, [], .ib .add .i64 (.t 23) (.k (.v (.int .i64 1)))⟩,
  ⟨some 5, none, [], .mv (.t 24)⟩])))))
 (.seq (.seq (.reg false [⟨some 25, none, [], .mv (.t 5)⟩,
  ⟨some 26, none, [], .ib .eq .i64 (.t 25) (.k (.v (.int .i64 10)))⟩])
 (.cond (.t 26)
 (.seq (.reg false [⟨some 2, none, [], .mv (.k (.v (.int .u64 0)))⟩,
  ⟨some 3, none, [], .mv (.k (.v (.int .i64 0)))⟩,
  ⟨some 4, none, [], .mv (.k (.v (.int .i64 14)))⟩])
 .ret)
 .skip))
 (.seq (.seq (.reg false [⟨some 27, none, [], .mv (.t 5)⟩,
  ⟨some 28, none, [], .mv (.t 0)⟩,
  ⟨some 29, none, [], .len true (.t 28)⟩,
  ⟨some 30, none, [], .ib .eq .i64 (.t 27) (.t 29)⟩])
 (.cond (.t 30)
 (.seq (.reg false [⟨some 2, none, [], .mv (.k (.v (.int .u64 0)))⟩,
  ⟨some 3, none, [], .mv (.k (.v (.int .i64 0)))⟩,
  ⟨some 4, none, [], .mv (.k (.v (.int .i64 10)))⟩])
 .ret)
 .skip))
 (.seq (.reg false [⟨some 6, none, [], .mv (.k (.v (.int .u64 0)))⟩])
 (.seq (.seq (.reg false [⟨some 31, none, [], .mv (.t 5)⟩,
  ⟨some 7, none, [], .mv (.t 31)⟩])
 (.block 2
 (.loop
 (.seq (.seq (.reg false [⟨some 32, none, [], .mv (.t 7)⟩,
  ⟨some 33, none, [], .ib .ge .i64 (.t 32) (.k (.v (.int .i64 0)))⟩])
 (.cond (.t 33)
 .skip
 (.exit 2)))
 (.seq (.block 3
 (.seq (.reg false [⟨some 36, none, [], .mv (.t 0)⟩,
  ⟨some 37, none, [], .mv (.t 7)⟩,
  ⟨some 38, none, [], .sidx (.t 36) (.t 37)⟩,
  ⟨some 39, none, [], .ib .rem .u8 (.t 38) (.k (.v (.int .u8 128)))⟩,
  ⟨some 40, none, [], .conv .u64 (.t 39)⟩,
  ⟨some 8, none, [], .mv (.t 40)⟩])
 (.seq (.seq (.reg false [⟨some 41, none, [], .mv (.t 6)⟩,
  ⟨some 42, none, [], .ib .gt .u64 (.t 41) (.k (.v (.int .u64 144115188075855871)))⟩])
 (.cond (.t 42)
 (.seq (.reg false [⟨some 2, none, [], .mv (.k (.v (.int .u64 0)))⟩,
  ⟨some 3, none, [], .mv (.k (.v (.int .i64 0)))⟩,
  ⟨some 4, none, [], .mv (.k (.v (.int .i64 14)))⟩])
 .ret)
 .skip))
 (.reg false [⟨some 43, none, [], .mv (.t 6)⟩,
  ⟨some 44, none, [], .ib .mul .u64 (.k (.v (.int .u64 128))) (.t 43)⟩,
  ⟨some 45, none, [], .mv (.t 8)⟩,
  ⟨some 46, none, [], .ib .add .u64 (.t 44) (.t 45)⟩,
  ⟨some 6, none, [], .mv (.t 46)⟩]))))
 (.reg false [⟨some 34, none, [], .mv (.t 7)⟩,
  ⟨some 35, none, [], .ib .sub .i64 (.t 34) (.k (.v (.int .i64 1)))⟩,
  ⟨some 7, none, [], .mv (.t 35)⟩]))))))
 (.seq (.seq (.reg false [⟨some 47, none, [], .mv (.t 5)⟩,
  ⟨some 48, none, [], .ib .gt .i64 (.t 47) (.k (.v (.int .i64 0)))⟩,
  ⟨some 49, none, [], .mv (.t 48)⟩,
  ⟨some 50, some (49, true), [], .mv (.t 0)⟩,
  ⟨some 51, some (49, true), [], .mv (.t 5)⟩,
  ⟨some 52, some (49, true), [], .sidx (.t 50) (.t 51)⟩,
  ⟨some 53, some (49, true), [], .ib .eq .u8 (.t 52) (.k (.v (.int .u8 0)))⟩,
  ⟨some 54, none, [], .pick (.t 49) (.t 53) (.k (.v (.bool false)))⟩])
 (.cond (.t 54)
 (.seq (.reg false [⟨some 2, none, [], .mv (.k (.v (.int .u64 0)))⟩,
  ⟨some 3, none, [], .mv (.k (.v (.int .i64 0)))⟩,
  ⟨some 4, none, [], .mv (.k (.v (.int .i64 11)))⟩])
 .ret)
 .skip))
 (.seq (.reg false [⟨some 55, none, [], .mv (.t 6)⟩,
  ⟨some 56, none, [], .mv (.t 5)⟩,
  ⟨some 57, none, [], .ib .add .i64 (.t 56) (.k (.v (.int .i64 1)))⟩,
  ⟨some 2, none, [], .mv (.t 55)⟩,
  ⟨some 3, none, [], .mv (.t 57)⟩,
  ⟨some 4, none, [], .mv (.k (.v (.int .i64 0)))⟩])
 .ret)))))))))
theorem comp_27 : compF Tryd.prog Tryd.f27 = some (ic_27, [.t 2, .t 3, .t 4], 58) := by kernel_rfl
-- ros 27 [none] TYS [.str]

/-- tollbar/frame.records -/
def ic_28 : IC := (.seq (.reg false [⟨some 2, none, [], .box 22 1 (.t 0)⟩,
  ⟨some 3, none, [], .box 65 1 (.t 1)⟩,
  ⟨some 4, none, [], .mv (.k (.v .nilFunc))⟩])
 (.seq (.reg false [⟨some 5, none, [], .mkfn 31 [(.t 2), (.t 3)]⟩,
  ⟨some 4, none, [], .mv (.t 5)⟩])
 .ret))
theorem comp_28 : compF Tryd.prog Tryd.f28 = some (ic_28, [.t 4], 6) := by kernel_rfl
-- ros 28 [(some (.bs 5)), none] TYS [(.bytes 5), none]

/-- tollbar/varint.groups -/
def ic_29 : IC := (.seq (.reg false [⟨some 1, none, [], .box 51 1 (.t 0)⟩,
  ⟨some 2, none, [], .mv (.k (.v .nilFunc))⟩])
 (.seq (.reg false [⟨some 3, none, [], .mkfn 32 [(.t 1)]⟩,
  ⟨some 2, none, [], .mv (.t 3)⟩])
 .ret))
theorem comp_29 : compF Tryd.prog Tryd.f29 = some (ic_29, [.t 2], 4) := by kernel_rfl
-- ros 29 [none] TYS [(.int .u64)]

/-- tollbar/tollbarref01.one -/
def ic_30 : IC := (.seq (.reg false [⟨some 2, none, [], .mv (.k (.str []))⟩])
 (.seq (.reg false [⟨some 3, none, [], .mv (.t 0)⟩,
  ⟨some 4, none, [], .ib .rem .u64 (.t 3) (.k (.v (.int .u64 256)))⟩,
  ⟨some 5, none, [], .conv .u8 (.t 4)⟩,
  ⟨some 6, none, [], .bsl (.bs 5) 1 [(.v (.int .u8 0))] [(0, 1, (.t 5))]⟩,
  ⟨some 7, none, [], .b2s (.t 6)⟩,
  ⟨some 2, none, [], .mv (.t 7)⟩])
 .ret))
theorem comp_30 : compF Tryd.prog Tryd.f30 = some (ic_30, [.t 2], 8) := by kernel_rfl
-- ros 30 [none] TYS [(.int .u64)]

/-- tollbar/frame.records$1 -/
def ic_31 : IC := (.seq (.reg false [⟨some 4, none, [], .mv (.k (.v (.int .i64 0)))⟩])
 (.block 0
 (.loop
 (.seq (.seq (.reg false [⟨some 8, none, [], .mv (.t 4)⟩,
  ⟨some 9, none, [], .ld (.t 1)⟩,
  ⟨some 10, none, [], .len false (.t 9)⟩,
  ⟨some 11, none, [], .ib .lt .i64 (.t 8) (.t 10)⟩])
 (.cond (.t 11)
 .skip
 (.exit 0)))
 (.block 1
 (.seq (.reg false [⟨some 13, none, [], .ld (.t 1)⟩,
  ⟨some 14, none, [], .mv (.t 4)⟩,
  ⟨some 15, none, [], .sls (.t 13) (some (.t 14)) none 1⟩,
  ⟨some 16, none, [], .call 12 [(.t 15)]⟩,
  ⟨some 12, none, [], .mv (.t 16)⟩,
  ⟨some 17, none, [], .ext (.t 12) 0⟩,
  ⟨some 18, none, [], .ext (.t 12) 1⟩,
  ⟨some 19, none, [], .ext (.t 12) 2⟩,
  ⟨some 5, none, [], .mv (.t 17)⟩,
  ⟨some 6, none, [], .mv (.t 18)⟩,
  ⟨some 7, none, [], .mv (.t 19)⟩])
 (.seq (.seq (.reg false [⟨some 20, none, [], .ld (.t 2)⟩,
  ⟨some 21, none, [], .mv (.t 7)⟩,
  ⟨some 22, none, [], .chk (.t 20)⟩,
  ⟨none, none, [], .st (.t 22) (.t 21) 1⟩])
 (.seq (.reg false [⟨some 23, none, [], .mv (.t 7)⟩,
  ⟨some 24, none, [], .ib .ne .i64 (.t 23) (.k (.v (.int .i64 0)))⟩])
 (.cond (.t 24)
 .ret
 .skip)))
 (.seq (.reg false [⟨some 25, none, [], .mv (.t 4)⟩,
  ⟨some 26, none, [], .mv (.t 6)⟩,
  ⟨some 27, none, [], .ib .add .i64 (.t 25) (.t 26)⟩,
  ⟨some 4, none, [], .mv (.t 27)⟩])
 (.seq (.reg false [⟨some 28, none, [], .mv (.t 0)⟩,
  ⟨some 29, none, [], .mv (.t 4)⟩,
  ⟨some 30, none, [], .mv (.t 5)⟩,
  ⟨some 31, none, [], .callv (.t 28) [(.t 29), (.t 30)]⟩,
  ⟨some 32, none, [], .bnot (.t 31)⟩])
 (.cond (.t 32)
 .ret
 .skip))))))))))
theorem comp_31 : compF Tryd.prog Tryd.f31 = some (ic_31, [], 33) := by kernel_rfl
-- ros 31 [none] TYS [none]

/-- tollbar/varint.groups$1 -/
def ic_32 : IC := (.block 0
 (.loop
 (.seq (.seq (.reg false [⟨some 3, none, [], .mv (.t 0)⟩,
  ⟨some 4, none, [], .ld (.t 1)⟩,
  ⟨some 5, none, [], .ib .rem .u64 (.t 4) (.k (.v (.int .u64 128)))⟩,
  ⟨some 6, none, [], .conv .u8 (.t 5)⟩,
  ⟨some 7, none, [], .ld (.t 1)⟩,
  ⟨some 8, none, [], .sh false .u64 (.t 7) (.k (.v (.int .u64 7)))⟩,
  ⟨some 9, none, [], .ib .gt .u64 (.t 8) (.k (.v (.int .u64 0)))⟩,
  ⟨some 10, none, [], .callv (.t 3) [(.t 6), (.t 9)]⟩,
  ⟨some 11, none, [], .mv (.t 10)⟩,
  ⟨some 12, some (11, true), [], .ld (.t 1)⟩,
  ⟨some 13, some (11, true), [], .sh false .u64 (.t 12) (.k (.v (.int .u64 7)))⟩,
  ⟨some 14, some (11, true), [], .ib .gt .u64 (.t 13) (.k (.v (.int .u64 0)))⟩,
  ⟨some 15, none, [], .pick (.t 11) (.t 14) (.k (.v (.bool false)))⟩])
 (.cond (.t 15)
 .skip
 (.exit 0)))
 (.block 1
 (.reg false [⟨some 16, none, [], .ld (.t 1)⟩,
  ⟨some 17, none, [], .sh false .u64 (.t 16) (.k (.v (.int .u64 7)))⟩,
  ⟨none, none, [], .st (.t 1) (.t 17) 1⟩])))))
theorem comp_32 : compF Tryd.prog Tryd.f32 = some (ic_32, [], 18) := by kernel_rfl
-- ros 32 [none] TYS [none]

/-- gosem.cut.vars -/
def ic_53 : IC := .bad
theorem comp_53 : compF Tryd.prog Tryd.f53 = some (ic_53, [], 1) := by kernel_rfl
-- ros 53 [] TYS []

end Go.Proofs.YtnkfginlmdenjaaDoor
end
section
/-
  The walk of tollbar/varint.groups (printed by a program of ours).
-/
set_option linter.unusedVariables false
set_option linter.unusedSimpArgs false
namespace Go.Proofs.YtnkfginlmdenjaaDoor
open Go.RowKit

noncomputable def tab_varint_groups : Nat → Option Con := look []
set_option maxHeartbeats 4000000 in
set_option maxRecDepth 100000 in
theorem vc_varint_groups (P : Program) (T : Tab P tab_varint_groups) (hm : P.follows .mixedOrders = true) : FnVC P tab_varint_groups ic_29 [.t 2] 4 con_varint_groups := by
  intro cargs ccks ce hce hob C hk
  apply Hidden.out
  replace hce : con_varint_groups_1 cargs ccks = some ce := hce
  · unfold con_varint_groups_1 at hce
    split at hce
    rotate_left
    · cases hce
    obtain rfl := Option.some.inj hce
    rename_i x1
    have hb1 := hob _ (List.mem_singleton.2 rfl)
    have hb2 := obl.1 hb1
    clear hb1 hob hce
    refine hb2.elim fun r hF => ?_
    clear hb2
    simp only [List.length_cons, List.length_nil, Nat.zero_add, Nat.reduceAdd] at hk
    have hr : F_varint_groups x1 = some r := by rw [lock_eq] at hF; exact hF
    unfold F_varint_groups at hr
    constructor
    (try cbv)
    apply Hidden.out
    have e := Option.some.inj hr
    constructor
    refine ⟨_, hF, ?_⟩
    (try cbv); (try simp only [choice_lk, lock_eq, and_self, and_true, true_and]); (try first | exact e | exact e.symm | (and_intros <;> first | assumption | rfl | exact Eq.symm (by assumption)))
end Go.Proofs.YtnkfginlmdenjaaDoor
end
section
/-
  The walk of tollbar/varint.Put (printed by a program of ours).
-/
set_option linter.unusedVariables false
set_option linter.unusedSimpArgs false
namespace Go.Proofs.YtnkfginlmdenjaaDoor
open Go.RowKit

noncomputable def tab_varint_Put : Nat → Option Con := look [(29, con_varint_groups)]
set_option maxHeartbeats 4000000 in
set_option maxRecDepth 100000 in
theorem vc_varint_Put (P : Program) (T : Tab P tab_varint_Put) (hm : P.follows .mixedOrders = true) (hI32 : ItOK P 32 ic_32 18) : FnVC P tab_varint_Put ic_20 [.t 2] 18 con_varint_Put := by
  intro cargs ccks ce hce hob C hk
  apply Hidden.out
  replace hce : con_varint_Put_1 cargs ccks = some ce := hce
  · unfold con_varint_Put_1 at hce
    split at hce
    rotate_left
    · cases hce
    obtain rfl := Option.some.inj hce
    rename_i x1
    have hb1 := hob _ (List.mem_singleton.2 rfl)
    have hb2 := obl.1 hb1
    clear hb1 hob hce
    refine hb2.elim fun r hF => ?_
    clear hb2
    simp only [List.length_cons, List.length_nil, Nat.zero_add, Nat.reduceAdd] at hk
    have hr : F_varint_Put x1 = some r := by rw [lock_eq] at hF; exact hF
    unfold F_varint_Put at hr
    constructor
    (try cbv)
    have hqe : ∃ qq, F_varint_groups x1 = some qq := by
      cases hq : F_varint_groups x1 with
      | none => rw [hq] at hr; cases hr
      | some qq => exact ⟨qq, rfl⟩
    refine ⟨obl.2 (by simp only [choice_lk, lock_eq]; exact hqe), (by rintro (_) _ <;> cbv), ?_⟩
    clear hqe
    intro qq hx1
    simp only [choice_lk, lock_eq] at hx1
    rcases qq with _
    all_goals (rw [hx1] at hr; dsimp only at hr; constructor; (try cbv))
    refine LoopOK.rfn T hI32 (s0 := ⟨mkFr [(3, (.ptr 0 0)), (7, (.fn 32 [(.ptr 1 0)]))] 18 0, [(0, .blk 22 [.nsl]), (1, .blk 51 [(.v (.int .u64 x1))])], 2⟩) (caps := [(.ptr 1 0)]) ?_ rfl ?_
    · refine le_auto hk ?_
      (try cbv); (try simp only [choice_lk, lock_eq, and_self, and_true, true_and]); (try first | exact e | exact e.symm | (and_intros <;> first | assumption | rfl | exact Eq.symm (by assumption)))
    · intro C1 yl hk1
      replace hk1 : C1.k = 2 := hk1
      constructor
      (try cbv)
      refine LoopI.iter (B := F_varint_Put_L1) hr (fun | (i1, s1) => ⟨mkFr [(0, (.v (.func (.yield yl) #[] #[]))), (1, (.ptr 1 0))] 18 0, [(0, .blk 22 [(.wsl 2)]), (1, .blk 51 [(.v (.int .u64 i1))]), (2, .row (.bs 5 s1))], 3⟩) ?_ ?_
      · rintro ⟨u0, u1⟩ e
        simp only [Prod.mk.injEq] at e
        obtain ⟨e0, e1⟩ := e
        refine le_auto hk1 ?_
        (try cbv); (try simp only [choice_lk, lock_eq, and_self, and_true, true_and]); (try first | exact e | exact e.symm | (and_intros <;> first | assumption | rfl | exact Eq.symm (by assumption)))
      · clear hr
        intro x bb1 hr ht1
        obtain ⟨i1, s1⟩ := x
        constructor
        unfold F_varint_Put_L1 at hr
        (try dsimp only at hr)
        (try cbv)
        have gg := guard_inv hr
        have g := gg.1
        replace hr := gg.2
        clear gg
        refine ⟨obl.2 (by first | (simp only [choice_lk, lock_eq, R.len, R.sub]; exact g) | exact g), ?_⟩
        refine sel_intro (fun h => ?_) (fun h => ?_)
        · have h1 : (ilt (0 : Int) (ishr .u64 i1 (7 : Int))) = true := by first | exact h | (have h2 := h; simp only [choice_lk, lock_eq] at h2; exact h2) | (simp only [choice_lk, lock_eq] at h; exact h)
          rw [if_pos h1] at hr
          (try cbv)
          have gg := guard_inv hr
          have g := gg.1
          replace hr := gg.2
          clear gg
          refine ⟨obl.2 (by first | (simp only [choice_lk, lock_eq, R.len, R.sub]; exact g) | exact g), ?_⟩
          have gg := guard_inv hr
          have g := gg.1
          replace hr := gg.2
          clear gg
          refine ⟨obl.2 (by first | (simp only [choice_lk, lock_eq, R.len, R.sub]; exact g) | exact g), ?_⟩
          have gg := guard_inv hr
          have g := gg.1
          replace hr := gg.2
          clear gg
          refine ⟨obl.2 (by first | (simp only [choice_lk, lock_eq, R.len, R.sub]; exact g) | exact g), ?_⟩
          refine sel_intro (fun h => ?_) (fun h => ?_)
          · have h1 : (ilt (0 : Int) (ishr .u64 i1 (7 : Int))) = true := by first | exact h | (have h2 := h; simp only [choice_lk, lock_eq] at h2; exact h2) | (simp only [choice_lk, lock_eq] at h; exact h)
            rw [if_pos h1] at hr
            (try cbv)
            have gg := guard_inv hr
            have g := gg.1
            replace hr := gg.2
            clear gg
            refine ⟨obl.2 (by first | (simp only [choice_lk, lock_eq, R.len, R.sub]; exact g) | exact g), ?_⟩
            apply Hidden.out
            obtain rfl := Option.some.inj hr
            constructor
            refine ⟨⟨_, rfl⟩, ?_⟩
            rintro ⟨u0, u1⟩ e
            replace e := Sum.inl.inj e
            simp only [Prod.mk.injEq] at e
            obtain ⟨e0, e1⟩ := e
            refine le_auto hk1 ?_
            (try cbv); (try simp only [choice_lk, lock_eq, and_self, and_true, true_and]); (try first | exact e | exact e.symm | (and_intros <;> first | assumption | rfl | exact Eq.symm (by assumption)))
          · have h1 : (ilt (0 : Int) (ishr .u64 i1 (7 : Int))) = false := by first | exact h | (have h2 := h; simp only [choice_lk, lock_eq] at h2; exact h2) | (simp only [choice_lk, lock_eq] at h; exact h)
            rw [if_neg (by rw [h1]; exact Bool.false_ne_true)] at hr
            (try cbv)
            apply Hidden.out
            obtain rfl := Option.some.inj hr
            have e := ht1 _ rfl
            constructor
            refine ⟨_, hF, ?_⟩
            (try cbv); (try simp only [choice_lk, lock_eq, and_self, and_true, true_and]); (try first | exact e | exact e.symm | (and_intros <;> first | assumption | rfl | exact Eq.symm (by assumption)))
        · have h1 : (ilt (0 : Int) (ishr .u64 i1 (7 : Int))) = false := by first | exact h | (have h2 := h; simp only [choice_lk, lock_eq] at h2; exact h2) | (simp only [choice_lk, lock_eq] at h; exact h)
          rw [if_neg (by rw [h1]; exact Bool.false_ne_true)] at hr
          (try cbv)
          have gg := guard_inv hr
          have g := gg.1
          replace hr := gg.2
          clear gg
          refine ⟨obl.2 (by first | (simp only [choice_lk, lock_eq, R.len, R.sub]; exact g) | exact g), ?_⟩
          have gg := guard_inv hr
          have g := gg.1
          replace hr := gg.2
          clear gg
          refine ⟨obl.2 (by first | (simp only [choice_lk, lock_eq, R.len, R.sub]; exact g) | exact g), ?_⟩
          have gg := guard_inv hr
          have g := gg.1
          replace hr := gg.2
          clear gg
          refine ⟨obl.2 (by first | (simp only [choice_lk, lock_eq, R.len, R.sub]; exact g) | exact g), ?_⟩
          refine sel_intro (fun h => ?_) (fun h => ?_)
          · have h1 : (ilt (0 : Int) (ishr .u64 i1 (7 : Int))) = true := by first | exact h | (have h2 := h; simp only [choice_lk, lock_eq] at h2; exact h2) | (simp only [choice_lk, lock_eq] at h; exact h)
            rw [if_pos h1] at hr
            (try cbv)
            have gg := guard_inv hr
            have g := gg.1
            replace hr := gg.2
            clear gg
            refine ⟨obl.2 (by first | (simp only [choice_lk, lock_eq, R.len, R.sub]; exact g) | exact g), ?_⟩
            apply Hidden.out
            obtain rfl := Option.some.inj hr
            constructor
            refine ⟨⟨_, rfl⟩, ?_⟩
            rintro ⟨u0, u1⟩ e
            replace e := Sum.inl.inj e
            simp only [Prod.mk.injEq] at e
            obtain ⟨e0, e1⟩ := e
            refine le_auto hk1 ?_
            (try cbv); (try simp only [choice_lk, lock_eq, and_self, and_true, true_and]); (try first | exact e | exact e.symm | (and_intros <;> first | assumption | rfl | exact Eq.symm (by assumption)))
          · have h1 : (ilt (0 : Int) (ishr .u64 i1 (7 : Int))) = false := by first | exact h | (have h2 := h; simp only [choice_lk, lock_eq] at h2; exact h2) | (simp only [choice_lk, lock_eq] at h; exact h)
            rw [if_neg (by rw [h1]; exact Bool.false_ne_true)] at hr
            (try cbv)
            apply Hidden.out
            obtain rfl := Option.some.inj hr
            have e := ht1 _ rfl
            constructor
            refine ⟨_, hF, ?_⟩
            (try cbv); (try simp only [choice_lk, lock_eq, and_self, and_true, true_and]); (try first | exact e | exact e.symm | (and_intros <;> first | assumption | rfl | exact Eq.symm (by assumption)))
end Go.Proofs.YtnkfginlmdenjaaDoor
end
section
/-
  The walk of tollbar/frame.Sum (printed by a program of ours).
-/
set_option linter.unusedVariables false
set_option linter.unusedSimpArgs false
namespace Go.Proofs.YtnkfginlmdenjaaDoor
open Go.RowKit

noncomputable def tab_frame_Sum : Nat → Option Con := look []
set_option maxHeartbeats 4000000 in
set_option maxRecDepth 100000 in
theorem vc_frame_Sum (P : Program) (T : Tab P tab_frame_Sum) (hm : P.follows .mixedOrders = true) : FnVC P tab_frame_Sum ic_14 [.t 2] 29 con_frame_Sum := by
  intro cargs ccks ce hce hob C hk
  apply Hidden.out
  replace hce : con_frame_Sum_1 cargs ccks = some ce := hce
  · unfold con_frame_Sum_1 at hce
    split at hce
    rotate_left
    · cases hce
    obtain rfl := Option.some.inj hce
    rename_i s1
    have hb1 := hob _ (List.mem_singleton.2 rfl)
    have hb2 := obl.1 hb1
    clear hb1 hob hce
    refine hb2.elim fun r hF => ?_
    clear hb2
    simp only [List.length_cons, List.length_nil, Nat.zero_add, Nat.reduceAdd] at hk
    have hr : F_frame_Sum s1 = some r := by rw [lock_eq] at hF; exact hF
    unfold F_frame_Sum at hr
    constructor
    (try cbv)
    refine LoopOK.iter T (drawOK T hm) (B := (F_frame_Sum_L1 s1)) hr (fun | (i3, i4) => ⟨mkFr [(3, (.v (.int .u32 i3))), (6, (.rsl (.bs 5 s1))), (7, (.v (.int .i64 (lock ofN (lock (@xlen UInt8) s1))))), (8, (.v (.int .i64 i4)))] 29 0, [], 0⟩) ?_ ?_
    · rintro ⟨u0, u1⟩ e
      simp only [Prod.mk.injEq] at e
      obtain ⟨e0, e1⟩ := e
      refine le_auto hk ?_
      (try cbv); (try simp only [choice_lk, lock_eq, and_self, and_true, true_and]); (try first | exact e | exact e.symm | (and_intros <;> first | assumption | rfl | exact Eq.symm (by assumption)))
    · clear hr
      intro x bb1 hr ht1
      obtain ⟨i3, i4⟩ := x
      constructor
      unfold F_frame_Sum_L1 at hr
      (try dsimp only at hr)
      (try cbv)
      refine sel_intro (fun h => ?_) (fun h => ?_)
      · have h1 : (ilt i4 (ofN (xlen s1))) = true := by first | exact h | (have h2 := h; simp only [choice_lk, lock_eq] at h2; exact h2) | (simp only [choice_lk, lock_eq] at h; exact h)
        rw [if_pos h1] at hr
        (try cbv)
        have gg := guard_inv hr
        have g := gg.1
        replace hr := gg.2
        clear gg
        refine ⟨obl.2 (by first | (simp only [choice_lk, lock_eq, R.len, R.sub]; exact g) | exact g), ?_⟩
        refine LoopOK.iter T (drawOK T hm) (B := (F_frame_Sum_L2 i4)) hr (fun | (i7, i8) => ⟨mkFr [(3, (.v (.int .u32 i7))), (6, (.rsl (.bs 5 s1))), (7, (.v (.int .i64 (lock ofN (lock (@xlen UInt8) s1))))), (8, (.v (.int .i64 i4))), (16, (.v (.int .i64 i8)))] 29 0, [], 0⟩) ?_ ?_
        · rintro ⟨u0, u1⟩ e
          simp only [Prod.mk.injEq] at e
          obtain ⟨e0, e1⟩ := e
          refine le_auto hk ?_
          (try cbv); (try simp only [choice_lk, lock_eq, and_self, and_true, true_and]); (try first | exact e | exact e.symm | (and_intros <;> first | assumption | rfl | exact Eq.symm (by assumption)))
        · clear hr
          intro x bb2 hr ht2
          obtain ⟨i7, i8⟩ := x
          constructor
          unfold F_frame_Sum_L2 at hr
          (try dsimp only at hr)
          (try cbv)
          refine sel_intro (fun h => ?_) (fun h => ?_)
          · have h1 : (ilt i8 (2 : Int)) = true := by first | exact h | (have h2 := h; simp only [choice_lk, lock_eq] at h2; exact h2) | (simp only [choice_lk, lock_eq] at h; exact h)
            rw [if_pos h1] at hr
            (try cbv)
            have gg := guard_inv hr
            have g := gg.1
            replace hr := gg.2
            clear gg
            refine ⟨obl.2 (by first | (simp only [choice_lk, lock_eq, R.len, R.sub]; exact g) | exact g), ?_⟩
            have gg := guard_inv hr
            have g := gg.1
            replace hr := gg.2
            clear gg
            refine ⟨obl.2 (by first | (simp only [choice_lk, lock_eq, R.len, R.sub]; exact g) | exact g), ?_⟩
            apply Hidden.out
            obtain rfl := Option.some.inj hr
            constructor
            refine ⟨⟨_, rfl⟩, ?_⟩
            rintro ⟨u0, u1⟩ e
            replace e := Sum.inl.inj e
            simp only [Prod.mk.injEq] at e
            obtain ⟨e0, e1⟩ := e
            refine le_auto hk ?_
            (try cbv); (try simp only [choice_lk, lock_eq, and_self, and_true, true_and]); (try first | exact e | exact e.symm | (and_intros <;> first | assumption | rfl | exact Eq.symm (by assumption)))
          · have h1 : (ilt i8 (2 : Int)) = false := by first | exact h | (have h2 := h; simp only [choice_lk, lock_eq] at h2; exact h2) | (simp only [choice_lk, lock_eq] at h; exact h)
            rw [if_neg (by rw [h1]; exact Bool.false_ne_true)] at hr
            (try cbv)
            apply Hidden.out
            obtain rfl := Option.some.inj hr
            have e := (ht2 _ rfl).symm
            subst e
            constructor
            refine ⟨⟨_, rfl⟩, ?_⟩
            rintro ⟨u0, u1⟩ e
            replace e := Sum.inl.inj e
            simp only [Prod.mk.injEq] at e
            obtain ⟨e0, e1⟩ := e
            refine le_auto hk ?_
            (try cbv); (try simp only [choice_lk, lock_eq, and_self, and_true, true_and]); (try first | exact e | exact e.symm | (and_intros <;> first | assumption | rfl | exact Eq.symm (by assumption)))
      · have h1 : (ilt i4 (ofN (xlen s1))) = false := by first | exact h | (have h2 := h; simp only [choice_lk, lock_eq] at h2; exact h2) | (simp only [choice_lk, lock_eq] at h; exact h)
        rw [if_neg (by rw [h1]; exact Bool.false_ne_true)] at hr
        (try cbv)
        apply Hidden.out
        obtain rfl := Option.some.inj hr
        have e := ht1 _ rfl
        constructor
        refine ⟨_, hF, ?_⟩
        (try cbv); (try simp only [choice_lk, lock_eq, and_self, and_true, true_and]); (try first | exact e | exact e.symm | (and_intros <;> first | assumption | rfl | exact Eq.symm (by assumption)))
end Go.Proofs.YtnkfginlmdenjaaDoor
end
section
/-
  The walk of tollbar/octet.Big (printed by a program of ours).
-/
set_option linter.unusedVariables false
set_option linter.unusedSimpArgs false
namespace Go.Proofs.YtnkfginlmdenjaaDoor
open Go.RowKit

noncomputable def tab_octet_Big : Nat → Option Con := look []
set_option maxHeartbeats 4000000 in
set_option maxRecDepth 100000 in
theorem vc_octet_Big (P : Program) (T : Tab P tab_octet_Big) (hm : P.follows .mixedOrders = true) : FnVC P tab_octet_Big ic_21 [.t 4] 28 con_octet_Big := by
  intro cargs ccks ce hce hob C hk
  apply Hidden.out
  replace hce : con_octet_Big_1 cargs ccks = some ce := hce
  · unfold con_octet_Big_1 at hce
    split at hce
    rotate_left
    · cases hce
    obtain rfl := Option.some.inj hce
    rename_i x1 x2
    have hb1 := hob _ (List.mem_singleton.2 rfl)
    have hb2 := obl.1 hb1
    clear hb1 hob hce
    refine hb2.elim fun r hF => ?_
    clear hb2
    simp only [List.length_cons, List.length_nil, Nat.zero_add, Nat.reduceAdd] at hk
    have hr : F_octet_Big x1 x2 = some r := by rw [lock_eq] at hF; exact hF
    unfold F_octet_Big at hr
    constructor
    (try cbv)
    refine sel_intro (fun h => ?_) (fun h => ?_)
    · have h1 : (ilt x2 (1 : Int)) = true := by first | exact h | (have h2 := h; simp only [choice_lk, lock_eq] at h2; exact h2) | (simp only [choice_lk, lock_eq] at h; exact h)
      rw [if_pos h1] at hr
      (try cbv)
      apply Hidden.out
      have e := Option.some.inj hr
      constructor
      refine ⟨_, hF, ?_⟩
      (try cbv); (try simp only [choice_lk, lock_eq, and_self, and_true, true_and]); (try first | exact e | exact e.symm | (and_intros <;> first | assumption | rfl | exact Eq.symm (by assumption)))
    · have h1 : (ilt x2 (1 : Int)) = false := by first | exact h | (have h2 := h; simp only [choice_lk, lock_eq] at h2; exact h2) | (simp only [choice_lk, lock_eq] at h; exact h)
      rw [if_neg (by rw [h1]; exact Bool.false_ne_true)] at hr
      (try cbv)
      refine sel_intro (fun h => ?_) (fun h => ?_)
      · have h1 : (ilt (8 : Int) x2) = true := by first | exact h | (have h2 := h; simp only [choice_lk, lock_eq] at h2; exact h2) | (simp only [choice_lk, lock_eq] at h; exact h)
        rw [if_pos h1] at hr
        (try cbv)
        apply Hidden.out
        have e := Option.some.inj hr
        constructor
        refine ⟨_, hF, ?_⟩
        (try cbv); (try simp only [choice_lk, lock_eq, and_self, and_true, true_and]); (try first | exact e | exact e.symm | (and_intros <;> first | assumption | rfl | exact Eq.symm (by assumption)))
      · have h1 : (ilt (8 : Int) x2) = false := by first | exact h | (have h2 := h; simp only [choice_lk, lock_eq] at h2; exact h2) | (simp only [choice_lk, lock_eq] at h; exact h)
        rw [if_neg (by rw [h1]; exact Bool.false_ne_true)] at hr
        (try cbv)
        refine LoopOK.iter T (drawOK T hm) (B := (F_octet_Big_L1 x1)) hr (fun | (i1, s1) => ⟨mkFr [(0, (.v (.int .u64 x1))), (5, (.wsl 0)), (6, (.v (.int .i64 i1)))] 28 0, [(0, .row (.bs 5 s1))], 1⟩) ?_ ?_
        · rintro ⟨u0, u1⟩ e
          simp only [Prod.mk.injEq] at e
          obtain ⟨e0, e1⟩ := e
          refine le_auto hk ?_
          (try cbv); (try simp only [choice_lk, lock_eq, and_self, and_true, true_and]); (try first | exact e | exact e.symm | (and_intros <;> first | assumption | rfl | exact Eq.symm (by assumption)))
        · clear hr
          intro x bb1 hr ht1
          obtain ⟨i1, s1⟩ := x
          constructor
          unfold F_octet_Big_L1 at hr
          (try dsimp only at hr)
          (try cbv)
          refine sel_intro (fun h => ?_) (fun h => ?_)
          · have h1 : (ile (0 : Int) i1) = true := by first | exact h | (have h2 := h; simp only [choice_lk, lock_eq] at h2; exact h2) | (simp only [choice_lk, lock_eq] at h; exact h)
            rw [if_pos h1] at hr
            (try cbv)
            have gg := guard_inv hr
            have g := gg.1
            replace hr := gg.2
            clear gg
            refine ⟨obl.2 (by first | (simp only [choice_lk, lock_eq, R.len, R.sub]; exact g) | exact g), ?_⟩
            have gg := guard_inv hr
            have g := gg.1
            replace hr := gg.2
            clear gg
            refine ⟨obl.2 (by first | (simp only [choice_lk, lock_eq, R.len, R.sub]; exact g) | exact g), ?_⟩
            have gg := guard_inv hr
            have g := gg.1
            replace hr := gg.2
            clear gg
            refine ⟨obl.2 (by first | (simp only [choice_lk, lock_eq, R.len, R.sub]; exact g) | exact g), ?_⟩
            apply Hidden.out
            obtain rfl := Option.some.inj hr
            constructor
            refine ⟨⟨_, rfl⟩, ?_⟩
            rintro ⟨u0, u1⟩ e
            replace e := Sum.inl.inj e
            simp only [Prod.mk.injEq] at e
            obtain ⟨e0, e1⟩ := e
            refine le_auto hk ?_
            (try cbv); (try simp only [choice_lk, lock_eq, and_self, and_true, true_and]); (try first | exact e | exact e.symm | (and_intros <;> first | assumption | rfl | exact Eq.symm (by assumption)))
          · have h1 : (ile (0 : Int) i1) = false := by first | exact h | (have h2 := h; simp only [choice_lk, lock_eq] at h2; exact h2) | (simp only [choice_lk, lock_eq] at h; exact h)
            rw [if_neg (by rw [h1]; exact Bool.false_ne_true)] at hr
            (try cbv)
            apply Hidden.out
            obtain rfl := Option.some.inj hr
            have e := ht1 _ rfl
            constructor
            refine ⟨_, hF, ?_⟩
            (try cbv); (try simp only [choice_lk, lock_eq, and_self, and_true, true_and]); (try first | exact e | exact e.symm | (and_intros <;> first | assumption | rfl | exact Eq.symm (by assumption)))
end Go.Proofs.YtnkfginlmdenjaaDoor
end
section
/-
  The walk of tollbar/frame.Put (printed by a program of ours).
-/
set_option linter.unusedVariables false
set_option linter.unusedSimpArgs false
namespace Go.Proofs.YtnkfginlmdenjaaDoor
open Go.RowKit

noncomputable def tab_frame_Put : Nat → Option Con := look [(20, con_varint_Put), (14, con_frame_Sum), (21, con_octet_Big)]
set_option maxHeartbeats 4000000 in
set_option maxRecDepth 100000 in
theorem vc_frame_Put (P : Program) (T : Tab P tab_frame_Put) (hm : P.follows .mixedOrders = true) : FnVC P tab_frame_Put ic_10 [.t 2, .t 3] 20 con_frame_Put := by
  intro cargs ccks ce hce hob C hk
  apply Hidden.out
  replace hce : con_frame_Put_1 cargs ccks = some ce := hce
  · unfold con_frame_Put_1 at hce
    split at hce
    rotate_left
    · cases hce
    obtain rfl := Option.some.inj hce
    rename_i s1
    have hb1 := hob _ (List.mem_singleton.2 rfl)
    have hb2 := obl.1 hb1
    clear hb1 hob hce
    refine hb2.elim fun r hF => ?_
    clear hb2
    simp only [List.length_cons, List.length_nil, Nat.zero_add, Nat.reduceAdd] at hk
    have hr : F_frame_Put s1 = some r := by rw [lock_eq] at hF; exact hF
    unfold F_frame_Put at hr
    constructor
    (try cbv)
    refine sel_intro (fun h => ?_) (fun h => ?_)
    · have h1 : (ilt (8192 : Int) (ofN (xlen s1))) = true := by first | exact h | (have h2 := h; simp only [choice_lk, lock_eq] at h2; exact h2) | (simp only [choice_lk, lock_eq] at h; exact h)
      rw [if_pos h1] at hr
      (try cbv)
      apply Hidden.out
      have e := Option.some.inj hr
      obtain ⟨u0, u1⟩ := r
      simp only [Prod.mk.injEq] at e
      obtain ⟨e0, e1⟩ := e
      constructor
      refine ⟨_, hF, ?_⟩
      (try cbv); (try simp only [choice_lk, lock_eq, and_self, and_true, true_and]); (try first | exact e | exact e.symm | (and_intros <;> first | assumption | rfl | exact Eq.symm (by assumption)))
    · have h1 : (ilt (8192 : Int) (ofN (xlen s1))) = false := by first | exact h | (have h2 := h; simp only [choice_lk, lock_eq] at h2; exact h2) | (simp only [choice_lk, lock_eq] at h; exact h)
      rw [if_neg (by rw [h1]; exact Bool.false_ne_true)] at hr
      (try cbv)
      have hqe : ∃ qq, F_varint_Put (iconv .u64 (ofN (xlen s1))) = some qq := by
        cases hq : F_varint_Put (iconv .u64 (ofN (xlen s1))) with
        | none => rw [hq] at hr; cases hr
        | some qq => exact ⟨qq, rfl⟩
      refine ⟨obl.2 (by simp only [choice_lk, lock_eq]; exact hqe), (by rintro (_) _ <;> cbv), ?_⟩
      clear hqe
      intro t1 hx1
      simp only [choice_lk, lock_eq] at hx1
      all_goals (rw [hx1] at hr; dsimp only at hr; constructor; (try cbv))
      have gg := guard_inv hr
      have g := gg.1
      replace hr := gg.2
      clear gg
      refine ⟨obl.2 (by first | (simp only [choice_lk, lock_eq, R.len, R.sub]; exact g) | exact g), ?_⟩
      have hqe : ∃ qq, F_frame_Sum (cat t1 s1) = some qq := by
        cases hq : F_frame_Sum (cat t1 s1) with
        | none => rw [hq] at hr; cases hr
        | some qq => exact ⟨qq, rfl⟩
      refine ⟨obl.2 (by simp only [choice_lk, lock_eq]; exact hqe), (by rintro (_) _ <;> cbv), ?_⟩
      clear hqe
      intro y1 hx2
      simp only [choice_lk, lock_eq] at hx2
      all_goals (rw [hx2] at hr; dsimp only at hr; constructor; (try cbv))
      have hqe : ∃ qq, F_octet_Big (iconv .u64 y1) (4 : Int) = some qq := by
        cases hq : F_octet_Big (iconv .u64 y1) (4 : Int) with
        | none => rw [hq] at hr; cases hr
        | some qq => exact ⟨qq, rfl⟩
      refine ⟨obl.2 (by simp only [choice_lk, lock_eq]; exact hqe), (by rintro (_) _ <;> cbv), ?_⟩
      clear hqe
      intro t2 hx3
      simp only [choice_lk, lock_eq] at hx3
      all_goals (rw [hx3] at hr; dsimp only at hr; constructor; (try cbv))
      have gg := guard_inv hr
      have g := gg.1
      replace hr := gg.2
      clear gg
      refine ⟨obl.2 (by first | (simp only [choice_lk, lock_eq, R.len, R.sub]; exact g) | exact g), ?_⟩
      apply Hidden.out
      have e := Option.some.inj hr
      obtain ⟨u0, u1⟩ := r
      simp only [Prod.mk.injEq] at e
      obtain ⟨e0, e1⟩ := e
      constructor
      refine ⟨_, hF, ?_⟩
      (try cbv); (try simp only [choice_lk, lock_eq, and_self, and_true, true_and]); (try first | exact e | exact e.symm | (and_intros <;> first | assumption | rfl | exact Eq.symm (by assumption)))
end Go.Proofs.YtnkfginlmdenjaaDoor
end
