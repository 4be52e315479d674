/-
  Texts that the row of this claim stands on, one behind the other.
-/
import Derived.Orders
import Derived.KernelRfl
import Derived.RangeFuncIn
import Derived.TacticsIn
import Derived.OwnWalkIn
import Derived.Test.YtbkcmpggacbikaaDoorKJournalCounts1
import Derived.Test.YtbkcmpggacbikaaDoorKJournalCounts2
section
/-
  A walk that reckons: an operation looks at its own slots and memory alone.
-/
set_option linter.unusedVariables false
set_option linter.unusedSimpArgs false
namespace Go.Proofs.YtbkcmpggacbikaaDoor
open Go.RowKit
section
variable {s t : St}
theorem ev_loc {x : Opnd} {l : List Nat} (h : ∀ i ∈ l, fget s.fr i = fget t.fr i) (hx : ∀ i ∈ x.slots, i ∈ l) : t.ev x = s.ev x := by
 cases x with
 | t n => exact (h n (hx n (by simp [Opnd.slots]))).symm
 | k v => rfl
 | f f => rfl
theorem evs_loc : ∀ {xs : List Opnd} {l : List Nat}, (∀ i ∈ l, fget s.fr i = fget t.fr i) → (∀ i ∈ Opnd.lslots xs, i ∈ l) → t.evs xs = s.evs xs
 | [], _, _, _ => rfl
 | x :: xs, l, h, hx => by
  unfold St.evs
  rw [ev_loc h (x := x) fun i hi => hx i (by simp [Opnd.lslots, hi]), evs_loc h (xs := xs) fun i hi => hx i (by simp [Opnd.lslots, hi])]
theorem parts_loc : ∀ {ps : List (Nat × Nat × Opnd)} {l : List Nat}, (∀ i ∈ l, fget s.fr i = fget t.fr i) → (∀ i ∈ Opnd.pslots ps, i ∈ l) → t.parts ps = s.parts ps
 | [], _, _, _ => rfl
 | (o, n, x) :: xs, l, h, hx => by
  unfold St.parts
  rw [ev_loc h (x := x) fun i hi => hx i (by simp [Opnd.pslots, hi]), parts_loc h (ps := xs) fun i hi => hx i (by simp [Opnd.pslots, hi])]
theorem rowOf_loc {h h' : List (Nat × Ck)} {id : Nat} (e : hget h id = hget h' id) : rowOf h' id = rowOf h id := by unfold rowOf; rw [e]
theorem partG_loc {h h' : List (Nat × Ck)} : ∀ (l : List (Nat × Nat × SV)), (∀ i ∈ partW l, hget h i = hget h' i) → partG h' l = partG h l
 | [], _ => rfl
 | (o, n, v) :: l, e => by
  simp only [partG]
  rw [partG_loc l (fun i hi => e i (by simp only [partW]; exact List.mem_append_right _ hi))]
  congr 3
  cases v with
  | wsl id => simp only [SV.giv]; rw [rowOf_loc (e id (by simp [partW, SV.wid1]))]
  | _ => rfl
theorem gone_key : ∀ (ids : List Nat) (u : List (Nat × Option Ck)) (i : Nat) (c : Option Ck), (i, c) ∈ gone ids u → i ∈ ids ∨ (i, c) ∈ u
 | [], u, i, c, h => .inr h
 | k :: ids, u, i, c, h => by
  simp only [gone] at h
  rcases List.mem_cons.1 h with e | h
  ·injection e with e1 e2; subst e1; exact .inl (List.mem_cons_self ..)
  ·rcases gone_key ids u i c h with h | h
   ·exact .inl (List.mem_cons_of_mem _ h)
   ·exact .inr h
theorem blkOf_loc {h h' : List (Nat × Ck)} {id : Nat} (e : hget h id = hget h' id) : blkOf h' id = blkOf h id := by unfold blkOf; rw [e]
theorem rowS_loc {h h' : List (Nat × Ck)} {v : SV} (e : ∀ id ∈ rdS v, hget h id = hget h' id) : rowS h' v = rowS h v := by
 cases v <;> simp only [rowS] <;> rw [rowOf_loc (e _ (by simp [rdS]))]
theorem lenS_loc {h h' : List (Nat × Ck)} {v : SV} (e : ∀ id ∈ rdS v, hget h id = hget h' id) : lenS h' v = lenS h v := by
 cases v <;> simp only [lenS]
 rw [rowOf_loc (e _ (by simp [rdS]))]
theorem cellS_loc {h h' : List (Nat × Ck)} {v : SV} {n : Nat} (e : ∀ id ∈ rdS v, hget h id = hget h' id) : cellS h' v n = cellS h v n := by
 cases v <;> simp only [cellS]
 ·rw [blkOf_loc (e _ (by simp [rdS]))]
 ·rw [rowOf_loc (e _ (by simp [rdS]))]
theorem slS_loc {v : SV} {len : Nat} {lo hi : Option Opnd} {l : List Nat} (h : ∀ i ∈ l, fget s.fr i = fget t.fr i) (h1 : ∀ i ∈ Opnd.oslots lo, i ∈ l) (h2 : ∀ i ∈ Opnd.oslots hi, i ∈ l) : slS t v len lo hi = slS s v len lo hi := by
 cases lo <;> cases hi <;> simp only [slS]
 ·rw [ev_loc h h2]
 ·rw [ev_loc h h1]
 ·rw [ev_loc h h1, ev_loc h h2]
theorem slS_rd {v : SV} {len : Nat} {lo hi : Option Opnd} {E : Eff} (h : slS s v len lo hi = some E) : E.rd = rdS v ∧ E.wr = [] ∧ ∃ u, E.out = .one u [] := by
 cases lo <;> cases hi <;> simp only [slS] at h <;> (repeat (first | (split at h)))
 all_goals first
  | (cases h; done)
  | (injection h with h; subst h; exact ⟨rfl, rfl, _, rfl⟩)
theorem reach_sub {h : List (Nat × Ck)} : ∀ (n : Nat) (rest done : List Nat), ∀ i ∈ done, i ∈ reach h n rest done
 | 0, rest, done, i, hi => by simpa [reach] using hi
 | n + 1, [], done, i, hi => by simpa [reach] using hi
 | n + 1, j :: rest, done, i, hi => by
  unfold reach
  split
  ·exact reach_sub n _ _ i hi
  ·split
   ·exact reach_sub n _ _ i (by simp [hi])
   ·exact reach_sub n _ _ i (by simp [hi])
   ·exact reach_sub n _ _ i (by simp [hi])
theorem reach_loc {h h' : List (Nat × Ck)} : ∀ (n : Nat) (rest done : List Nat), (∀ i ∈ reach h n rest done, hget h i = hget h' i) → reach h' n rest done = reach h n rest done
 | 0, rest, done, _ => by simp [reach]
 | n + 1, [], done, _ => by simp [reach]
 | n + 1, j :: rest, done, he => by
  unfold reach at he ⊢
  split
  ·rename_i hm
   rw [hm] at he
   exact reach_loc n _ _ he
  ·rename_i hm
   rw [hm] at he
   simp only [] at he
   have hj : hget h j = hget h' j := by
    refine he j ?_
    split <;> exact reach_sub n _ _ j (by simp)
   rw [← hj]
   split
   ·rename_i e; rw [e] at he; exact reach_loc n _ _ he
   ·rename_i e; rw [e] at he; exact reach_loc n _ _ he
   ·rename_i e; rw [e] at he; exact reach_loc n _ _ he
theorem cksOf_loc {h h' : List (Nat × Ck)} : ∀ (ids : List Nat), (∀ i ∈ ids, hget h i = hget h' i) → cksOf h' ids = cksOf h ids
 | [], _ => rfl
 | i :: is, he => by
  unfold cksOf
  rw [cksOf_loc is fun j hj => he j (List.mem_cons_of_mem _ hj), he i (List.mem_cons_self ..)]
theorem lend_loc {h h' : List (Nat × Ck)} {b : Option RK} {x : SV} (he : ∀ id ∈ lentIds [b] [x], hget h id = hget h' id) : lend h' b x = lend h b x := by
 cases b with
 | none => rfl
 | some rk => cases x <;> first | rfl | (simp only [lend]; rw [he _ (by simp [lentIds])])
theorem lentIds_cons {b : Option RK} {bs : List (Option RK)} {x : SV} {xs : List SV} : lentIds (b :: bs) (x :: xs) = lentIds [b] [x] ++ lentIds bs xs := by
 cases b <;> cases x <;> simp [lentIds]
theorem lends_loc {h h' : List (Nat × Ck)} : ∀ (bs : List (Option RK)) (xs : List SV), (∀ id ∈ lentIds bs xs, hget h id = hget h' id) → lends h' bs xs = lends h bs xs
 | bs, [], _ => by cases bs <;> rfl
 | [], x :: xs, he => by
  unfold lends
  rw [lends_loc [] xs fun id hid => absurd hid (by cases xs <;> simp [lentIds])]
 | b :: bs, x :: xs, he => by
  unfold lends
  rw [lentIds_cons] at he
  rw [lend_loc fun id hid => he id (List.mem_append_left _ hid), lends_loc bs xs fun id hid => he id (List.mem_append_right _ hid)]
theorem effOf_rd {ids lent : List Nat} {cks ccks : List Ck} {fresh : Nat} {b : Bool} {ce : CEff} {E : Eff} (h : effOf ids lent cks ccks fresh b ce = some E) : E.rd = ids ++ lent := by
 unfold effOf at h
 split at h
 ·split at h
  ·injection h with h; subst h; rfl
  ·cases h
 ·injection h with h; subst h; rfl
theorem callT_rd {con : Con} {vs ws : List SV} {b : Bool} {fresh : Nat} {ids : List Nat} {E : Eff} (h : callT con vs ws b s fresh ids = some E) : E.rd = ids ++ lentIds con.ro vs := by
 unfold callT at h
 repeat (first | split at h)
 all_goals first
  | (cases h; done)
  | exact effOf_rd h
theorem callS_loc {Γ : FuncId → Option Con} {f : FuncId} {vs : List SV} {fresh : Nat} {E : Eff} (h : callS Γ f vs s fresh = some E) (hr : ∀ id ∈ E.rd, hget s.hp id = hget t.hp id) : callS Γ f vs t fresh = some E := by
 unfold callS at h ⊢
 cases hΓ : Γ f with
 | none => rw [hΓ] at h; cases h
 | some con =>
  rw [hΓ] at h
  simp only [] at h ⊢
  cases hl : lends s.hp con.ro vs with
  | none => rw [hl] at h; cases h
  | some p =>
   obtain ⟨ws, b⟩ := p
   rw [hl] at h
   simp only [] at h
   have e := callT_rd h
   rw [lends_loc con.ro vs fun id hid => hr id (by rw [e]; exact List.mem_append_right _ hid), hl]
   simp only []
   have e2 : reach t.hp 40 (SV.idsL ws) [] = reach s.hp 40 (SV.idsL ws) [] := reach_loc _ _ _ fun i hi => hr i (by rw [e]; exact List.mem_append_left _ hi)
   rw [e2]
   unfold callT at h ⊢
   rw [cksOf_loc _ fun i hi => hr i (by rw [e]; exact List.mem_append_left _ hi)]
   exact h
theorem rd_none {α : Type} {x : Option α} {E : Eff} {g : α → Option Eff} {l : List Nat} (h : (match x with | some a => g a | none => none) = some E) (k : ∀ a, g a = some E → E.rd = l) : E.rd = l := by
 cases x with
 | none => cases h
 | some a => exact k a h
theorem step_loc {Γ : FuncId → Option Con} {op : IOp} {f : Nat} {E : Eff} (h : step Γ op s f = some E) (hs : ∀ i ∈ op.slots, fget s.fr i = fget t.fr i) (hr : ∀ id ∈ E.rd, hget s.hp id = hget t.hp id) : step Γ op t f = some E := by
 cases op with
 | pick a b c => simp only [step] at h ⊢; rw [ev_loc hs (x := a) (by simp [IOp.slots]; grind), ev_loc hs (x := b) (by simp [IOp.slots]; grind), ev_loc hs (x := c) (by simp [IOp.slots]; grind)]; exact h
 | isn kind ne x =>
  simp only [step] at h ⊢
  rw [ev_loc hs (x := x) (by simp [IOp.slots])]
  cases hx : s.ev x with
  | none => rw [hx] at h; cases h
  | some v =>
   rw [hx] at h
   simp only [] at h ⊢
   cases hn : nilS kind v with
   | some b => rw [hn] at h; exact h
   | none =>
    rw [hn] at h
    simp only [] at h ⊢
    have hrd : E.rd = rdS v := by have h' := h; ((repeat' (split at h')) <;> first | (cases h'; done) | (injection h' with hh; subst hh; first | rfl | (simp; done)))
    rw [hrd] at hr
    rw [lenS_loc hr]
    exact h
 | idx x i sz =>
  simp only [step] at h ⊢
  rw [ev_loc hs (x := x) (by simp [IOp.slots]; grind), ev_loc hs (x := i) (by simp [IOp.slots]; grind)]
  split at h
  ·rename_i id k n hx hi
   try rw [hx, hi]
   try simp only []
   have hrd : E.rd = [id] := by have h' := h; ((repeat' (split at h')) <;> first | (cases h'; done) | (injection h' with hh; subst hh; first | rfl | (simp; done)))
   rw [rowOf_loc (hr id (by rw [hrd]; simp))]
   exact h
  ·rename_i id lo len k n hx hi
   try rw [hx, hi]
   try simp only []
   have hrd : E.rd = [id] := by have h' := h; ((repeat' (split at h')) <;> first | (cases h'; done) | (injection h' with hh; subst hh; first | rfl | (simp; done)))
   rw [rowOf_loc (hr id (by rw [hrd]; simp))]
   exact h
  ·rename_i r k n hx hi
   try rw [hx, hi]
   exact h
  ·cases h
 | ld x =>
  simp only [step] at h ⊢
  rw [ev_loc hs (x := x) (by simp [IOp.slots])]
  cases hx : s.ev x with
  | none => rw [hx] at h; cases h
  | some p =>
   rw [hx] at h
   simp only [] at h ⊢
   have hrd : E.rd = rdS p := by have h' := h; ((repeat' (split at h')) <;> first | (cases h'; done) | (injection h' with hh; subst hh; first | rfl | (simp; done)))
   rw [hrd] at hr
   rw [cellS_loc hr]
   exact h
 | lda x n =>
  simp only [step] at h ⊢
  rw [ev_loc hs (x := x) (by simp [IOp.slots])]
  cases hx : s.ev x with
  | none => rw [hx] at h; cases h
  | some p =>
   rw [hx] at h
   simp only [] at h ⊢
   have hrd : E.rd = rdS p := by have h' := h; ((repeat' (split at h')) <;> first | (cases h'; done) | (injection h' with hh; subst hh; first | rfl | (simp; done)))
   rw [hrd] at hr
   rw [cellS_loc hr]
   exact h
 | st x v n =>
  simp only [step] at h ⊢
  rw [ev_loc hs (x := x) (by simp [IOp.slots]; grind), ev_loc hs (x := v) (by simp [IOp.slots]; grind)]
  split at h
  ·rename_i id off a hx hv
   try rw [hx, hv]
   try simp only []
   have hrd : E.rd = [id] := by have h' := h; ((repeat' (split at h')) <;> first | (cases h'; done) | (injection h' with hh; subst hh; first | rfl | (simp; done)))
   rw [blkOf_loc (hr id (by rw [hrd]; simp))]
   exact h
  ·rename_i id i off a hx hv
   try rw [hx, hv]
   try simp only []
   have hrd : E.rd = [id] := by have h' := h; ((repeat' (split at h')) <;> first | (cases h'; done) | (injection h' with hh; subst hh; first | rfl | (simp; done)))
   rw [rowOf_loc (hr id (by rw [hrd]; simp))]
   exact h
  ·cases h
 | b2s x =>
  simp only [step] at h ⊢
  rw [ev_loc hs (x := x) (by simp [IOp.slots])]
  split at h
  ·exact h
  ·rename_i v hne hx
   have hrd : E.rd = rdS v := by have h' := h; ((repeat' (split at h')) <;> first | (cases h'; done) | (injection h' with hh; subst hh; first | rfl | (simp; done)))
   rw [hrd] at hr
   (try simp only [])
   rw [rowS_loc hr]
   exact h
  ·cases h
 | ssl x lo hi =>
  simp only [step] at h ⊢
  rw [ev_loc hs (x := x) (by simp [IOp.slots]; grind)]
  cases lo <;> cases hi <;> simp only [] at h ⊢
  ·exact h
  ·rename_i b; rw [ev_loc hs (x := b) (by simp [IOp.slots, Opnd.oslots]; grind)]; exact h
  ·rename_i b; rw [ev_loc hs (x := b) (by simp [IOp.slots, Opnd.oslots]; grind)]; exact h
  ·rename_i b c; rw [ev_loc hs (x := b) (by simp [IOp.slots, Opnd.oslots]; grind), ev_loc hs (x := c) (by simp [IOp.slots, Opnd.oslots]; grind)]; exact h
 | sls x lo hi sz =>
  have hf : ∀ v len, slS t v len lo hi = slS s v len lo hi := fun v len => slS_loc hs (by simp [IOp.slots]; grind) (by simp [IOp.slots]; grind)
  have hlo : ∀ y, lo = some y → t.ev y = s.ev y := fun y e => ev_loc hs (by subst e; simp [IOp.slots, Opnd.oslots]; grind)
  have hhi : ∀ y, hi = some y → t.ev y = s.ev y := fun y e => ev_loc hs (by subst e; simp [IOp.slots, Opnd.oslots]; grind)
  simp only [step] at h ⊢
  rw [ev_loc hs (x := x) (by simp [IOp.slots]; grind)]
  simp only [hf]
  cases lo <;> cases hi <;> (try simp only [hlo _ rfl]) <;> (try simp only [hhi _ rfl])
  all_goals
   split at h
   ·exact h
   ·rename_i v hne hx
    have hrd : E.rd = rdS v := by
     have h' := h
     split at h'
     ·split at h'
      ·exact (slS_rd h').1
      ·cases h'
     ·cases h'
    rw [hrd] at hr
    (try simp only [])
    rw [lenS_loc hr, rowS_loc hr]
    exact h
   ·cases h
 | app rk bytes a x =>
  simp only [step] at h ⊢
  rw [ev_loc hs (x := x) (by simp [IOp.slots]; grind), ev_loc hs (x := a) (by simp [IOp.slots]; grind)]
  split at h
  ·rename_i h1 h2; exact h
  ·rename_i id h1 h2
   try rw [h1, h2]
   have hrd : E.rd = [id] := by have h' := h; ((repeat' (split at h')) <;> first | (cases h'; done) | (injection h' with hh; subst hh; first | rfl | (simp; done)))
   rw [rowOf_loc (hr id (by rw [hrd]; simp))]
   exact h
  ·rename_i u hne h1 h2
   have hrd : E.rd = rdS u := by have h' := h; ((repeat' (split at h')) <;> first | (cases h'; done) | (injection h' with hh; subst hh; first | rfl | (simp; done)))
   rw [rowS_loc fun j hj => hr j (by rw [hrd]; simp [hj])]
   exact h
  ·rename_i id u hne h1 h2
   have hrd : E.rd = id :: rdS u := by have h' := h; ((repeat' (split at h')) <;> first | (cases h'; done) | (injection h' with hh; subst hh; first | rfl | (simp; done)))
   rw [rowOf_loc (hr id (by rw [hrd]; simp)), rowS_loc fun j hj => hr j (by rw [hrd]; simp [hj])]
   exact h
  ·cases h
 | copy a x sz =>
  simp only [step] at h ⊢
  rw [ev_loc hs (x := x) (by simp [IOp.slots]; grind), ev_loc hs (x := a) (by simp [IOp.slots]; grind)]
  split at h
  ·rename_i id h1 h2
   (try rw [h1, h2]); exact h
  ·rename_i id lo n h1 h2
   (try rw [h1, h2]); exact h
  ·rename_i id u hn h1 h2
   try rw [h1, h2]
   try simp only []
   have hrd : E.rd = id :: rdS u := by have h' := h; ((repeat' (split at h')) <;> first | (cases h'; done) | (injection h' with hh; subst hh; first | rfl | (simp; done)))
   rw [rowOf_loc (hr id (by rw [hrd]; simp)), rowS_loc fun j hj => hr j (by rw [hrd]; simp [hj])]
   exact h
  ·rename_i id lo n u hn h1 h2
   try rw [h1, h2]
   try simp only []
   have hrd : E.rd = id :: rdS u := by have h' := h; ((repeat' (split at h')) <;> first | (cases h'; done) | (injection h' with hh; subst hh; first | rfl | (simp; done)))
   rw [rowOf_loc (hr id (by rw [hrd]; simp)), rowS_loc fun j hj => hr j (by rw [hrd]; simp [hj])]
   exact h
  ·rename_i id i u h1 h2
   try rw [h1, h2]
   try simp only []
   have hrd : E.rd = id :: rdS u := by have h' := h; ((repeat' (split at h')) <;> first | (cases h'; done) | (injection h' with hh; subst hh; first | rfl | (simp; done)))
   rw [rowOf_loc (hr id (by rw [hrd]; simp)), rowS_loc fun j hj => hr j (by rw [hrd]; simp [hj])]
   exact h
  ·cases h
 | len str x =>
  simp only [step] at h ⊢
  rw [ev_loc hs (x := x) (by simp [IOp.slots])]
  cases hx : s.ev x with
  | none => rw [hx] at h; cases h
  | some v =>
   rw [hx] at h
   simp only [] at h ⊢
   have hl : lenS t.hp v = lenS s.hp v := by
    cases v with
    | wsl id =>
     have hrd : E.rd = [id] := by
      have h' := h
      cases str <;> cases hq : lenS s.hp (SV.wsl id) <;> rw [hq] at h' <;> simp only [] at h' <;> first
       | (cases h'; done)
       | (injection h' with hh; subst hh; rfl)
     simp only [lenS]
     rw [rowOf_loc (hr id (by rw [hrd]; simp))]
    | _ => rfl
   rw [hl]
   exact h
 | clear rk x =>
  simp only [step] at h ⊢
  rw [ev_loc hs (x := x) (by simp [IOp.slots])]
  split at h
  ·rename_i hx; exact h
  ·rename_i id hx
   try rw [hx]
   try simp only []
   have hrd : E.rd = [id] := by have h' := h; ((repeat' (split at h')) <;> first | (cases h'; done) | (injection h' with hh; subst hh; first | rfl | (simp; done)))
   rw [rowOf_loc (hr id (by rw [hrd]; simp))]
   exact h
  ·cases h
 | call f args =>
  simp only [step] at h ⊢
  rw [evs_loc hs (xs := args) (by simp [IOp.slots])]
  split at h
  ·rename_i vs hv
   try rw [hv]
   exact callS_loc h hr
  ·cases h
 | callv g args =>
  simp only [step] at h ⊢
  rw [ev_loc hs (x := g) (by simp [IOp.slots]; grind), evs_loc hs (xs := args) (by simp [IOp.slots]; grind)]
  split at h
  ·rename_i vs hg hv
   try rw [hg, hv]
   exact callS_loc h hr
  ·cases h
 | new T zs => exact h
 | build zs ps => simp only [step] at h ⊢; rw [parts_loc hs (ps := ps) (by simp [IOp.slots])]; exact h
 | bsl rk n zs ps =>
  simp only [step] at h ⊢
  rw [parts_loc hs (ps := ps) (by simp [IOp.slots])]
  split at h
  ·rename_i l hl
   have hrd : E.rd = partW l := by have h' := h; ((repeat' (split at h')) <;> first | (cases h'; done) | (injection h' with hh; subst hh; rfl))
   (try rw [hl])
   (try simp only [])
   rw [partG_loc l (fun i hi => hr i (by rw [hrd]; exact hi))]
   exact h
  ·cases h
 | mkfn f l => simp only [step] at h ⊢; rw [evs_loc hs (xs := l) (by simp [IOp.slots])]; exact h
 | box T n x => simp only [step] at h ⊢; rw [ev_loc hs (x := x) (by simp [IOp.slots])]; exact h
 | mv x => simp only [step] at h ⊢; rw [ev_loc hs (x := x) (by simp [IOp.slots])]; exact h
 | bnot x => simp only [step] at h ⊢; rw [ev_loc hs (x := x) (by simp [IOp.slots])]; exact h
 | ineg k x => simp only [step] at h ⊢; rw [ev_loc hs (x := x) (by simp [IOp.slots])]; exact h
 | icom k x => simp only [step] at h ⊢; rw [ev_loc hs (x := x) (by simp [IOp.slots])]; exact h
 | fld x off => simp only [step] at h ⊢; rw [ev_loc hs (x := x) (by simp [IOp.slots])]; exact h
 | chk x => simp only [step] at h ⊢; rw [ev_loc hs (x := x) (by simp [IOp.slots])]; exact h
 | ext x i => simp only [step] at h ⊢; rw [ev_loc hs (x := x) (by simp [IOp.slots])]; exact h
 | part x off n g => simp only [step] at h ⊢; rw [ev_loc hs (x := x) (by simp [IOp.slots])]; exact h
 | conv k x => simp only [step] at h ⊢; rw [ev_loc hs (x := x) (by simp [IOp.slots])]; exact h
 | smv x => simp only [step] at h ⊢; rw [ev_loc hs (x := x) (by simp [IOp.slots])]; exact h
 | cvs x =>
  simp only [step] at h ⊢
  rw [ev_loc hs (x := x) (by simp [IOp.slots])]
  split at h
  ·rename_i id hx
   have hrd : E.rd = [id] := by have h' := h; ((repeat' (split at h')) <;> first | (cases h'; done) | (injection h' with hh; subst hh; first | rfl | (simp; done)))
   rw [rowOf_loc (hr id (by rw [hrd]; simp))]
   exact h
  ·cases h
 | sla n x =>
  simp only [step] at h ⊢
  rw [ev_loc hs (x := x) (by simp [IOp.slots])]
  split at h
  ·rename_i id hx
   have hrd : E.rd = [id] := by have h' := h; ((repeat' (split at h')) <;> first | (cases h'; done) | (injection h' with hh; subst hh; first | rfl | (simp; done)))
   rw [blkOf_loc (hr id (by rw [hrd]; simp))]
   exact h
  ·rename_i id i hx
   have hrd : E.rd = [id] := by have h' := h; ((repeat' (split at h')) <;> first | (cases h'; done) | (injection h' with hh; subst hh; first | rfl | (simp; done)))
   rw [rowOf_loc (hr id (by rw [hrd]; simp))]
   exact h
  ·cases h
 | s2a T n x => simp only [step] at h ⊢; rw [ev_loc hs (x := x) (by simp [IOp.slots])]; exact h
 | gix g x => simp only [step] at h ⊢; rw [ev_loc hs (x := x) (by simp [IOp.slots])]; exact h
 | s2b T x => simp only [step] at h ⊢; rw [ev_loc hs (x := x) (by simp [IOp.slots])]; exact h
 | ib o k x y => simp only [step] at h ⊢; rw [ev_loc hs (x := x) (by simp [IOp.slots]; grind), ev_loc hs (x := y) (by simp [IOp.slots]; grind)]; exact h
 | sh o k x y => simp only [step] at h ⊢; rw [ev_loc hs (x := x) (by simp [IOp.slots]; grind), ev_loc hs (x := y) (by simp [IOp.slots]; grind)]; exact h
 | sb o x y => simp only [step] at h ⊢; rw [ev_loc hs (x := x) (by simp [IOp.slots]; grind), ev_loc hs (x := y) (by simp [IOp.slots]; grind)]; exact h
 | bb n x y => simp only [step] at h ⊢; rw [ev_loc hs (x := x) (by simp [IOp.slots]; grind), ev_loc hs (x := y) (by simp [IOp.slots]; grind)]; exact h
 | steq k n x y => simp only [step] at h ⊢; rw [ev_loc hs (x := x) (by simp [IOp.slots]; grind), ev_loc hs (x := y) (by simp [IOp.slots]; grind)]; exact h
 | sidx x y => simp only [step] at h ⊢; rw [ev_loc hs (x := x) (by simp [IOp.slots]; grind), ev_loc hs (x := y) (by simp [IOp.slots]; grind)]; exact h
 | mks rk b x y => simp only [step] at h ⊢; rw [ev_loc hs (x := x) (by simp [IOp.slots]; grind), ev_loc hs (x := y) (by simp [IOp.slots]; grind)]; exact h
 | mx x y => simp only [step] at h ⊢; rw [ev_loc hs (x := x) (by simp [IOp.slots]; grind), ev_loc hs (x := y) (by simp [IOp.slots]; grind)]; exact h
 | mn x y => simp only [step] at h ⊢; rw [ev_loc hs (x := x) (by simp [IOp.slots]; grind), ev_loc hs (x := y) (by simp [IOp.slots]; grind)]; exact h
def Eff.kOK (E : Eff) : Prop :=
 match E.out with
 | .one _ u => ∀ i c, (i, c) ∈ u → i ∈ E.wr
 | .many _ _ _ u => ∀ x i c, (i, c) ∈ u x → i ∈ E.wr
theorem kOK_one {ob : List Prop} {rd wr : List Nat} {v : SV} {u : List (Nat × Option Ck)} (h : ∀ i c, (i, c) ∈ u → i ∈ wr) : Eff.kOK ⟨ob, rd, wr, .one v u⟩ := h
theorem below_mem : ∀ (n fresh i : Nat), fresh ≤ i → i < fresh + n → i ∈ below fresh n
 | 0, fresh, i, h1, h2 => by omega
 | n + 1, fresh, i, h1, h2 => by
  unfold below
  by_cases e : i = fresh
  ·subst e; exact List.mem_cons_self ..
  ·exact List.mem_cons_of_mem _ (below_mem n (fresh + 1) i (by omega) (by omega))
theorem sameU_key : ∀ (ids : List Nat) (cks : List Ck) (i : Nat) (c : Option Ck), (i, c) ∈ sameU ids cks → i ∈ ids
 | [], cks, i, c, h => by cases cks <;> simp [sameU] at h
 | j :: ids, [], i, c, h => by simp [sameU] at h
 | j :: ids, d :: cks, i, c, h => by
  simp only [sameU, List.mem_cons, Prod.mk.injEq] at h
  rcases h with h | h
  ·rw [h.1]; exact List.mem_cons_self ..
  ·exact List.mem_cons_of_mem _ (sameU_key ids cks i c h)
theorem back_key {ids : List Nat} {fresh i j : Nat} (h : back ids fresh i = some j) : j ∈ ids ++ below fresh 8 := by
 unfold back nth at h
 split at h
 ·rename_i k hk
  injection h with h; subst h
  exact List.mem_append_left _ (List.mem_of_getElem? hk)
 ·rename_i hk
  split at h
  ·rename_i hb
   injection h with h; subst h
   have h1 := List.getElem?_eq_none_iff.1 hk
   have h2 := Nat.le_of_ble_eq_true hb
   exact List.mem_append_right _ (below_mem _ _ _ (by omega) (by omega))
  ·cases h
theorem postUpd_key {ids : List Nat} {fresh : Nat} : ∀ (post : List PostC) (k : Nat) (u : List (Nat × Option Ck)), postUpd ids fresh k post = some u → ∀ i c, (i, c) ∈ u → i ∈ ids ++ below fresh 8
 | [], k, u, h, i, c, hm => by simp only [postUpd] at h; injection h with h; subst h; simp at hm
 | .same :: l, k, u, h, i, c, hm => by simp only [postUpd] at h; exact postUpd_key l _ u h i c hm
 | .gone :: l, k, u, h, i, c, hm => by
  simp only [postUpd] at h
  split at h
  ·rename_i j u' h1 h2
   injection h with h; subst h
   rcases List.mem_cons.1 hm with e | hm
   ·injection e with e1 e2; subst e1; exact back_key h1
   ·exact postUpd_key l _ u' h2 i c hm
  ·cases h
 | .to d :: l, k, u, h, i, c, hm => by
  simp only [postUpd] at h
  split at h
  ·rename_i j d' u' h1 h2 h3
   injection h with h; subst h
   rcases List.mem_cons.1 hm with e | hm
   ·injection e with e1 e2; subst e1; exact back_key h1
   ·exact postUpd_key l _ u' h3 i c hm
  ·cases h
theorem upds_key {ids : List Nat} {cks : List Ck} {fresh : Nat} {post : List PostC} {i : Nat} {c : Option Ck} (h : (i, c) ∈ upds ids cks fresh post) : i ∈ ids ++ below fresh 8 := by
 unfold upds at h
 rcases List.mem_append.1 h with h | h
 ·exact List.mem_append_left _ (sameU_key _ _ _ _ h)
 ·cases hp : postUpd ids fresh 0 post with
  | none => rw [hp] at h; simp at h
  | some u => rw [hp] at h; exact postUpd_key post 0 u hp i c h
theorem dropU_mem {keep : List Nat} : ∀ (u : List (Nat × Option Ck)) (i : Nat) (c : Option Ck), (i, c) ∈ dropU keep u → (i, c) ∈ u ∧ i ∉ keep
 | [], i, c, h => by simp [dropU] at h
 | (j, d) :: l, i, c, h => by
  simp only [dropU] at h
  cases hj : nmem j keep with
  | true =>
   rw [hj] at h
   obtain ⟨h1, h2⟩ := dropU_mem l i c h
   exact ⟨List.mem_cons_of_mem _ h1, h2⟩
  | false =>
   rw [hj] at h
   rcases List.mem_cons.1 h with e | h
   ·injection e with e1 e2
    subst e1; subst e2
    exact ⟨List.mem_cons_self .., fun hk => by rw [(nmem_iff _ _).2 hk] at hj; cases hj⟩
   ·obtain ⟨h1, h2⟩ := dropU_mem l i c h
    exact ⟨List.mem_cons_of_mem _ h1, h2⟩
theorem dropN_mem {keep : List Nat} : ∀ (l : List Nat) (i : Nat), i ∈ l → i ∉ keep → i ∈ dropN keep l
 | [], i, h, _ => by simp at h
 | j :: l, i, h, hk => by
  simp only [dropN]
  cases hj : nmem j keep with
  | true =>
   rcases List.mem_cons.1 h with e | h
   ·subst e; exact absurd ((nmem_iff _ _).1 hj) hk
   ·exact dropN_mem l i h hk
  | false =>
   rcases List.mem_cons.1 h with e | h
   ·subst e; exact List.mem_cons_self ..
   ·exact List.mem_cons_of_mem _ (dropN_mem l i h hk)
theorem dropU_key {keep ids : List Nat} {cks : List Ck} {fresh : Nat} {post : List PostC} {i : Nat} {c : Option Ck} (h : (i, c) ∈ dropU keep (upds ids cks fresh post)) : i ∈ dropN keep ids ++ below fresh 8 := by
 obtain ⟨h1, h2⟩ := dropU_mem _ _ _ h
 rcases List.mem_append.1 (upds_key h1) with h | h
 ·exact List.mem_append_left _ (dropN_mem _ _ h h2)
 ·exact List.mem_append_right _ h
theorem callS_wr {Γ : FuncId → Option Con} {f : FuncId} {vs : List SV} {fresh : Nat} {E : Eff} (h : callS Γ f vs s fresh = some E) : E.kOK := by
 unfold callS callT effOf at h
 repeat' (split at h)
 all_goals first
  | (cases h; done)
  | (injection h with h; subst h; intro i c hm; exact dropU_key hm)
  | (injection h with h; subst h; intro x i c hm; exact dropU_key hm)
theorem step_wr {Γ : FuncId → Option Con} {op : IOp} {f : Nat} {E : Eff} (h : step Γ op s f = some E) : E.kOK := by
 cases op with
 | call f args =>
  simp only [step] at h
  split at h
  ·exact callS_wr h
  ·cases h
 | callv g args =>
  simp only [step] at h
  split at h
  ·exact callS_wr h
  ·cases h
 | bsl rk n zs ps =>
  simp only [step] at h
  repeat' (split at h)
  all_goals first
   | (cases h; done)
   | (injection h with h; subst h; exact kOK_one fun i c hm => (gone_key _ _ _ _ hm).elim (fun h => List.mem_append_left _ h) (fun h => by simp at h; simp [h.1]))
 | sls x lo hi sz =>
  simp only [step] at h
  have key : ∀ v len, slS s v len lo hi = some E → E.kOK := fun v len h => by
   obtain ⟨h1, h2, u, h3⟩ := slS_rd h
   unfold Eff.kOK
   rw [h3]
   intro i c hm
   simp at hm
  repeat' (split at h)
  all_goals first
   | (cases h; done)
   | exact key _ _ h
   | (injection h with h; subst h; simp [Eff.kOK, Eff.pure, Eff.pureOb]; done)
 | _ =>
  simp only [step] at h
  (repeat' (split at h)) <;> first
   | (cases h; done)
   | (injection h with h; subst h; simp [Eff.kOK, Eff.pure, Eff.pureOb]; done)
   | (injection h with h; subst h; simp only [Eff.kOK, List.mem_cons, Prod.mk.injEq, List.not_mem_nil, or_false]; rintro i c (⟨h, _⟩ | ⟨h, _⟩) <;> simp [h])
end
end Go.Proofs.YtbkcmpggacbikaaDoor
end
section
/-
  A walk that reckons: regions whose order is left open.
-/
set_option linter.unusedVariables false
set_option linter.unusedSimpArgs false
namespace Go.Proofs.YtbkcmpggacbikaaDoor
open Go.RowKit
structure EffG : Type 1 where
 ob : List Prop
 rd : List Nat
 wr : List Nat
 X : Type
 P : X → Prop
 v : X → Option SV
 u : X → List (Nat × Option Ck)
def Eff.toG (E : Eff) : EffG :=
 match E.out with
 | .one v u => ⟨E.ob, E.rd, E.wr, Unit, fun _ => True, fun _ => some v, fun _ => u⟩
 | .many X P v u => ⟨E.ob, E.rd, E.wr, X, P, fun x => some (v x), u⟩
def mode (io : Io) (s : St) : Option Bool :=
 match io.g with
 | none => some true
 | some (g, w) => match fget s.fr g with
  | some (.v (.bool b)) => some (b == w)
  | some (.tup []) => some false
  | _ => none
def skipG : EffG := ⟨[], [], [], Unit, fun _ => True, fun _ => some (.tup []), fun _ => []⟩
noncomputable def stepG (Γ : FuncId → Option Con) (io : Io) (f : Nat) (s : St) : Option EffG :=
 match mode io s with
 | some true => (step Γ io.op s f).map Eff.toG
 | some false => some skipG
 | none => none
theorem toG_rd (E : Eff) : E.toG.rd = E.rd ∧ E.toG.wr = E.wr ∧ E.toG.ob = E.ob := by
 unfold Eff.toG; split <;> exact ⟨rfl, rfl, rfl⟩
theorem mode_loc {io : Io} {s t : St} (hs : ∀ i ∈ io.looks, fget s.fr i = fget t.fr i) : mode io t = mode io s := by
 unfold mode
 cases hg : io.g with
 | none => rfl
 | some p => obtain ⟨g, w⟩ := p; simp only []; rw [hs g (by simp [Io.looks, hg])]
theorem stepG_loc {Γ : FuncId → Option Con} {io : Io} {f : Nat} {s t : St} {E : EffG} (h : stepG Γ io f s = some E) (hs : ∀ i ∈ io.looks, fget s.fr i = fget t.fr i) (hr : ∀ id ∈ E.rd, hget s.hp id = hget t.hp id) : stepG Γ io f t = some E := by
 unfold stepG at h ⊢
 rw [mode_loc hs]
 split at h
 ·cases hst : step Γ io.op s f with
  | none => rw [hst] at h; cases h
  | some E0 =>
   rw [hst] at h
   simp only [Option.map_some] at h
   injection h with h; subst h
   rw [step_loc hst (fun i hi => hs i (by simp [Io.looks, hi])) fun id hid => hr id (by rw [(toG_rd E0).1]; exact hid)]
   rfl
 ·exact h
 ·cases h
theorem stepG_wr {Γ : FuncId → Option Con} {io : Io} {f : Nat} {s : St} {E : EffG} (h : stepG Γ io f s = some E) : ∀ x i c, (i, c) ∈ E.u x → i ∈ E.wr := by
 unfold stepG at h
 split at h
 ·cases hst : step Γ io.op s f with
  | none => rw [hst] at h; cases h
  | some E0 =>
   rw [hst] at h
   simp only [Option.map_some] at h
   injection h with h; subst h
   have := step_wr hst
   unfold Eff.kOK at this
   unfold Eff.toG
   split
   ·rename_i v u ho; rw [ho] at this; exact fun _ => this
   ·rename_i X P v u ho; rw [ho] at this; exact this
 ·injection h with h; subst h
  intro x i c hm
  simp [skipG] at hm
 ·cases h
def Alike (s t : St) : Prop := s.fr = t.fr ∧ s.nx = t.nx ∧ ∀ id, hget s.hp id = hget t.hp id
theorem Alike.refl (s : St) : Alike s s := ⟨rfl, rfl, fun _ => rfl⟩
theorem Alike.symm {s t : St} (h : Alike s t) : Alike t s := ⟨h.1.symm, h.2.1.symm, fun i => (h.2.2 i).symm⟩
theorem Alike.trans {s t u : St} (h : Alike s t) (k : Alike t u) : Alike s u := ⟨h.1.trans k.1, h.2.1.trans k.2.1, fun i => (h.2.2 i).trans (k.2.2 i)⟩
theorem Alike.put {s t : St} (h : Alike s t) (d : Option Nat) (v : Option SV) (u : List (Nat × Option Ck)) : Alike (s.put d v u) (t.put d v u) := by
 refine ⟨?_, h.2.1, fun i => ?_⟩
 ·cases d <;> simp only [St.put] <;> rw [h.1]
 ·simp only [St.put, hget_hupd, h.2.2 i]
theorem ulook_key : ∀ (u : List (Nat × Option Ck)) (i : Nat) (c : Option Ck), ulook u i = some c → (i, c) ∈ u
 | [], i, c, h => by simp [ulook] at h
 | (j, d) :: u, i, c, h => by
  unfold ulook at h
  split at h
  ·rename_i x hx
   injection h with h; subst h
   exact List.mem_cons_of_mem _ (ulook_key u i _ hx)
  ·split at h
   ·rename_i hb
    injection h with h; subst h
    have := (nbeq _ _).1 hb
    subst this
    exact List.mem_cons_self ..
   ·cases h
theorem put_hp {s : St} {d : Option Nat} {v : Option SV} {u : List (Nat × Option Ck)} {wr : List Nat} (hw : ∀ i c, (i, c) ∈ u → i ∈ wr) {id : Nat} (h : id ∉ wr) : hget (s.put d v u).hp id = hget s.hp id := by
 simp only [St.put, hget_hupd]
 cases hl : ulook u id with
 | none => rfl
 | some c => exact absurd (hw id c (ulook_key _ _ _ hl)) h
theorem put_fr {s : St} {d : Option Nat} {v : Option SV} {u : List (Nat × Option Ck)} {i : Nat} (h : ∀ e, d = some e → e ≠ i) : fget (s.put d v u).fr i = fget s.fr i := by
 cases d with
 | none => rfl
 | some e => exact fget_fput_ne _ _ _ _ (h e rfl)
theorem fput_comm : ∀ (l : List (Option SV)) (i j : Nat) (v u : Option SV), i ≠ j → fput (fput l i v) j u = fput (fput l j u) i v
 | [], i, j, v, u, h => rfl
 | x :: l, 0, 0, v, u, h => absurd rfl h
 | x :: l, 0, j + 1, v, u, h => rfl
 | x :: l, i + 1, 0, v, u, h => rfl
 | x :: l, i + 1, j + 1, v, u, h => by simp only [fput]; rw [fput_comm l i j v u (by omega)]
theorem put_comm {s : St} {d e : Option Nat} {v v' : Option SV} {u u' : List (Nat × Option Ck)} {wr wr' : List Nat} (hd : ∀ x y, d = some x → e = some y → x ≠ y) (hw : ∀ i c, (i, c) ∈ u → i ∈ wr) (hw' : ∀ i c, (i, c) ∈ u' → i ∈ wr') (hdj : ∀ i ∈ wr, i ∉ wr') :
  Alike ((s.put d v u).put e v' u') ((s.put e v' u').put d v u) := by
 refine ⟨?_, rfl, fun id => ?_⟩
 ·cases d <;> cases e <;> simp only [St.put]
  rename_i x y
  exact fput_comm _ _ _ _ _ (hd x y rfl rfl)
 ·simp only [St.put, hget_hupd]
  cases h1 : ulook u id with
  | none => cases h2 : ulook u' id <;> rfl
  | some c =>
   cases h2 : ulook u' id with
   | none => rfl
   | some c' => exact absurd (hw' _ _ (ulook_key _ _ _ h2)) (hdj _ (hw _ _ (ulook_key _ _ _ h1)))
def runL (Γ : FuncId → Option Con) (f0 : Nat) : List (Nat × Io) → List (Nat × List Nat × List Nat) → St → (St → Prop) → Prop
 | [], acc, s, K => K s
 | (j, io) :: l, acc, s, K => ∃ E, stepG Γ io (f0 + 8 * j) s = some E ∧ accOk io.pre E.rd E.wr acc = true ∧ (∃ x, E.P x) ∧ (∀ p ∈ E.ob, p) ∧ ∀ x, E.P x → runL Γ f0 l ((j, E.rd, E.wr) :: acc) (s.put io.dst (E.v x) (E.u x)) K
def enumL : Nat → List Io → List (Nat × Io)
 | _, [] => []
 | j, io :: l => (j, io) :: enumL (j + 1) l
def AccLe (acc acc' : List (Nat × List Nat × List Nat)) : Prop := ∀ pre rd wr, accOk pre rd wr acc = true → accOk pre rd wr acc' = true
theorem accOk_cons {pre rd wr : List Nat} {j : Nat} {rdp wrp : List Nat} {acc : List (Nat × List Nat × List Nat)} : accOk pre rd wr ((j, rdp, wrp) :: acc) = true ↔ (j ∈ pre ∨ (ndisj wrp rd = true ∧ ndisj wrp wr = true ∧ ndisj wr rdp = true)) ∧ accOk pre rd wr acc = true := by
 have e : accOk pre rd wr ((j, rdp, wrp) :: acc) = (match nmem j pre with
  | true => accOk pre rd wr acc
  | false => match ndisj wrp rd with
   | true => match ndisj wrp wr with
    | true => match ndisj wr rdp with
     | true => accOk pre rd wr acc
     | false => false
    | false => false
   | false => false) := rfl
 rw [e]
 cases hm : nmem j pre with
 | true => simp [(nmem_iff pre j).1 hm]
 | false =>
  have : j ∉ pre := fun h => by rw [(nmem_iff pre j).2 h] at hm; cases hm
  simp only [this, false_or]
  cases ndisj wrp rd <;> cases ndisj wrp wr <;> cases ndisj wr rdp <;> simp
theorem AccLe.cons {acc acc' : List (Nat × List Nat × List Nat)} (h : AccLe acc acc') (e : Nat × List Nat × List Nat) : AccLe (e :: acc) (e :: acc') := by
 obtain ⟨j, rdp, wrp⟩ := e
 intro pre rd wr hh
 rw [accOk_cons] at hh ⊢
 exact ⟨hh.1, h _ _ _ hh.2⟩
theorem AccLe.drop (acc : List (Nat × List Nat × List Nat)) (e : Nat × List Nat × List Nat) : AccLe (e :: acc) acc := by
 obtain ⟨j, rdp, wrp⟩ := e
 intro pre rd wr hh
 rw [accOk_cons] at hh
 exact hh.2
theorem AccLe.dum {acc acc' : List (Nat × List Nat × List Nat)} (h : AccLe acc acc') (j : Nat) : AccLe acc ((j, [], []) :: acc') := by
 intro pre rd wr hh
 rw [accOk_cons]
 refine ⟨.inr ⟨rfl, rfl, ?_⟩, h _ _ _ hh⟩
 induction wr with
 | nil => rfl
 | cons i l ih => unfold ndisj; simp only [nmem]; exact ih (by
   have : ∀ (acc : List (Nat × List Nat × List Nat)), accOk pre rd (i :: l) acc = true → accOk pre rd l acc = true := by
    have dj1 : ∀ (w : List Nat), ndisj w (i :: l) = true → ndisj w l = true := by
     intro w
     induction w with
     | nil => intro _; rfl
     | cons a w ih2 =>
      intro h
      unfold ndisj at h ⊢
      simp only [nmem] at h
      cases hb : Nat.beq a i <;> rw [hb] at h <;> simp only [] at h
      ·cases hm : nmem a l <;> rw [hm] at h <;> simp only [] at h ⊢
       ·exact ih2 h
       ·cases h
      ·cases h
    have dj2 : ∀ (r : List Nat), ndisj (i :: l) r = true → ndisj l r = true := by
     intro r h
     unfold ndisj at h
     cases hm : nmem i r <;> rw [hm] at h <;> simp only [] at h
     ·exact h
     ·cases h
    intro acc
    induction acc with
    | nil => intro _; rfl
    | cons e acc ih3 =>
     obtain ⟨q, rdp, wrp⟩ := e
     intro h
     rw [accOk_cons] at h ⊢
     exact ⟨h.1.imp id fun ⟨a, b, c⟩ => ⟨a, dj1 _ b, dj2 _ c⟩, ih3 h.2⟩
   exact this acc hh)
theorem runL_mono {Γ : FuncId → Option Con} {f0 : Nat} : ∀ (l : List (Nat × Io)) (acc acc' : List (Nat × List Nat × List Nat)) (s : St) (K K' : St → Prop), AccLe acc acc' → (∀ s, K s → K' s) → runL Γ f0 l acc s K → runL Γ f0 l acc' s K'
 | [], acc, acc', s, K, K', ha, hK, h => hK _ h
 | (j, io) :: l, acc, acc', s, K, K', ha, hK, h => by
  obtain ⟨E, h1, h2, h3, h4, h5⟩ := h
  exact ⟨E, h1, ha _ _ _ h2, h3, h4, fun x hx => runL_mono l _ _ _ K K' (ha.cons _) hK (h5 x hx)⟩
def Kal (K : St → Prop) (t : St) : Prop := ∃ s, K s ∧ Alike s t
theorem Kal.idem {K : St → Prop} {t : St} (h : Kal (Kal K) t) : Kal K t := by
 obtain ⟨s, ⟨r, h1, h2⟩, h3⟩ := h
 exact ⟨r, h1, h2.trans h3⟩
theorem runL_alike {Γ : FuncId → Option Con} {f0 : Nat} : ∀ (l : List (Nat × Io)) (acc : List (Nat × List Nat × List Nat)) (s t : St) (K : St → Prop), Alike s t → runL Γ f0 l acc s K → runL Γ f0 l acc t (Kal K)
 | [], acc, s, t, K, ha, h => ⟨s, h, ha⟩
 | (j, io) :: l, acc, s, t, K, ha, h => by
  obtain ⟨E, h1, h2, h3, h4, h5⟩ := h
  exact ⟨E, stepG_loc h1 (fun i _ => by rw [ha.1]) (fun i _ => ha.2.2 i), h2, h3, h4, fun x hx => runL_alike l _ _ _ K (ha.put _ _ _) (h5 x hx)⟩
theorem apartIO_spec {a b : Io} (h : apartIO a b = true) : (∀ d, a.dst = some d → d ∉ b.looks) ∧ (∀ d e, a.dst = some d → b.dst = some e → d ≠ e) ∧ (∀ e, b.dst = some e → e ∉ a.looks) := by
 unfold apartIO at h
 rw [Bool.and_eq_true] at h
 obtain ⟨h1, h2⟩ := h
 refine ⟨fun d hd hm => ?_, fun d e hd he hde => ?_, fun e he hm => ?_⟩
 ·rw [hd] at h1
  simp only [Bool.and_eq_true, Bool.not_eq_true'] at h1
  rw [(nmem_iff _ d).2 hm] at h1
  exact absurd h1.1 (by simp)
 ·rw [hd, he] at h1
  simp only [Bool.and_eq_true, Bool.not_eq_true'] at h1
  have := (nbeq_false d e).1 h1.2
  exact this hde
 ·rw [he] at h2
  simp only [Bool.not_eq_true'] at h2
  rw [(nmem_iff _ e).2 hm] at h2
  cases h2
theorem pull {Γ : FuncId → Option Con} {f0 : Nat} {i : Nat} {io : Io} {L2 : List (Nat × Io)} : ∀ (L1 : List (Nat × Io)) (acc : List (Nat × List Nat × List Nat)) (s : St) (K : St → Prop), (∀ p ∈ L1, p.1 ∉ io.pre ∧ apartIO p.2 io = true) → runL Γ f0 (L1 ++ (i, io) :: L2) acc s K →
  ∃ E, stepG Γ io (f0 + 8 * i) s = some E ∧ accOk io.pre E.rd E.wr acc = true ∧ (∃ x, E.P x) ∧ (∀ p ∈ E.ob, p) ∧ ∀ x, E.P x → runL Γ f0 (L1 ++ L2) acc (s.put io.dst (E.v x) (E.u x)) (Kal K)
 | [], acc, s, K, hL, h => by
  obtain ⟨E, h1, h2, h3, h4, h5⟩ := h
  exact ⟨E, h1, h2, h3, h4, fun x hx => runL_mono L2 _ _ _ K (Kal K) (AccLe.drop acc _) (fun s hs => ⟨s, hs, Alike.refl s⟩) (h5 x hx)⟩
 | (j, a) :: L1, acc, s, K, hL, h => by
  obtain ⟨EA, a1, a2, ⟨x0, hx0⟩, a4, a5⟩ := h
  obtain ⟨hpre, hap⟩ := hL (j, a) (List.mem_cons_self ..)
  obtain ⟨p1, p2, p3⟩ := apartIO_spec hap
  have ih := fun x hx => pull L1 _ _ K (fun p hp => hL p (List.mem_cons_of_mem _ hp)) (a5 x hx)
  have awr := stepG_wr a1
  have back : ∀ x E, stepG Γ io (f0 + 8 * i) (s.put a.dst (EA.v x) (EA.u x)) = some E → accOk io.pre E.rd E.wr ((j, EA.rd, EA.wr) :: acc) = true → stepG Γ io (f0 + 8 * i) s = some E := by
   intro x E hE hacc
   rw [accOk_cons] at hacc
   obtain ⟨q1, q2, q3⟩ := hacc.1.resolve_left hpre
   exact stepG_loc hE (fun k hk => put_fr fun e he hek => p1 e he (by rw [hek]; exact hk)) fun id hid => put_hp (awr x) fun hw => ndisj_spec _ _ q1 id hw hid
  obtain ⟨E, e1, e2, e3, e4, e5⟩ := ih x0 hx0
  have hEs := back x0 E e1 e2
  have ewr := stepG_wr hEs
  have hacc := e2
  rw [accOk_cons] at hacc
  obtain ⟨q1, q2, q3⟩ := hacc.1.resolve_left hpre
  refine ⟨E, hEs, hacc.2, e3, e4, fun y hy => ?_⟩
  refine ⟨EA, ?_, a2, ⟨x0, hx0⟩, a4, fun x hx => ?_⟩
  ·exact stepG_loc a1 (fun k hk => (put_fr fun e he hek => p3 e he (by rw [hek]; exact hk)).symm) fun id hid => (put_hp (ewr y) fun hw => ndisj_spec _ _ q3 id hw hid).symm
  ·obtain ⟨E', f1, f2, f3, f4, f5⟩ := ih x hx
   have hE' := back x E' f1 f2
   rw [hEs] at hE'
   injection hE' with hE'
   subst hE'
   refine runL_mono _ _ _ _ _ _ (fun _ _ _ h => h) (fun s => Kal.idem) (runL_alike _ _ _ _ _ ?_ (f5 y hy))
   exact put_comm p2 (awr x) (ewr y) fun k hk => ndisj_spec _ _ q2 k hk
theorem runL_of {Γ : FuncId → Option Con} {f0 : Nat} {K : St → Prop} : ∀ (os : List Io) (j : Nat) (acc acc' : List (Nat × List Nat × List Nat)) (s : St), AccLe acc acc' → vcOpsD Γ os j (f0 + 8 * j) acc s K → runL Γ f0 (enumL j os) acc' s K
 | [], j, acc, acc', s, ha, h => h
 | io :: os, j, acc, acc', s, ha, h => by
  have ex : mode io s = some true → vcExecD Γ io j (f0 + 8 * j) acc s (fun acc s => vcOpsD Γ os (j + 1) (f0 + 8 * j + 8) acc s K) → runL Γ f0 (enumL j (io :: os)) acc' s K := by
   intro hm h
   unfold vcExecD at h
   split at h
   ·rename_i E hst
    split at h
    ·rename_i hacc
     obtain ⟨h1, h2⟩ := runOb_spec h
     unfold Eff.go at h2
     obtain ⟨h3, h4⟩ := runOb_spec h2
     refine ⟨E.toG, by unfold stepG; rw [hm]; simp [hst], ?_, ?_, ?_, ?_⟩
     ·rw [(toG_rd E).1, (toG_rd E).2.1]; exact ha _ _ _ hacc
     ·unfold Eff.toG
      split
      ·exact ⟨(), trivial⟩
      ·rename_i ho
       rw [ho] at h1
       exact h1 _ (by simp [Out.obs])
     ·rw [(toG_rd E).2.2]; exact h3
     ·rw [(toG_rd E).1, (toG_rd E).2.1]
      unfold Eff.toG
      split
      ·rename_i v u ho
       rw [ho] at h4
       intro _ _
       exact runL_of os (j + 1) _ _ _ (ha.cons _) h4
      ·rename_i X P v u ho
       rw [ho] at h4
       intro x hx
       exact runL_of os (j + 1) _ _ _ (ha.cons _) (h4 x hx).out
    ·exact h.elim
   ·exact h.elim
  have sk : mode io s = some false → vcOpsD Γ os (j + 1) (f0 + 8 * j + 8) acc (s.put io.dst (some (.tup [])) []) K → runL Γ f0 (enumL j (io :: os)) acc' s K := by
   intro hm h
   refine ⟨skipG, by unfold stepG; rw [hm], ?_, ⟨(), trivial⟩, by simp [skipG], fun x hx => ?_⟩
   ·have : ∀ (acc : List (Nat × List Nat × List Nat)), accOk io.pre [] [] acc = true := by
     intro acc
     induction acc with
     | nil => rfl
     | cons e acc ih =>
      obtain ⟨q, rdp, wrp⟩ := e
      rw [accOk_cons]
      have : ∀ w : List Nat, ndisj w [] = true := by
       intro w; induction w with
       | nil => rfl
       | cons a w ih => unfold ndisj; simpa [nmem] using ih
      exact ⟨.inr ⟨this _, this _, rfl⟩, ih⟩
    exact this _
   ·exact runL_of os (j + 1) _ _ _ (ha.dum j) h
  simp only [vcOpsD, vcOpD] at h
  split at h
  ·rename_i hg
   exact ex (by simp [mode, hg]) h
  ·rename_i g hg
   split at h
   ·rename_i b hb
    cases b with
    | true => exact ex (by simp [mode, hg, hb]) h
    | false => exact sk (by simp [mode, hg, hb]) h
   ·rename_i hb
    exact sk (by simp [mode, hg, hb]) h
   ·exact h.elim
  ·rename_i g hg
   split at h
   ·rename_i b hb
    cases b with
    | true => exact sk (by simp [mode, hg, hb]) h
    | false => exact ex (by simp [mode, hg, hb]) h
   ·rename_i hb
    exact sk (by simp [mode, hg, hb]) h
   ·exact h.elim
section
variable {P : Program} {C : Ctx} {PL : Nat → Option Pl} {s : St} {Fr : Nat → Prop} {a : Act} {w : World} {o : Oper} {Q : Exit → Act → World → Prop} {Γ : FuncId → Option Con}
theorem own_alike {t : St} (h : Alike s t) : Own PL t.hp = Own PL s.hp := by
 funext b
 unfold Own
 simp only [h.2.2]
theorem Sat.alike {t : St} (H : Sat C PL s Fr a w) (h : Alike s t) : Sat C PL t Fr a w := by
 have e := own_alike (PL := PL) h
 refine { ck := ?_, dj := ?_, own := ?_, os := H.os, tape := H.tape, output := H.output, size := H.size, old := H.old, zlt := H.zlt, fr := H.fr, arg := H.arg, len := ?_, def_ := by rw [e]; exact H.def_, slot := ?_ }
 ·intro id c hc; rw [← h.2.2] at hc; rw [e]; exact H.ck id c hc
 ·intro i j c d p q b h1 h2; rw [← h.2.2] at h1 h2; exact H.dj i j c d p q b h1 h2
 ·intro b; rw [e]; exact H.own b
 ·rw [← h.1]; exact H.len
 ·intro i v hi; rw [← h.1] at hi; rw [e]; exact H.slot i v hi
def GuardR (ops : Array Oper) (o : Oper) (io : Io) : Prop := (o.guard = none ∧ io.g = none) ∨ ∃ j want p g, o.guard = some (j, want) ∧ ops[j]? = some p ∧ p.dst = some g ∧ io.g = some (g, want)
theorem gstep {ops : Array Oper} {i : Nat} {io : Io} (hi : ops[i]? = some o) (hsnd : Snd P C Γ o io.op) (hdst : io.dst = o.dst) (hg : GuardR ops o io) {fresh : Nat} {E : EffG} {K : Act → World → Prop} (h : Sat C PL s Fr a w) (hfr : ∀ i, fresh ≤ i → i < fresh + 8 → Fr i) (hk : C.k ≤ fresh)
  (hE : stepG Γ io fresh s = some E) (hob : ∀ p ∈ E.ob, p) (next : ∀ x PL' a' w', E.P x → Sat C PL' (s.put io.dst (E.v x) (E.u x)) (fun i => Fr i ∧ ¬ (fresh ≤ i ∧ i < fresh + 8)) a' w' → K a' w') : wpOp P ops Q i K a w := by
 have hw : ∀ b, mode io s = some b → Region.wanted o (yielded ops a.tmps) = b := by
  intro b hm
  rcases hg with ⟨h1, h2⟩ | ⟨j, want, p, g, h1, h2, h3, h4⟩
  ·unfold mode at hm
   rw [h2] at hm
   injection hm with hm; subst hm
   simp [Region.wanted, h1]
  ·unfold mode at hm
   rw [h4] at hm
   simp only [] at hm
   split at hm
   ·rename_i c hc
    injection hm with hm; subst hm
    exact wanted_of h1 h2 h3 h hc
   ·rename_i hc
    injection hm with hm; subst hm
    exact wanted_undef h1 h2 h3 h hc
   ·cases hm
 unfold wpOp
 simp only [hi]
 unfold stepG at hE
 split at hE
 ·rename_i hm
  rw [if_pos (hw true hm)]
  cases hst : step Γ io.op s fresh with
  | none => rw [hst] at hE; cases hE
  | some E0 =>
   rw [hst] at hE
   simp only [Option.map_some] at hE
   injection hE with hE; subst hE
   refine .inl (Oper.wp_mono (fun a' w' hp => ?_) (hsnd PL s Fr a w Q fresh E0 h hfr hk hst (by rw [← (toG_rd E0).2.2]; exact hob)))
   revert next
   unfold Eff.post at hp
   unfold Eff.toG
   rw [hdst]
   split at hp
   ·rename_i v u hout
    rw [hout]
    obtain ⟨PL', hs⟩ := hp
    intro next
    exact next () PL' a' w' trivial hs
   ·rename_i X Pr v u hout
    rw [hout]
    obtain ⟨x, hx, PL', hs⟩ := hp
    intro next
    exact next x PL' a' w' hx hs
 ·rename_i hm
  rw [if_neg (by rw [hw false hm]; simp)]
  injection hE with hE; subst hE
  refine next () PL _ _ trivial ?_
  have := h.pure o.dst (some (.tup [])) undef (fun v hv => undef_den hv)
  rw [hdst]
  exact this.fr_mono (fun i hi => hi.1)
 ·cases hE
structure DrawS (P : Program) (ops : Array Oper) (ios : List Io) : Prop where
 len : ios.length = ops.size
 c : ∀ (i : Nat) o io, ops[i]? = some o → ios[i]? = some io → cOp P o = some io.op ∧ io.dst = o.dst ∧ GuardR ops o io
 edge : ∀ (i : Nat) o io, ops[i]? = some o → ios[i]? = some io → ∀ e ∈ o.after, Region.binds .any e = true → e.on ∈ io.pre
 lt : ∀ (i : Nat) io, ios[i]? = some io → ∀ p ∈ io.pre, p < i
 clo : ∀ (i : Nat) o io, ops[i]? = some o → ios[i]? = some io → ∀ p ∈ io.pre, ∃ e ∈ o.after, Region.binds .any e = true ∧ (e.on = p ∨ ∃ io', ios[e.on]? = some io' ∧ p ∈ io'.pre)
 ap : ∀ (i j : Nat) a io, j < i → ios[j]? = some a → ios[i]? = some io → j ∈ io.pre ∨ apartIO a io = true
def FrL (f0 : Nat) (listed : Array Bool) (id : Nat) : Prop := f0 ≤ id ∧ ∀ j, listed.getD j false = true → ¬ (f0 + 8 * j ≤ id ∧ id < f0 + 8 * j + 8)
theorem getD_lt {listed : Array Bool} {j : Nat} (h : j < listed.size) (d : Bool) : listed.getD j d = listed[j] := by simp [Array.getD, h]
theorem any_sound (T : Tab P Γ) {ops : Array Oper} {ios : List Io} (D : DrawS P ops ios) {f0 nx : Nat} (hk : C.k ≤ f0) : ∀ (fuel : Nat) (listed : Array Bool) (L : List (Nat × Io)) (s : St) (PL : Nat → Option Pl) (a : Act) (w : World) (K : St → Prop),
  listed.size = ops.size → (∀ j io, (j, io) ∈ L ↔ ios[j]? = some io ∧ listed.getD j true = false) → L.Pairwise (fun x y => x.1 < y.1) → L.length = fuel →
  (∀ (d : Nat) io, ios[d]? = some io → listed.getD d false = true → ∀ p ∈ io.pre, listed.getD p false = true) → Sat C PL s (FrL f0 listed) a w → runL Γ f0 L [] s K → s.nx = nx →
  (∀ s PL a w, K s → s.nx = nx → Sat C PL s (fun i => f0 + 8 * ops.size ≤ i) a w → Q .normal a w) → wpAny P .any ops Q fuel listed a w
 | 0, listed, L, s, PL, a, w, K, hsz, hL, hp, hn, hd, hS, hr, hnx, hQ => by
  have : L = [] := List.length_eq_zero_iff.1 hn
  subst this
  refine ⟨?_, ?_⟩
  ·rw [List.eq_nil_iff_forall_not_mem]
   intro j hj
   rw [mem_ready] at hj
   obtain ⟨h0, o, ho, _⟩ := hj
   have hjl : j < ios.length := by rw [D.len]; exact (Array.getElem?_eq_some_iff.1 ho).1
   have := (hL j ios[j]).2 ⟨List.getElem?_eq_getElem hjl, h0⟩
   simp at this
  ·refine hQ s PL a w hr hnx (hS.fr_mono fun id hid => ⟨by omega, fun j hj => ?_⟩)
   have : j < listed.size := by
    rcases Nat.lt_or_ge j listed.size with h | h
    ·exact h
    ·simp [Array.getD, Nat.not_lt.2 h] at hj
   omega
 | fuel + 1, listed, L, s, PL, a, w, K, hsz, hL, hp, hn, hd, hS, hr, hnx, hQ => by
  have listedOf : ∀ j, j < ops.size → (∀ io, (j, io) ∉ L) → listed.getD j false = true := by
   intro j hj hno
   have hjl : j < ios.length := by rw [D.len]; exact hj
   have h1 : ¬ listed.getD j true = false := fun h => hno ios[j] ((hL j ios[j]).2 ⟨List.getElem?_eq_getElem hjl, h⟩)
   rw [getD_lt (by omega)] at h1 ⊢
   simpa using h1
  refine ⟨?_, ?_⟩
  ·intro hnil
   exfalso
   cases L with
   | nil => simp at hn
   | cons q L =>
    obtain ⟨j, io⟩ := q
    obtain ⟨h1, h2⟩ := (hL j io).1 (List.mem_cons_self ..)
    have hjl : j < ops.size := by rw [← D.len]; exact (List.getElem?_eq_some_iff.1 h1).1
    have hmem : j ∈ Region.ready .any ops listed := by
     rw [mem_ready]
     refine ⟨h2, ops[j], Array.getElem?_eq_getElem hjl, fun e he hb => ?_⟩
     have hpre := D.edge j _ io (Array.getElem?_eq_getElem hjl) h1 e he hb
     have hlt := D.lt j io h1 _ hpre
     refine listedOf _ (by omega) fun io' hm => ?_
     rcases List.mem_cons.1 hm with e1 | hm
     ·injection e1 with e1 _; omega
     ·have := (List.pairwise_cons.1 hp).1 _ hm
      simp only [] at this
      omega
    rw [hnil] at hmem
    simp at hmem
  ·intro i hi
   rw [mem_ready] at hi
   obtain ⟨h0, o, ho, hedge⟩ := hi
   have his : i < ops.size := (Array.getElem?_eq_some_iff.1 ho).1
   have hil : i < ios.length := by rw [D.len]; exact his
   have hio : ios[i]? = some ios[i] := List.getElem?_eq_getElem hil
   generalize ios[i] = io at hio
   have hpl : ∀ p ∈ io.pre, listed.getD p false = true := by
    intro p hp
    obtain ⟨e, he, hb, hor⟩ := D.clo i o io ho hio p hp
    have hl := hedge e he hb
    rcases hor with rfl | ⟨io', h1, h2⟩
    ·exact hl
    ·exact hd _ io' h1 hl p h2
   obtain ⟨L1, L2, rfl⟩ := List.append_of_mem ((hL i io).2 ⟨hio, h0⟩)
   have hp' := List.pairwise_append.1 hp
   have h1lt : ∀ q ∈ L1, q.1 < i := fun q hq => hp'.2.2 q hq (i, io) (List.mem_cons_self ..)
   have h2gt : ∀ q ∈ L2, i < q.1 := fun q hq => (List.pairwise_cons.1 hp'.2.1).1 q hq
   have hunl : ∀ q ∈ L1, q.1 ∉ io.pre ∧ apartIO q.2 io = true := by
    rintro ⟨j, b⟩ hq
    obtain ⟨g1, g2⟩ := (hL j b).1 (List.mem_append_left _ hq)
    have hnp : j ∉ io.pre := fun hx => by
     have hx := hpl j hx
     have hjs : j < listed.size := by rw [hsz, ← D.len]; exact (List.getElem?_eq_some_iff.1 g1).1
     rw [getD_lt hjs] at hx g2
     rw [hx] at g2
     cases g2
    exact ⟨hnp, (D.ap i j b io (h1lt _ hq) g1 hio).resolve_left hnp⟩
   obtain ⟨E, e1, e2, e3, e4, e5⟩ := pull L1 [] s K hunl hr
   obtain ⟨c1, c2, c3⟩ := D.c i o io ho hio
   refine gstep ho (cOp_snd T c1) c2 c3 hS ?_ (by omega) e1 e4 ?_
   ·intro id g1 g2
    refine ⟨by omega, fun j hj => ?_⟩
    have hne : j ≠ i := fun hx => by
     subst hx
     rw [getD_lt (by omega)] at hj h0
     rw [hj] at h0
     cases h0
    omega
   ·intro x PL' a' w' hx hS'
    have hset : ∀ j, (listed.setIfInBounds i true).getD j false = true ↔ listed.getD j false = true ∨ j = i := by
     intro j
     constructor
     ·intro h
      by_cases hj : i = j
      ·exact .inr hj.symm
      ·rw [getD_set_ne false hj] at h; exact .inl h
     ·rintro (h | rfl)
      ·exact getD_set_true h
      ·have : j < listed.size := by omega
       simp [this]
    refine any_sound T D hk fuel _ (L1 ++ L2) _ PL' a' w' (Kal K) (by simpa using hsz) ?_ ?_ ?_ ?_ ?_ (e5 x hx) hnx ?_
    ·intro j b
     by_cases hj : i = j
     ·subst hj
      constructor
      ·intro hm
       exfalso
       rcases List.mem_append.1 hm with hm | hm
       ·exact Nat.lt_irrefl _ (h1lt _ hm)
       ·exact Nat.lt_irrefl _ (h2gt _ hm)
      ·rintro ⟨_, h⟩
       have : i < listed.size := by omega
       simp [this] at h
     ·rw [getD_set_ne true hj, ← hL j b]
      simp only [List.mem_append, List.mem_cons, Prod.mk.injEq]
      constructor
      ·rintro (h | h)
       ·exact .inl h
       ·exact .inr (.inr h)
      ·rintro (h | ⟨h, _⟩ | h)
       ·exact .inl h
       ·exact absurd h.symm hj
       ·exact .inr h
    ·exact hp.sublist (List.Sublist.append (List.Sublist.refl _) (List.sublist_cons_self _ _))
    ·simp only [List.length_append, List.length_cons] at hn ⊢; omega
    ·intro d io' g1 g2 p hp
     rw [hset]
     rcases (hset d).1 g2 with g2 | rfl
     ·exact .inl (hd d io' g1 g2 p hp)
     ·rw [hio] at g1
      injection g1 with g1; subst g1
      exact .inl (hpl p hp)
    ·refine hS'.fr_mono fun id hid => ⟨⟨hid.1, fun j hj => hid.2 j ((hset j).2 (.inl hj))⟩, hid.2 i ((hset i).2 (.inr rfl))⟩
    ·rintro s1 PL1 a1 w1 ⟨s0, k1, k2⟩ hn1 hS1
     exact hQ s0 PL1 a1 w1 k1 (k2.2.1.trans hn1) (hS1.alike k2.symm)
theorem cOps_get {all : Array Oper} : ∀ (os : List (Oper × List Nat)) (ios : List Io), cOps P all true os = some ios → ∀ (i : Nat) o io, (os.map (·.1))[i]? = some o → ios[i]? = some io → cOp P o = some io.op ∧ io.dst = o.dst ∧ GuardR all o io
 | [], ios, h, i, o, io, ho, hi => by simp at ho
 | (o0, pre) :: os, ios, h, i, o, io, ho, hi => by
  obtain ⟨x, g, ios', rfl, hx, hl, hg⟩ := cOps_cons h
  cases i with
  | zero =>
   simp at ho hi
   subst ho; subst hi
   exact ⟨hx, rfl, hg⟩
  | succ i => exact cOps_get os ios' hl i o io (by simpa using ho) (by simpa using hi)
theorem drawChk_get : ∀ (os : List Oper) (ios all : List Io) (j : Nat), drawChk all os ios j = true → os.length = ios.length ∧ ∀ (i : Nat) o io, os[i]? = some o → ios[i]? = some io → preOk (all.map (·.pre)) (edgesOf o) io.pre (j + i) = true ∧ apartFrom io (all.take (j + i)) 0 = true
 | [], ios, all, j, h => by
  cases ios with
  | nil => exact ⟨rfl, fun i o io ho _ => by simp at ho⟩
  | cons _ _ => simp [drawChk] at h
 | o0 :: os, ios, all, j, h => by
  cases ios with
  | nil => simp [drawChk] at h
  | cons io0 ios =>
   simp only [drawChk, Bool.and_eq_true] at h
   obtain ⟨⟨h1, h2⟩, h3⟩ := h
   obtain ⟨h4, h5⟩ := drawChk_get os ios all (j + 1) h3
   refine ⟨by simp [h4], fun i o io ho hi => ?_⟩
   cases i with
   | zero =>
    simp at ho hi
    subst ho; subst hi
    exact ⟨h1, h2⟩
   | succ i =>
    have := h5 i o io (by simpa using ho) (by simpa using hi)
    have e : j + 1 + i = j + (i + 1) := by omega
    rwa [e] at this
theorem apartFrom_get {io : Io} : ∀ (l : List Io) (k : Nat), apartFrom io l k = true → ∀ (i : Nat) a, l[i]? = some a → (k + i) ∈ io.pre ∨ apartIO a io = true
 | [], k, h, i, a, hi => by simp at hi
 | b :: l, k, h, i, a, hi => by
  simp only [apartFrom, Bool.and_eq_true, Bool.or_eq_true] at h
  obtain ⟨h1, h2⟩ := h
  cases i with
  | zero =>
   simp at hi
   subst hi
   exact h1.imp (fun h => (nmem_iff _ _).1 h) id
  | succ i =>
   have := apartFrom_get l (k + 1) h2 i a (by simpa using hi)
   have e : k + 1 + i = k + (i + 1) := by omega
   rwa [e] at this
theorem edges_mem {o : Oper} {p : Nat} : p ∈ edgesOf o ↔ ∃ e ∈ o.after, Region.binds .any e = true ∧ e.on = p := by
 unfold edgesOf
 rw [List.mem_filterMap]
 constructor
 ·rintro ⟨e, he, h⟩
  split at h
  ·rename_i hb
   injection h with h
   exact ⟨e, by simpa using he, hb, h⟩
  ·cases h
 ·rintro ⟨e, he, hb, h⟩
  exact ⟨e, by simpa using he, by rw [if_pos hb, h]⟩
theorem drawS_of {ops : Array Oper} {ios : List Io} (hc : cOps P ops true (ops.toList.zip (ancsL ops.toList [])) = some ios) (hd : drawChk ios ops.toList ios 0 = true) : DrawS P ops ios := by
 have hmap : (ops.toList.zip (ancsL ops.toList [])).map (·.1) = ops.toList := by
  rw [List.map_fst_zip]
  rw [ancsL_len]; simp
 obtain ⟨h1, h2⟩ := drawChk_get ops.toList ios ios 0 hd
 have hlen : ios.length = ops.size := by rw [← h1]; simp
 have hp : ∀ (i : Nat) o io, ops[i]? = some o → ios[i]? = some io → preOk (ios.map (·.pre)) (edgesOf o) io.pre i = true ∧ apartFrom io (ios.take i) 0 = true := by
  intro i o io ho hi
  have := h2 i o io (by simpa using ho) hi
  simpa using this
 have hop : ∀ (i : Nat) io, ios[i]? = some io → ∃ o, ops[i]? = some o := fun i io hi => by
  have := (List.getElem?_eq_some_iff.1 hi).1
  exact ⟨ops[i]'(by omega), Array.getElem?_eq_getElem (by omega)⟩
 refine ⟨hlen, ?_, ?_, ?_, ?_, ?_⟩
 ·intro i o io ho hi
  exact cOps_get _ ios hc i o io (by rw [hmap]; simpa using ho) hi
 ·intro i o io ho hi e he hb
  have := (hp i o io ho hi).1
  simp only [preOk, Bool.and_eq_true, List.all_eq_true] at this
  exact (nmem_iff _ _).1 (this.1 e.on (edges_mem.2 ⟨e, he, hb, rfl⟩))
 ·intro i io hi p hpp
  obtain ⟨o, ho⟩ := hop i io hi
  have := (hp i o io ho hi).1
  simp only [preOk, Bool.and_eq_true, List.all_eq_true] at this
  have := (this.2 p hpp).1
  have := Nat.le_of_ble_eq_true this
  omega
 ·intro i o io ho hi p hpp
  have := (hp i o io ho hi).1
  simp only [preOk, Bool.and_eq_true, List.all_eq_true, Bool.or_eq_true, List.any_eq_true] at this
  rcases (this.2 p hpp).2 with h | ⟨d, hdm, h⟩
  ·obtain ⟨e, he, hb, h⟩ := edges_mem.1 ((nmem_iff _ _).1 h)
   exact ⟨e, he, hb, .inl h⟩
  ·obtain ⟨e, he, hb, rfl⟩ := edges_mem.1 hdm
   refine ⟨e, he, hb, .inr ?_⟩
   have h := (nmem_iff _ _).1 h
   cases hq : ios[e.on]? with
   | none => simp [hq] at h
   | some io' => exact ⟨io', rfl, by simpa [hq] using h⟩
 ·intro i j b io hj hb hi
  obtain ⟨o, ho⟩ := hop i io hi
  have := apartFrom_get _ 0 (hp i o io ho hi).2 j b (by rw [List.getElem?_take_of_lt hj]; exact hb)
  simpa using this
theorem enumL_mem : ∀ (ios : List Io) (k j : Nat) (io : Io), (j, io) ∈ enumL k ios ↔ k ≤ j ∧ ios[j - k]? = some io
 | [], k, j, io => by simp [enumL]
 | b :: l, k, j, io => by
  simp only [enumL, List.mem_cons, Prod.mk.injEq, enumL_mem l (k + 1) j io]
  constructor
  ·rintro (⟨rfl, rfl⟩ | ⟨h1, h2⟩)
   ·simp
   ·have : j - k = (j - (k + 1)) + 1 := by omega
    rw [this, List.getElem?_cons_succ]
    exact ⟨by omega, h2⟩
  ·rintro ⟨h1, h2⟩
   by_cases e : j = k
   ·subst e
    simp at h2
    exact .inl ⟨rfl, h2.symm⟩
   ·have : j - k = (j - (k + 1)) + 1 := by omega
    rw [this, List.getElem?_cons_succ] at h2
    exact .inr ⟨by omega, h2⟩
theorem enumL_pw : ∀ (ios : List Io) (k : Nat), (enumL k ios).Pairwise (fun x y => x.1 < y.1)
 | [], k => by simp [enumL]
 | b :: l, k => by
  simp only [enumL, List.pairwise_cons]
  refine ⟨fun q hq => ?_, enumL_pw l (k + 1)⟩
  obtain ⟨j, io⟩ := q
  have := ((enumL_mem l (k + 1) j io).1 hq).1
  simp only []
  omega
theorem enumL_len : ∀ (ios : List Io) (k : Nat), (enumL k ios).length = ios.length
 | [], k => rfl
 | b :: l, k => by simp [enumL, enumL_len l]
theorem drew_sat (h : Sat C PL s Fr a w) : Sat C PL s Fr a { w with drawn := w.drawn + 1 } := by
 have hD : ∀ {Av v x}, Den PL w Av v x → Den PL { w with drawn := w.drawn + 1 } Av v x := fun h => h.mono (fun _ _ h => h) (Nat.le_refl _) (fun _ _ _ => rfl) (fun _ _ h => h)
 exact { ck := fun id c hc => (h.ck id c hc).mono (fun _ _ h => h) (Nat.le_refl _) (fun _ _ _ => rfl) (fun _ _ h => h) (fun _ _ _ _ => rfl), dj := h.dj, own := h.own, os := h.os, tape := h.tape, output := h.output, size := h.size, old := h.old, zlt := h.zlt, fr := h.fr, arg := h.arg, len := h.len, def_ := h.def_, slot := fun i v hi => hD (h.slot i v hi) }
theorem drawOK (T : Tab P Γ) (hm : P.follows .mixedOrders = true) : DrawOK P C Γ := by
 intro id ops ios s K PL a w Q hc hv h hQ
 simp only [comp] at hc
 split at hc
 ·rename_i ios' hios
  split at hc
  ·rename_i hd
   injection hc with hc; injection hc with _ hc; subst hc
   have D := drawS_of hios hd
   refine wp_region_any hm ?_
   have hS : Sat C PL (⟨s.fr, s.hp, s.nx + 8 * ios'.length⟩ : St) (FrL s.nx (Array.replicate ops.size false)) a { w with drawn := w.drawn + 1 } := by
    have h1 : Sat C PL (⟨s.fr, s.hp, s.nx + 8 * ios'.length⟩ : St) (fun i => s.nx ≤ i) a w := { h.1.toHSat with len := h.1.len, def_ := h.1.def_, slot := h.1.slot }
    exact (drew_sat h1).fr_mono fun i hi => hi.1
   refine any_sound (nx := s.nx + 8 * ios'.length) T D h.2 ops.size _ (enumL 0 ios') _ PL a _ _ (by simp) ?_ (enumL_pw _ _) (by rw [enumL_len, D.len]) ?_ hS (runL_of ios' 0 [] [] _ (fun _ _ _ h => h) hv) rfl ?_
   ·intro j io
    rw [enumL_mem]
    simp only [Nat.zero_le, true_and, Nat.sub_zero]
    constructor
    ·intro hj
     have : j < ops.size := by rw [← D.len]; exact (List.getElem?_eq_some_iff.1 hj).1
     exact ⟨hj, by simp [this]⟩
    ·exact fun h => h.1
   ·intro d io hd hl
    exfalso
    by_cases hx : d < ops.size <;> simp [hx] at hl
   ·intro s' PL' a' w' hK hn hS'
    refine hQ .nxt s' PL' a' w' hK ⟨?_, ?_⟩
    ·rw [hn, D.len]; exact hS'
    ·rw [hn]; have := h.2; omega
  ·cases hc
 ·cases hc
end
end Go.Proofs.YtbkcmpggacbikaaDoor
end
section
/-
  A walk that reckons: tables of functions; the words that a walk is told in.
-/
set_option linter.unusedVariables false
set_option linter.unusedSimpArgs false
namespace Go.Proofs.YtbkcmpggacbikaaDoor
open Go.RowKit
noncomputable def look : List (Nat × Con) → Nat → Option Con
 | [], _ => none
 | (f, c) :: l, g => match Nat.beq g f with | true => some c | false => look l g
theorem Tab.nil (P : Program) : Tab P (look []) := ⟨fun f con h => by simp [look] at h, fun f con h => by simp [look] at h⟩
theorem Tab.cons {P : Program} {l : List (Nat × Con)} {f : Nat} {con : Con} (T : Tab P (look l)) (h : FnOK P f con) {fn : Func} (hf : P.funcs[f]? = some fn) (h1 : (fn.name != "runtime.NumGoroutine") = true) (h2 : fn.body.isSome = true) : Tab P (look ((f, con) :: l)) := by
 have key : ∀ g c, look ((f, con) :: l) g = some c → (g = f ∧ c = con) ∨ look l g = some c := by
  intro g c hg
  unfold look at hg
  cases hb : Nat.beq g f with
  | true => rw [hb] at hg; simp only [] at hg; injection hg with hg; exact .inl ⟨(nbeq g f).1 hb, hg.symm⟩
  | false => rw [hb] at hg; exact .inr hg
 refine ⟨fun g c hg => ?_, fun g c hg => ?_⟩
 ·rcases key g c hg with ⟨rfl, rfl⟩ | hg
  ·exact h
  ·exact T.ok g c hg
 ·rcases key g c hg with ⟨rfl, rfl⟩ | hg
  ·exact ⟨fn, hf, h1, h2⟩
  ·exact T.fn g c hg
theorem FnOK.of {P : Program} {l : List (Nat × Con)} (T : Tab P (look l)) (hm : P.follows .mixedOrders = true) {f : FuncId} {fn : Func} {ic : IC} {rv : List RV} {n : Nat} {con : Con} (hf : P.funcs[f]? = some fn) (hc : compF P fn = some (ic, rv, n))
  (h : FnVC P (look l) ic rv n con) : FnOK P f con := FnOK.of_comp T (fun _ => drawOK T hm) hf hc h
theorem ieq_t {a b : Int} : ieq a b = true ↔ a = b := by simp [ieq]
theorem ieq_f {a b : Int} : ieq a b = false ↔ a ≠ b := by simp [ieq]
theorem ilt_t {a b : Int} : ilt a b = true ↔ a < b := by simp [ilt]
theorem ilt_f {a b : Int} : ilt a b = false ↔ b ≤ a := by simp [ilt]
theorem ile_t {a b : Int} : ile a b = true ↔ a ≤ b := by simp [ile]
theorem ile_f {a b : Int} : ile a b = false ↔ b < a := by simp [ile]
theorem relock.{u} {α : Sort u} {a : α} (h : Nonempty {b // b = a}) : (Classical.choice h).1 = lock a := by rw [choice_lk, lock_eq]
theorem bnot_t {b : Bool} : bnot b = true ↔ b = false := by cases b <;> decide
theorem bnot_f {b : Bool} : bnot b = false ↔ b = true := by cases b <;> decide
theorem obl' {p : Unit → Prop} : Obl p = p () := rfl
theorem wrapU64 (x : Int) : IntKind.u64.wrap x = x % 18446744073709551616 := by
 simp [IntKind.wrap, IntKind.signed, IntKind.bits]
theorem wrapI64 {x : Int} (h1 : -9223372036854775808 ≤ x) (h2 : x ≤ 9223372036854775807) : IntKind.i64.wrap x = x := by
 simp only [IntKind.wrap, IntKind.signed, IntKind.bits]
 simp
 omega
def slotOf : List (Nat × SV) → Nat → Option SV
 | [], _ => none
 | (j, v) :: l, i => match Nat.beq j i with | true => some v | false => slotOf l i
def mkFr (l : List (Nat × SV)) : Nat → Nat → List (Option SV)
 | 0, _ => []
 | n + 1, i => slotOf l i :: mkFr l n (i + 1)
end Go.Proofs.YtbkcmpggacbikaaDoor
end
section
/-
  Loops as plain functions: what a round does, done over and over till it ends.
-/
set_option linter.unusedVariables false
namespace Go.Proofs.YtbkcmpggacbikaaDoor
def stepsN {X T : Type} (B : X → Option (X ⊕ T)) : Nat → X → Option T
 | 0, _ => none
 | n + 1, x => match B x with
  | none => none
  | some (.inl y) => stepsN B n y
  | some (.inr t) => some t
theorem stepsN_mono {X T : Type} {B : X → Option (X ⊕ T)} : ∀ (n m : Nat) (x : X) (t : T), n ≤ m → stepsN B n x = some t → stepsN B m x = some t
 | 0, _, x, t, _, h => by cases h
 | n + 1, 0, x, t, hm, h => by omega
 | n + 1, m + 1, x, t, hm, h => by
  unfold stepsN at h ⊢
  cases hB : B x with
  | none => rw [hB] at h; cases h
  | some b =>
   rw [hB] at h
   cases b with
   | inl y => exact stepsN_mono n m y t (by omega) h
   | inr u => exact h
noncomputable def iter {X T : Type} (B : X → Option (X ⊕ T)) (x : X) : Option T :=
 open Classical in if h : ∃ t, ∃ n, stepsN B n x = some t then some (Classical.choose h) else none
theorem iter_some {X T : Type} {B : X → Option (X ⊕ T)} {x : X} {t : T} : iter B x = some t ↔ ∃ n, stepsN B n x = some t := by
 unfold iter
 constructor
 ·intro h
  split at h
  ·rename_i hx
   injection h with h
   subst h
   exact Classical.choose_spec hx
  ·cases h
 ·rintro ⟨n, hn⟩
  have hx : ∃ t, ∃ n, stepsN B n x = some t := ⟨t, n, hn⟩
  rw [dif_pos hx]
  obtain ⟨m, hm⟩ := Classical.choose_spec hx
  have h1 := stepsN_mono n (max n m) x t (by omega) hn
  have h2 := stepsN_mono m (max n m) x _ (by omega) hm
  rw [h1] at h2
  injection h2 with h2
  rw [← h2]
theorem iter_of {X T : Type} {B : X → Option (X ⊕ T)} (n : Nat) {x : X} {t : T} (h : stepsN B n x = some t) : iter B x = some t := iter_some.2 ⟨n, h⟩
theorem iter_eq {X T : Type} (B : X → Option (X ⊕ T)) (x : X) : iter B x = match B x with
  | none => none
  | some (.inl y) => iter B y
  | some (.inr t) => some t := by
 cases hB : B x with
 | none =>
  cases hi : iter B x with
  | none => rfl
  | some t =>
   obtain ⟨n, hn⟩ := iter_some.1 hi
   cases n with
   | zero => cases hn
   | succ n => simp only [stepsN, hB] at hn; cases hn
 | some b =>
  cases b with
  | inr t => exact iter_of 1 (by simp only [stepsN, hB])
  | inl y =>
   simp only []
   cases hi : iter B y with
   | none =>
    cases hx : iter B x with
    | none => rfl
    | some t =>
     obtain ⟨n, hn⟩ := iter_some.1 hx
     cases n with
     | zero => cases hn
     | succ n =>
      simp only [stepsN, hB] at hn
      rw [iter_of n hn] at hi
      cases hi
   | some t =>
    obtain ⟨n, hn⟩ := iter_some.1 hi
    exact iter_of (n + 1) (by simp only [stepsN, hB]; exact hn)
theorem iter_inl {X T : Type} {B : X → Option (X ⊕ T)} {x y : X} (h : B x = some (.inl y)) : iter B x = iter B y := by rw [iter_eq, h]
theorem iter_inr {X T : Type} {B : X → Option (X ⊕ T)} {x : X} {t : T} (h : B x = some (.inr t)) : iter B x = some t := by rw [iter_eq, h]
theorem iter_ind {X T : Type} {B : X → Option (X ⊕ T)} (I : X → Prop) (μ : X → Nat) (Q : X → Option T → Prop)
  (h : ∀ x, I x → (∀ y, I y → μ y < μ x → Q y (iter B y)) → Q x (iter B x)) : ∀ x, I x → Q x (iter B x) := by
 have key : ∀ n x, μ x < n → I x → Q x (iter B x) := by
  intro n
  induction n with
  | zero => intro x hx; omega
  | succ n ih => intro x hx hI; exact h x hI fun y hy hlt => ih y (by omega) hy
 exact fun x hI => key (μ x + 1) x (by omega) hI
theorem iter_inv {X T : Type} {B : X → Option (X ⊕ T)} (I : X → Prop) (μ : X → Nat) (Q : T → Prop)
  (h : ∀ x, I x → (∃ y, B x = some (.inl y) ∧ I y ∧ μ y < μ x) ∨ ∃ t, B x = some (.inr t) ∧ Q t) : ∀ x, I x → ∃ t, iter B x = some t ∧ Q t := by
 refine iter_ind I μ (fun x o => ∃ t, o = some t ∧ Q t) fun x hI ih => ?_
 rcases h x hI with ⟨y, h1, h2, h3⟩ | ⟨t, h1, h2⟩
 ·rw [iter_inl h1]; exact ih y h2 h3
 ·exact ⟨t, iter_inr h1, h2⟩
theorem guard_inv {α : Type} {p : Prop} [Decidable p] {a : Option α} {r : α} (h : (if p then a else none) = some r) : p ∧ a = some r := by
 by_cases hp : p
 ·rw [if_pos hp] at h; exact ⟨hp, h⟩
 ·rw [if_neg hp] at h; cases h
theorem map_inv {α β : Type} {f : α → β} {o : Option α} {r : β} (h : o.map f = some r) : ∃ t, o = some t ∧ f t = r := by
 cases o with
 | none => cases h
 | some t => exact ⟨t, rfl, Option.some.inj h⟩
end Go.Proofs.YtbkcmpggacbikaaDoor
end
section
/-
  A walk that reckons: ranges over functions.
-/
set_option linter.unusedVariables false
set_option linter.unusedSimpArgs false
namespace Go.Proofs.YtbkcmpggacbikaaDoor
open Go.RowKit
abbrev WF (r : Option Nat) : Fence := { Fence.wide with round := r }
theorem rows_in {r : Option Nat} {n : Nat} {P : Program} {row : String} {args : Array Value} {w : World} {R : Value → World → Prop} (h : Rows P row args w R) : RowsIn (WF r) n P row args w R :=
 fun c cs _ => let ⟨v, w', rr, s⟩ := h c cs; ⟨v, w', rr, stepsIn_wide.2 s⟩
theorem wp_in {r : Option Nat} {n : Nat} {P : Program} {o : Oper} {a : Act} {w : World} {K : Act → World → Prop} {Q : Exit → Act → World → Prop} (hd : ∀ c, o.op ≠ .defer c) (h : o.wp P a w K Q) : o.wpIn (WF r) n P a w K Q := by
 refine ⟨fun _ _ => trivial, ?_⟩
 rw [Oper.semAt_plain (WF r) _ _ hd]
 unfold Oper.wp at h
 revert h
 generalize (execOp a.eval o).run P w = res
 intro h
 cases res with
 | ok nx w' =>
  cases nx with
  | value v => exact h
  | skip => exact h
  | defer d => exact h
  | enter f args => exact ⟨(fun hx => by cases hx), callsIn_wide.2 h⟩
  | row row args => exact ⟨(fun hx => by cases hx), rows_in h⟩
  | _ => exact h.elim
 | halt x w' =>
  cases x with
  | panic v => exact h
  | _ => exact h.elim
theorem cOp_nodefer {P : Program} {o : Oper} {x : IOp} (h : cOp P o = some x) : ∀ c, o.op ≠ .defer c := by
 intro c e
 unfold cOp at h
 rw [e] at h
 cases h
structure Mod (CM : Nat → Ctx) : Prop where
 eq : ∀ n m, left n = left m → CM n = CM m
 k : ∀ n m, (CM n).k = (CM m).k
theorem Mod.one (C : Ctx) : Mod (fun _ => C) := ⟨fun _ _ _ => rfl, fun _ _ => rfl⟩
def SatM (CM : Nat → Ctx) (PL : Nat → Option Pl) (s : St) (a : Act) (w : World) : Prop := SatN (CM s.nx) PL s a w
def KQM (CM : Nat → Ctx) (K : Ex → St → Prop) (Q : Exit → Act → World → Prop) : Prop := ∀ e s' PL' a' w', K e s' → SatM CM PL' s' a' w' → Q (exOf e) a' w'
section
variable {P : Program} {CM : Nat → Ctx} {PL : Nat → Option Pl} {s : St} {Fr : Nat → Prop} {a : Act} {w : World} {o : Oper} {Q : Exit → Act → World → Prop} {Γ : FuncId → Option Con} {r : Option Nat} {ex : Io → Nat → St → (St → Prop) → Prop}
def ExOK (P : Program) (CM : Nat → Ctx) (r : Option Nat) (ex : Io → Nat → St → (St → Prop) → Prop) : Prop :=
 ∀ (o : Oper) (io : Io) (PL : Nat → Option Pl) (s : St) (Fr : Nat → Prop) (a : Act) (w : World) (fresh : Nat) (K : St → Prop) (Q : Exit → Act → World → Prop), cOp P o = some io.op → io.dst = o.dst → Sat (CM s.nx) PL s Fr a w → (∀ i, fresh ≤ i → i < fresh + 8 → Fr i) → (CM s.nx).k ≤ fresh →
  (∀ i, s.nx ≤ i → Fr i) → fresh + 8 ≤ s.nx → ex io fresh s K →
  o.wpIn (WF r) 0 P a w (fun a' w' => ∃ PL' s', K s' ∧ s.nx ≤ s'.nx ∧ s'.fr.length = s.fr.length ∧ Sat (CM s'.nx) PL' s' (fun i => (Fr i ∧ i < s.nx ∧ ¬ (fresh ≤ i ∧ i < fresh + 8)) ∨ s'.nx ≤ i) a' w') Q
theorem exec_ok (T : Tab P Γ) : ExOK P CM r (vcExec Γ) := by
 intro o io PL s Fr a w fresh K Q hx hdst h hfr hk hnx hle hv
 refine wp_in (cOp_nodefer hx) (Oper.wp_mono (fun a' w' hp => ?_) (exec_sound (Q := Q) (cOp_snd T hx) hdst h hfr hk hv))
 obtain ⟨PL', s', h1, h2, h3, h4⟩ := hp
 refine ⟨PL', s', h1, by omega, h3, ?_⟩
 rw [h2]
 refine h4.fr_mono fun i hi => ?_
 rcases hi with hi | hi
 ·exact ⟨hi.1, hi.2.2⟩
 ·exact ⟨hnx i (by omega), by omega⟩
theorem vxOp_sound (hex : ExOK P CM r ex) {ops : Array Oper} {rest : List Oper} {io : Io} (hx : cOp P o = some io.op) (hdst : io.dst = o.dst) (hg : (o.guard = none ∧ io.g = none) ∨ ∃ j want p g, o.guard = some (j, want) ∧ ops[j]? = some p ∧ p.dst = some g ∧ io.g = some (g, want))
  {K : St → Prop} {fresh : Nat} (h : Sat (CM s.nx) PL s Fr a w) (hfr : ∀ i, fresh ≤ i → i < fresh + 8 → Fr i) (hk : (CM s.nx).k ≤ fresh) (hnx : ∀ i, s.nx ≤ i → Fr i) (hle : fresh + 8 ≤ s.nx) (hv : vxOp ex io fresh s K)
  (next : ∀ PL' s' a' w', K s' → s.nx ≤ s'.nx → Sat (CM s'.nx) PL' s' (fun i => (Fr i ∧ i < s.nx ∧ ¬ (fresh ≤ i ∧ i < fresh + 8)) ∨ s'.nx ≤ i) a' w' → wpListIn (WF r) 0 P ops Q rest a' w') : wpListIn (WF r) 0 P ops Q (o :: rest) a w := by
 unfold wpListIn
 have skip : ∀ s', Sat (CM s.nx) PL s' Fr a w → s'.nx = s.nx → K (s'.put io.dst (some (.tup [])) []) → (∀ f, o.about P w a.eval = some f → (WF r).fn f) ∧ wpListIn (WF r) 0 P ops Q rest (a.put o.dst undef) w := by
  intro s' hs hn hK
  refine ⟨fun _ _ => trivial, next PL _ _ _ hK (by rw [show (s'.put io.dst (some (.tup [])) []).nx = s'.nx from rfl, hn]; exact Nat.le_refl _) ?_⟩
  have := hs.pure o.dst (some (.tup [])) undef (fun v hv => undef_den hv)
  rw [hdst, show (s'.put o.dst (some (.tup [])) []).nx = s.nx from hn]
  refine this.fr_mono (fun i hi => ?_)
  rcases hi with hi | hi
  ·exact hi.1
  ·exact hnx i hi
 have exec : ∀ s', Sat (CM s.nx) PL s' Fr a w → s'.nx = s.nx → ex io fresh s' K → o.wpIn (WF r) 0 P a w (wpListIn (WF r) 0 P ops Q rest) Q := by
  intro s' hs hn hE
  refine Oper.wpIn_mono (fun a' w' hp => ?_) (hex o io PL s' Fr a w fresh K Q hx hdst (by rw [hn]; exact hs) hfr (by rw [hn]; exact hk) (by rw [hn]; exact hnx) (by rw [hn]; exact hle) hE)
  obtain ⟨PL', s'', hK, hn', _, hS⟩ := hp
  rw [hn] at hn' hS
  exact next PL' s'' a' w' hK hn' hS
 rcases hg with ⟨h1, h2⟩ | ⟨j, want, p, g, h1, h2, h3, h4⟩
 ·rw [if_pos (by simp [Region.wanted, h1])]
  unfold vxOp at hv
  rw [h2] at hv
  exact exec s h rfl hv
 ·unfold vxOp at hv
  rw [h4] at hv
  cases want with
  | true =>
   simp only [] at hv
   split at hv
   ·rename_i b hb
    rw [wanted_of h1 h2 h3 h hb]
    cases b with
    | true => exact exec _ (sat_lit h hb) rfl hv
    | false => exact skip _ (sat_lit h hb) rfl hv
   ·rename_i hb
    rw [wanted_undef h1 h2 h3 h hb]
    exact skip _ h rfl hv
   ·exact hv.elim
  | false =>
   simp only [] at hv
   split at hv
   ·rename_i b hb
    rw [wanted_of h1 h2 h3 h hb]
    cases b with
    | true => exact skip _ (sat_lit h hb) rfl hv
    | false => exact exec _ (sat_lit h hb) rfl hv
   ·rename_i hb
    rw [wanted_undef h1 h2 h3 h hb]
    exact skip _ h rfl hv
   ·exact hv.elim
theorem vxOps_sound (hM : Mod CM) (hex : ExOK P CM r ex) {all : Array Oper} {K : St → Prop} {B : Nat} : ∀ (os : List (Oper × List Nat)) (ios : List Io) (fresh : Nat) (PL : Nat → Option Pl) (s : St) (a : Act) (w : World), cOps P all false os = some ios → Sat (CM s.nx) PL s (fun i => (fresh ≤ i ∧ i < B) ∨ s.nx ≤ i) a w → (CM s.nx).k ≤ fresh →
  fresh + 8 * ios.length = B → B ≤ s.nx → vxOps ex ios fresh s K → (∀ PL' s' a' w', K s' → s.nx ≤ s'.nx → Sat (CM s'.nx) PL' s' (fun i => s'.nx ≤ i) a' w' → Q .normal a' w') → wpListIn (WF r) 0 P all Q (os.map (·.1)) a w
 | [], ios, fresh, PL, s, a, w, hc, h, hk, hB, hle, hv, hQ => by
  simp only [cOps] at hc
  injection hc with hc
  subst hc
  exact hQ PL s a w hv (Nat.le_refl _) (h.fr_mono fun i hi => .inr hi)
 | (o, pre) :: os, ios, fresh, PL, s, a, w, hc, h, hk, hB, hle, hv, hQ => by
  obtain ⟨x, g, ios', rfl, hx, hl, hg⟩ := cOps_cons hc
  simp only [vxOps] at hv
  simp only [List.length_cons] at hB
  refine vxOp_sound hex (io := ⟨o.dst, g, [], x⟩) hx rfl (by
   rcases hg with ⟨h1, h2⟩ | ⟨j, want, p, d, h1, h2, h3, h4⟩
   ·exact .inl ⟨h1, h2⟩
   ·exact .inr ⟨j, want, p, d, h1, h2, h3, h4⟩) h (fun i h1 h2 => .inl ⟨h1, by omega⟩) hk (fun i hi => .inr hi) (by omega) hv ?_
  intro PL' s' a' w' hK hn hS
  have hS1 : Sat (CM s'.nx) PL' s' (fun i => (fresh + 8 ≤ i ∧ i < B) ∨ s'.nx ≤ i) a' w' := hS.fr_mono fun i hi => by
   rcases hi with ⟨h1, h2⟩ | hi
   ·exact .inl ⟨.inl ⟨by omega, h2⟩, by omega, by omega⟩
   ·exact .inr hi
  refine vxOps_sound hM hex os ios' (fresh + 8) PL' s' a' w' hl hS1 (by have := hM.k s'.nx s.nx; omega) (by omega) (by omega) hK ?_
  intro PL2 s2 a2 w2 hK2 hn2 hS2
  exact hQ PL2 s2 a2 w2 hK2 (by omega) hS2
theorem vx_sound (hM : Mod CM) (hex : ExOK P CM r ex) {L : IC → St → (Ex → St → Prop) → Prop} (hL : ∀ (c : IC) (s : St) (K : Ex → St → Prop), L c s K → ∀ (code : Code) (PL : Nat → Option Pl) (a : Act) (w : World) (Q : Exit → Act → World → Prop), comp P code = some c → SatM CM PL s a w → KQM CM K Q → code.wpIn (WF r) 0 P Q a w) :
  ∀ (code : Code) (ic : IC) (s : St) (K : Ex → St → Prop) (PL : Nat → Option Pl) (a : Act) (w : World) (Q : Exit → Act → World → Prop), comp P code = some ic → vx ex L ic s K → SatM CM PL s a w → KQM CM K Q → code.wpIn (WF r) 0 P Q a w
 | .skip, ic, s, K, PL, a, w, Q, hc, hv, h, hQ => by
  simp only [comp] at hc; injection hc with hc; subst hc
  exact wpIn_skip (hQ .nxt s PL a w hv h)
 | .ret, ic, s, K, PL, a, w, Q, hc, hv, h, hQ => by
  simp only [comp] at hc; injection hc with hc; subst hc
  exact wpIn_ret (hQ .ret s PL a w hv h)
 | .exit id, ic, s, K, PL, a, w, Q, hc, hv, h, hQ => by
  simp only [comp] at hc; injection hc with hc; subst hc
  exact wpIn_exit (hQ (.exit id) s PL a w hv h)
 | .region id ops draw, ic, s, K, PL, a, w, Q, hc, hv, h, hQ => by
  cases draw with
  | true =>
   simp only [comp] at hc
   split at hc
   ·split at hc
    ·injection hc with hc; subst hc; exact hv.elim
    ·injection hc with hc; subst hc; exact hv.elim
   ·injection hc with hc; subst hc; exact hv.elim
  | false =>
   simp only [comp] at hc
   cases hcc : cOps P ops false (ops.toList.zip (ancsL ops.toList [])) with
   | none => rw [hcc] at hc; injection hc with hc; subst hc; exact hv.elim
   | some ios =>
   have hios := hcc
   rw [hcc] at hc
   injection hc with hc
   subst hc
   simp only [vx] at hv
   have hmode : left (s.nx + 8 * ios.length) = left s.nx ∧ vxOps ex ios s.nx ⟨s.fr, s.hp, s.nx + 8 * ios.length⟩ (K .nxt) := by
    cases h1 : left s.nx with
    | true =>
     rw [h1] at hv
     refine ⟨left_t (by have := left_le h1; omega), ?_⟩
     revert hv
     generalize left (s.nx + 8 * ios.length) = b
     intro hv
     cases b <;> exact hv
    | false =>
     rw [h1] at hv
     revert hv
     cases h2 : left (s.nx + 8 * ios.length) with
     | true => intro hv; exact hv.elim
     | false => intro hv; exact ⟨rfl, hv⟩
   obtain ⟨hmd, hv⟩ := hmode
   have hCM := hM.eq _ _ hmd
   refine wpIn_region_list ?_
   have hmap : (ops.toList.zip (ancsL ops.toList [])).map (·.1) = ops.toList := by
    rw [List.map_fst_zip]
    rw [ancsL_len]; simp
   rw [← hmap]
   have hS : Sat (CM (s.nx + 8 * ios.length)) PL (⟨s.fr, s.hp, s.nx + 8 * ios.length⟩ : St) (fun i => s.nx ≤ i) a w := by
    rw [hCM]
    exact { h.1.toHSat with len := h.1.len, def_ := h.1.def_, slot := h.1.slot }
   refine vxOps_sound hM hex (B := s.nx + 8 * ios.length) _ ios s.nx PL _ a w hios (hS.fr_mono fun i hi => ?_) (by rw [show ((⟨s.fr, s.hp, s.nx + 8 * ios.length⟩ : St)).nx = s.nx + 8 * ios.length from rfl, hCM]; exact h.2) rfl (Nat.le_refl _) hv ?_
   ·rcases hi with hi | hi
    ·exact hi.1
    ·exact Nat.le_trans (Nat.le_add_right _ _) hi
   ·intro PL' s' a' w' hK hn hS'
    refine hQ .nxt s' PL' a' w' hK ⟨hS', ?_⟩
    have := h.2
    have := hM.k s'.nx s.nx
    have : s.nx + 8 * ios.length ≤ s'.nx := hn
    omega
 | .seq x y, ic, s, K, PL, a, w, Q, hc, hv, h, hQ => by
  simp only [comp, Option.bind_eq_bind, Option.bind_eq_some_iff, Option.pure_def, Option.some.injEq] at hc
  obtain ⟨x', hx, y', hy, rfl⟩ := hc
  simp only [vx] at hv
  refine wpIn_seq (vx_sound hM hex hL x x' s _ PL a w _ hx hv h ?_)
  intro e s' PL' a' w' hK hS
  cases e with
  | nxt => exact vx_sound hM hex hL y y' s' K PL' a' w' Q hy hK hS hQ
  | ret => exact hQ .ret s' PL' a' w' hK hS
  | exit id => exact hQ (.exit id) s' PL' a' w' hK hS
 | .cond c x y, ic, s, K, PL, a, w, Q, hc, hv, h, hQ => by
  simp only [comp] at hc
  cases hcc : cX c with
  | none => rw [hcc] at hc; injection hc with hc; subst hc; exact hv.elim
  | some c' =>
  rw [hcc] at hc
  simp only [Option.bind_eq_bind, Option.bind_eq_some_iff, Option.pure_def, Option.some.injEq] at hc
  obtain ⟨x', hx, y', hy, rfl⟩ := hc
  simp only [vx] at hv
  split at hv
  ·rename_i b hb
   have d := ev_den h.1 hcc hb
   generalize hq : a.eval c = q at d
   cases d
   refine wpIn_cond hq ?_
   cases b with
   | true => exact vx_sound hM hex hL x x' s K PL a w Q hx hv h hQ
   | false => exact vx_sound hM hex hL y y' s K PL a w Q hy hv h hQ
  ·exact hv.elim
 | .block id c, ic, s, K, PL, a, w, Q, hc, hv, h, hQ => by
  simp only [comp, Option.map_eq_some_iff] at hc
  obtain ⟨c', hcc, rfl⟩ := hc
  simp only [vx] at hv
  refine wpIn_block (vx_sound hM hex hL c c' s _ PL a w _ hcc hv h ?_)
  intro e s' PL' a' w' hK hS
  cases e with
  | nxt => exact hQ .nxt s' PL' a' w' hK hS
  | ret => exact hQ .ret s' PL' a' w' hK hS
  | exit j =>
   simp only [] at hK
   simp only [exOf, Exit.inBlock]
   split at hK
   ·rename_i hj
    rw [if_pos ((nbeq j id).1 hj)]
    exact hQ .nxt s' PL' a' w' hK hS
   ·rename_i hj
    rw [if_neg ((nbeq_false j id).1 hj)]
    exact hQ (.exit j) s' PL' a' w' hK hS
 | .loop c, ic, s, K, PL, a, w, Q, hc, hv, h, hQ => by
  have hc0 := hc
  simp only [comp, Option.map_eq_some_iff] at hc
  obtain ⟨c', hcc, rfl⟩ := hc
  simp only [vx] at hv
  exact hL _ _ _ hv (.loop c) PL a w Q hc0 h hQ
 | .rangeFunc f ps x y, ic, s, K, PL, a, w, Q, hc, hv, h, hQ => by
  simp only [comp] at hc
  split at hc
  ·simp only [Option.bind_eq_bind, Option.bind_eq_some_iff, Option.pure_def, Option.some.injEq] at hc
   obtain ⟨a', h1, b', h2, rfl⟩ := hc
   exact hv.elim
  ·injection hc with hc; subst hc; exact hv.elim
 | .scope c, ic, s, K, PL, a, w, Q, hc, hv, h, hQ => by simp only [comp] at hc; injection hc with hc; subst hc; exact hv.elim
 | .label l, ic, s, K, PL, a, w, Q, hc, hv, h, hQ => by simp only [comp] at hc; injection hc with hc; subst hc; exact hv.elim
 | .goto l, ic, s, K, PL, a, w, Q, hc, hv, h, hQ => by simp only [comp] at hc; injection hc with hc; subst hc; exact hv.elim
 | .refuse l, ic, s, K, PL, a, w, Q, hc, hv, h, hQ => by simp only [comp] at hc; injection hc with hc; subst hc; exact hv.elim
end
end Go.Proofs.YtbkcmpggacbikaaDoor
end
section
/-
  A walk that reckons: ranges over functions: a round; the range.
-/
set_option linter.unusedVariables false
set_option linter.unusedSimpArgs false
namespace Go.Proofs.YtbkcmpggacbikaaDoor
open Go.RowKit
structure Lt (l : Option Nat) (Z : Nat → Prop) (PL : Nat → Option Pl) (hp : List (Nat × Ck)) (nx : Nat) (w : World) (PL' : Nat → Option Pl) (hp' : List (Nat × Ck)) (w' : World) : Prop where
 P : ∀ i, i < nx → PL' i = PL i
 os : w'.os = w.os
 tape : w'.tape = w.tape
 output : w'.output = w.output
 size : w.heap.size ≤ w'.heap.size
 same : ∀ b, b < w.heap.size → ¬ Own PL hp b → some b ≠ l → w'.heap[b]? = w.heap[b]?
 own : ∀ b, Own PL' hp' b → ¬ Z b ∧ (Own PL hp b ∨ w.heap.size ≤ b)
theorem Lt.trans {l : Option Nat} {Z : Nat → Prop} {PL PL1 PL2 : Nat → Option Pl} {hp hp1 hp2 : List (Nat × Ck)} {nx nx1 : Nat} {w w1 w2 : World} (h : Lt l Z PL hp nx w PL1 hp1 w1) (k : Lt l Z PL1 hp1 nx1 w1 PL2 hp2 w2) (hn : nx ≤ nx1) : Lt l Z PL hp nx w PL2 hp2 w2 where
 P := fun i hi => (k.P i (by omega)).trans (h.P i hi)
 os := k.os.trans h.os
 tape := k.tape.trans h.tape
 output := k.output.trans h.output
 size := Nat.le_trans h.size k.size
 same := fun b hb ho hl => by
  have hs := h.size
  have : ¬ Own PL1 hp1 b := fun hx => by
   rcases (h.own b hx).2 with h1 | h1
   ·exact ho h1
   ·omega
  rw [k.same b (by omega) this hl, h.same b hb ho hl]
 own := fun b hb => by
  have hs := h.size
  obtain ⟨h1, h2⟩ := k.own b hb
  refine ⟨h1, ?_⟩
  rcases h2 with h2 | h2
  ·exact (h.own b h2).2
  ·exact .inr (by omega)
def rbC (C : Ctx) (PL : Nat → Option Pl) (hp : List (Nat × Ck)) (nx : Nat) (w : World) : Ctx := ⟨w, C.Z, Own PL hp, nx, PL, C.n0⟩
section
variable {P : Program} {C : Ctx} {PL PL' : Nat → Option Pl} {hp hp' : List (Nat × Ck)} {Fr Fr' : Nat → Prop} {w w' : World} {nx l D : Nat}
theorem HSat.rb (h : HSat C PL hp Fr w) (hnx : ∀ i, nx ≤ i → Fr i) : HSat (rbC C PL hp nx w) PL hp (fun i => nx ≤ i) w :=
 ⟨h.ck, h.dj, fun b hb => ⟨(h.own b hb).1, .inl hb⟩, rfl, rfl, rfl, Nat.le_refl _, fun _ _ _ => rfl, ⟨fun b hz => Nat.lt_of_lt_of_le (h.zlt.1 b hz) h.size, fun g r hg => h.glob hg⟩, fun i hi => h.fr i (hnx i hi), fun _ _ => rfl⟩
theorem Lt.of_rb (l : Option Nat) (h : HSat (rbC C PL hp nx w) PL' hp' Fr' w') : Lt l C.Z PL hp nx w PL' hp' w' where
 P := fun i hi => h.arg i hi
 os := h.os
 tape := h.tape
 output := h.output
 size := h.size
 same := fun b hb ho _ => h.old b hb ho
 own := fun b hb => h.own b hb
theorem HSat.rb_nc (h : HSat C PL hp Fr w) (hnx : ∀ i, nx ≤ i → Fr i) {o0 o : Obj} (hD : w.heap[l]? = some o0) (hc : o0.isCells = false) : HSat (rbC C PL hp nx (w.putObj l o)) PL hp (fun i => nx ≤ i) (w.putObj l o) := by
 have hsz : (w.putObj l o).heap.size = w.heap.size := by simp
 exact ⟨fun id c hg => (h.ck id c hg).nc hD hc, h.dj, fun b hb => ⟨(h.own b hb).1, .inl hb⟩, rfl, rfl, rfl, Nat.le_refl _, fun _ _ _ => rfl, ⟨fun b hz => by show b < (w.putObj l o).heap.size; rw [hsz]; exact Nat.lt_of_lt_of_le (h.zlt.1 b hz) h.size, fun g r hg => (h.glob hg).nc hD hc⟩, fun i hi => h.fr i (hnx i hi), fun _ _ => rfl⟩
theorem HSat.turn (H : HSat C PL hp Fr w) {o0 o : Obj} (hD : w.heap[l]? = some o0) (hc : o0.isCells = false) (h0 : C.w0.heap[l]? = some o0) : HSat { C with w0 := C.w0.putObj l o } PL hp Fr (w.putObj l o) := by
 have hlt : l < C.w0.heap.size := (Array.getElem?_eq_some_iff.1 h0).1
 have hsz : (w.putObj l o).heap.size = w.heap.size := by simp
 have hsz0 : (C.w0.putObj l o).heap.size = C.w0.heap.size := by simp
 have hs := H.size
 refine ⟨fun id c hg => (H.ck id c hg).nc hD hc, H.dj, fun b hb => ?_, H.os, H.tape, H.output, by show (C.w0.putObj l o).heap.size ≤ _; omega, fun b hb ho => ?_, ⟨fun b hz => ?_, fun g r hg => (H.zlt.2 g r hg).nc h0 hc⟩, H.fr, H.arg⟩
 ·obtain ⟨h1, h2⟩ := H.own b hb
  refine ⟨h1, ?_⟩
  rcases h2 with h2 | h2
  ·exact .inl h2
  ·exact .inr (by show (C.w0.putObj l o).heap.size ≤ b; omega)
 ·by_cases hb1 : b = l
  ·subst hb1
   rw [World.putObj_heap_same (by omega)]
   exact (World.putObj_heap_same hlt).symm
  ·rw [putObj_get hb1]
   show _ = (C.w0.putObj l o).heap[b]?
   rw [putObj_get hb1]
   exact H.old b (by have hb' : b < (C.w0.putObj l o).heap.size := hb; omega) ho
 ·show b < (C.w0.putObj l o).heap.size
  have := H.zlt.1 b hz
  omega
theorem HSat.un (h : HSat C PL hp Fr w) (hkn : C.k ≤ nx) {l : Option Nat} (t : Lt l C.Z PL hp nx w PL' hp' w') (ck : ∀ id c, hget hp' id = some c → CkOk PL' w' (Avo C PL' hp') id c)
  (dj : ∀ i j c d p q b, hget hp' i = some c → hget hp' j = some d → PL' i = some p → PL' j = some q → p.a = some ⟨b, 0, none⟩ → q.a = some ⟨b, 0, none⟩ → i = j) (fr : ∀ id, Fr' id → PL' id = none)
  (hl : ∀ b, l = some b → b < C.w0.heap.size → ¬ C.O0 b → w'.heap[b]? = C.w0.heap[b]?) : HSat C PL' hp' Fr' w' := by
 refine ⟨ck, dj, fun b hb => ?_, t.os.trans h.os, t.tape.trans h.tape, t.output.trans h.output, Nat.le_trans h.size t.size, fun b hb ho => ?_, h.zlt, fr, fun id hid => (t.P id (by omega)).trans (h.arg id hid)⟩
 ·obtain ⟨h1, h2⟩ := t.own b hb
  refine ⟨h1, ?_⟩
  rcases h2 with h2 | h2
  ·exact (h.own b h2).2
  ·have := h.size; exact .inr (by omega)
 ·by_cases hbl : l = some b
  ·exact hl b hbl hb ho
  ·have hs := h.size
   rw [t.same b (by omega) (fun hx => ?_) (fun e => hbl e.symm)]
   ·exact h.old b hb ho
   ·rcases (h.own b hx).2 with h1 | h1
    ·exact ho h1
    ·omega
theorem Den.lt {v : SV} {x : Value} (d : Den PL w (Avo C PL hp) v x) (hf : ∀ i p, PL i = some p → i < nx) (t : Lt none C.Z PL hp nx w PL' hp' w') : Den PL' w' (Avo C PL' hp') v x := by
 refine d.mono (fun i p hp => by rw [t.P i (hf i p hp)]; exact hp) t.size (fun b hb hv => t.same b hb (fun hx => hv (.inr hx)) (by simp)) (fun b hb hv => ?_)
 rcases hv with hz | ho
 ·exact .inl hz
 ·rcases (t.own b ho).2 with h | h
  ·exact .inr h
  ·omega
theorem DefOK.lt {ds : List Deferred} {n0 : Nat} (d : DefOK (Avo C PL hp) n0 w ds) (t : Lt none C.Z PL hp nx w PL' hp' w') : DefOK (Avo C PL' hp') n0 w' ds := by
 refine DefOK.mono d t.size (fun b hb hv => t.same b hb (fun hx => hv (.inr hx)) (by simp)) (fun b hb hv => ?_)
 rcases hv with hz | ho
 ·exact .inl hz
 ·rcases (t.own b ho).2 with h | h
  ·exact .inr h
  ·omega
theorem DefOK.nc {ds : List Deferred} {n0 : Nat} {Av : Nat → Prop} (d : DefOK Av n0 w ds) {o0 o : Obj} (hD : w.heap[l]? = some o0) (hc : ∀ x, o0 ≠ .deferred x) : DefOK Av n0 (w.putObj l o) ds := by
 obtain ⟨h0, L, h1, h2, h3⟩ := d
 refine ⟨by rw [show (w.putObj l o).heap.size = w.heap.size by simp]; exact h0, L, h1, h2, fun D hD' => ?_⟩
 obtain ⟨a, b, c⟩ := h3 D hD'
 refine ⟨?_, b, c⟩
 rw [putObj_get]
 ·exact a
 ·intro e; subst e; rw [a] at hD; injection hD with hD; exact hc _ hD.symm
theorem HSat.frl (h : HSat C PL hp Fr w) (hnx : ∀ i, nx ≤ i → Fr i) : ∀ i p, PL i = some p → i < nx := by
 intro i p hp
 by_cases hi : i < nx
 ·exact hi
 ·rw [h.fr i (hnx i (by omega))] at hp; cases hp
end
end Go.Proofs.YtbkcmpggacbikaaDoor
end
section
/-
  A walk that reckons: ranges over functions: a round; the range.
-/
set_option linter.unusedVariables false
set_option linter.unusedSimpArgs false
namespace Go.Proofs.YtbkcmpggacbikaaDoor
open Go.RowKit
theorem Lt.weaken {l : Option Nat} {Z : Nat → Prop} {PL PL' : Nat → Option Pl} {hp hp' : List (Nat × Ck)} {nx : Nat} {w w' : World} (h : Lt none Z PL hp nx w PL' hp' w') : Lt l Z PL hp nx w PL' hp' w' :=
 ⟨h.P, h.os, h.tape, h.output, h.size, fun b hb ho _ => h.same b hb ho (by simp), h.own⟩
theorem Lt.put {l : Nat} {Z : Nat → Prop} {PL : Nat → Option Pl} {hp : List (Nat × Ck)} {nx : Nat} {w : World} (hZ : ∀ b, Own PL hp b → ¬ Z b) (o : Obj) : Lt (some l) Z PL hp nx w PL hp (w.putObj l o) :=
 ⟨fun _ _ => rfl, rfl, rfl, rfl, by simp, fun b hb ho hl => putObj_get (fun e => hl (by rw [e])), fun b hb => ⟨hZ b hb, .inl hb⟩⟩
theorem setPs_len : ∀ (ps : List Nat) (fr : List (Option SV)) (vs : List SV) (fr1 : List (Option SV)), setPs fr ps vs = some fr1 → fr1.length = fr.length
 | [], fr, [], fr1, h => by simp only [setPs] at h; injection h with h; rw [h]
 | [], fr, v :: vs, fr1, h => by simp [setPs] at h
 | p :: ps, fr, [], fr1, h => by simp [setPs] at h
 | p :: ps, fr, v :: vs, fr1, h => by
  simp only [setPs] at h
  rw [setPs_len ps _ vs fr1 h, fput_length]
theorem setPs_den {PL : Nat → Option Pl} {w : World} {Av : Nat → Prop} : ∀ (ps : List Nat) (fr : List (Option SV)) (vs : List SV) (xs : List Value) (T : Array Value) (fr1 : List (Option SV)), setPs fr ps vs = some fr1 → T.size = fr.length → DensA PL w Av vs xs →
  (∀ i v, fget fr i = some v → Den PL w Av v (T.getD i undef)) → ps.length = xs.length ∧ ((ps.zip xs).foldl (fun t (p, v) => t.setIfInBounds p v) T).size = fr1.length ∧
   ∀ i v, fget fr1 i = some v → Den PL w Av v (((ps.zip xs).foldl (fun t (p, v) => t.setIfInBounds p v) T).getD i undef)
 | [], fr, [], xs, T, fr1, h, hT, hd, hs => by
  simp only [setPs] at h; injection h with h; subst h
  have : xs = [] := List.length_eq_zero_iff.1 (by simpa using hd.1)
  subst this
  exact ⟨rfl, hT, hs⟩
 | [], fr, v :: vs, xs, T, fr1, h, hT, hd, hs => by simp [setPs] at h
 | p :: ps, fr, [], xs, T, fr1, h, hT, hd, hs => by simp [setPs] at h
 | p :: ps, fr, v :: vs, [], T, fr1, h, hT, hd, hs => by have := hd.1; simp at this
 | p :: ps, fr, v :: vs, x :: xs, T, fr1, h, hT, hd, hs => by
  simp only [setPs] at h
  have hd0 : Den PL w Av v x := hd.2 0 (by simp) (by simp)
  have hd1 : DensA PL w Av vs xs := ⟨by simpa using hd.1, fun j a b => by have := hd.2 (j + 1) (by simpa using a) (by simpa using b); simpa using this⟩
  obtain ⟨h1, h2, h3⟩ := setPs_den ps (fput fr p (some v)) vs xs (T.setIfInBounds p x) fr1 h (by rw [fput_length]; simpa using hT) hd1 (fun i u hu => by
   by_cases hpi : p = i
   ·subst hpi
    have hl := fget_lt _ _ _ hu
    rw [fput_length] at hl
    rw [fget_fput_eq _ _ _ hl] at hu
    injection hu with hu
    subst hu
    have : (T.setIfInBounds p x).getD p undef = x := by
     have hp : p < T.size := by omega
     simp [Array.getD, hp]
    rw [this]
    exact hd0
   ·rw [fget_fput_ne _ _ _ _ hpi] at hu
    have : (T.setIfInBounds p x).getD i undef = T.getD i undef := by
     simp only [Array.getD, Array.size_setIfInBounds]
     split
     ·exact Array.getElem_setIfInBounds_ne _ hpi
     ·rfl
    rw [this]
    exact hs i u hu)
  exact ⟨by simp [h1], h2, h3⟩
section
variable {P : Program} {Γ : FuncId → Option Con}
def recOf (fn0 : FuncId) (T0 : Array Value) (pa : Array Tmp) (ca cb : Code) (D : Nat) : Loop := { state := .ready, pending := none, fn := fn0, tmps := T0, params := pa, assign := ca, body := cb, defers := D }
def recLeft (fn0 : FuncId) (T0 : Array Value) (pa : Array Tmp) (ca cb : Code) (D : Nat) : Loop := { state := .done, pending := some .ret, fn := fn0, tmps := T0, params := pa, assign := ca, body := cb, defers := D }
theorem putObj_twice (w : World) (l : Nat) (o o' : Obj) : (w.putObj l o).putObj l o' = w.putObj l o' := by
 simp [World.putObj]
structure Rng (P : Program) (C : Ctx) (it : It) (fn0 : FuncId) (T0 : Array Value) (pa : Array Tmp) (ca cb : Code) (D : Nat) : Prop where
 a : comp P ca = some it.asg
 b : comp P cb = some it.body
 ps : pa.toList = it.ps
 len : T0.size = it.fr.length
 fr : ∀ PL hp Fr w, HSat C PL hp Fr w → ∀ i v, fget it.fr i = some v → Den PL w (Avo C PL hp) v (T0.getD i undef)
 l0 : C.w0.heap[it.l]? = some (.loop (recOf fn0 T0 pa ca cb D))
 O : ¬ C.O0 it.l
theorem round_run (T : Tab P Γ) {C : Ctx} {it : It} {fn0 : FuncId} {T0 : Array Value} {pa : Array Tmp} {ca cb : Code} {D : Nat} (R : Rng P C it fn0 T0 pa ca cb D) {PL : Nat → Option Pl} {s : St} {Fr : Nat → Prop} {a : Act} {w : World} {vs : List SV} {args : List Value} {K : St → Prop} {dst : Option Nat}
  (h : Sat C PL s Fr a w) (hk : C.k ≤ s.nx) (hnx : ∀ i, s.nx ≤ i → Fr i) (hvs : DensA PL w (Avo C PL s.hp) vs args) (hv : exRound Γ it dst vs s K) :
  w.heap[it.l]? = some (.loop (recOf fn0 T0 pa ca cb D)) ∧ args.length = pa.size ∧ RoundIn Fence.wide 0 P it.l fn0 ((it.ps.zip args).foldl (fun t (p, v) => t.setIfInBounds p v) T0) ca cb w (fun e w' => (e = .returned (.bool true) ∧ ∃ (PL' : Nat → Option Pl) (s2 : St), K ((⟨s.fr, s2.hp, s2.nx⟩ : St).put dst (some (.v (.bool true))) []) ∧ s.nx ≤ s2.nx ∧ left s2.nx = false ∧
   Sat C PL' ⟨s.fr, s2.hp, s2.nx⟩ (fun i => (Fr i ∧ i < s.nx) ∨ s2.nx ≤ i) a w') ∨
   (e = .returned (.bool false) ∧ ∃ (PL' : Nat → Option Pl) (s2 : St), K ((⟨s.fr, s2.hp, s2.nx + 1000000⟩ : St).put dst (some (.v (.bool false))) []) ∧ s.nx ≤ s2.nx ∧
   Sat { C with w0 := C.w0.putObj it.l (.loop (recLeft fn0 T0 pa ca cb D)) } PL' ⟨s.fr, s2.hp, s2.nx⟩ (fun i => (Fr i ∧ i < s.nx) ∨ s2.nx ≤ i) a w')) := by
 have hlt0 : it.l < C.w0.heap.size := (Array.getElem?_eq_some_iff.1 R.l0).1
 have hlw : w.heap[it.l]? = some (.loop (recOf fn0 T0 pa ca cb D)) := (h.old it.l hlt0 R.O).trans R.l0
 have hltw : it.l < w.heap.size := Nat.lt_of_lt_of_le hlt0 h.size
 have hno : ¬ Own PL s.hp it.l := fun hx => by
  rcases (h.own it.l hx).2 with h1 | h1
  ·exact R.O h1
  ·omega
 unfold exRound at hv
 split at hv
 ·rename_i fr1 hfr1
  obtain ⟨q1, q2, q3⟩ := setPs_den it.ps it.fr vs args T0 fr1 hfr1 R.len hvs (R.fr PL s.hp Fr w h.toHSat)
  refine ⟨hlw, by rw [← q1, ← R.ps]; simp, ?_⟩
  generalize (it.ps.zip args).foldl (fun t (p, v) => t.setIfInBounds p v) T0 = tm at q2 q3 ⊢
  refine roundIn_of_wpIn (F := Fence.wide) trivial ?_
  have H2 := h.toHSat.rb hnx
  have S2 : SatN (rbC C PL s.hp s.nx w) PL ⟨fr1, s.hp, s.nx⟩ { tmps := tm, defers := [] } w :=
   ⟨{ H2 with len := q2, def_ := .nil h.def_.1, slot := q3 }, Nat.le_refl _⟩
  refine vx_sound (CM := fun _ => rbC C PL s.hp s.nx w) (Mod.one _) (r := some it.l) (exec_ok T) (L := fun _ _ _ => False) (fun _ _ _ hL => hL.elim) ca it.asg _ _ PL _ w _ R.a hv S2 ?_
  intro e s1 PL1 a1 w1 hK S1
  replace S1 : SatN (rbC C PL s.hp s.nx w) PL1 s1 a1 w1 := S1
  cases e with
  | ret => exact hK.elim
  | exit id => exact hK.elim
  | nxt =>
   have t1 : Lt none C.Z PL s.hp s.nx w PL1 s1.hp w1 := Lt.of_rb none S1.1.toHSat
   have hl1 : w1.heap[it.l]? = some (.loop (recOf fn0 T0 pa ca cb D)) := (t1.same it.l hltw hno (by simp)).trans hlw
   have hn1 : s.nx ≤ s1.nx := S1.2
   refine ⟨_, run_beginRound hl1 rfl, ?_⟩
   have H3 : HSat (rbC (rbC C PL s.hp s.nx w) PL1 s1.hp s1.nx _) PL1 s1.hp (fun i => s1.nx ≤ i) _ := S1.1.toHSat.rb_nc (fun i hi => hi) hl1 rfl (o := .loop { recOf fn0 T0 pa ca cb D with state := .busy })
   have S3 : SatN (rbC (rbC C PL s.hp s.nx w) PL1 s1.hp s1.nx (w1.putObj it.l (.loop { recOf fn0 T0 pa ca cb D with state := .busy }))) PL1 s1 a1 (w1.putObj it.l (.loop { recOf fn0 T0 pa ca cb D with state := .busy })) :=
    ⟨{ H3 with len := S1.1.len, def_ := S1.1.def_.nc hl1 (fun x e => by cases e), slot := fun i v hi => (S1.1.slot i v hi).nc hl1 rfl }, Nat.le_refl _⟩
   have fin : ∀ (s2 : St) (PL3 : Nat → Option Pl) (a3 : Act) (w3 : World), SatN (rbC (rbC C PL s.hp s.nx w) PL1 s1.hp s1.nx (w1.putObj it.l (.loop { recOf fn0 T0 pa ca cb D with state := .busy }))) PL3 s2 a3 w3 → w3.heap[it.l]? = some (.loop { recOf fn0 T0 pa ca cb D with state := .busy }) ∧ s.nx ≤ s2.nx ∧
     Sat C PL3 ⟨s.fr, s2.hp, s2.nx⟩ (fun i => (Fr i ∧ i < s.nx) ∨ s2.nx ≤ i) a (w3.putObj it.l (.loop (recOf fn0 T0 pa ca cb D))) := by
    intro s2 PL3 a3 w3 S4
    have t3 : Lt none C.Z PL1 s1.hp s1.nx (w1.putObj it.l (.loop { recOf fn0 T0 pa ca cb D with state := .busy })) PL3 s2.hp w3 := Lt.of_rb none S4.1.toHSat
    have hs2 : (w1.putObj it.l (.loop { recOf fn0 T0 pa ca cb D with state := .busy })).heap.size = w1.heap.size := by simp
    have hlt1 : it.l < w1.heap.size := Nat.lt_of_lt_of_le hltw t1.size
    have hno1 : ¬ Own PL1 s1.hp it.l := fun hx => by
     rcases (t1.own it.l hx).2 with h1 | h1
     ·exact hno h1
     ·omega
    have hl3 : w3.heap[it.l]? = some (.loop { recOf fn0 T0 pa ca cb D with state := .busy }) := (t3.same it.l (by omega) hno1 (by simp)).trans (World.putObj_heap_same hlt1)
    have hn3 : s1.nx ≤ s2.nx := S4.2
    refine ⟨hl3, by omega, ?_⟩
    have tt : Lt (some it.l) C.Z PL s.hp s.nx w PL3 s2.hp (w3.putObj it.l (.loop (recOf fn0 T0 pa ca cb D))) :=
     (((t1.weaken.trans (Lt.put (fun b hb => (t1.own b hb).1) _) (Nat.le_refl _ : s.nx ≤ s.nx)).trans t3.weaken hn1).trans (Lt.put (nx := s1.nx) (fun b hb => (t3.own b hb).1) _) hn1)
    have HF : HSat C PL3 s2.hp (fun i => (Fr i ∧ i < s.nx) ∨ s2.nx ≤ i) (w3.putObj it.l (.loop (recOf fn0 T0 pa ca cb D))) := by
     refine h.toHSat.un hk tt (fun id c hc => (S4.1.ck id c hc).nc hl3 rfl) S4.1.dj ?_ ?_
     ·rintro id (⟨h1, h2⟩ | h1)
      ·rw [t3.P id (by omega), t1.P id h2]; exact h.fr id h1
      ·exact S4.1.fr id h1
     ·intro b hb hb1 hb2
      injection hb with hb
      subst hb
      rw [R.l0]
      exact World.putObj_heap_same (Nat.lt_of_lt_of_le (by omega) t3.size)
    have d1 : ∀ v x, Den PL w (Avo C PL s.hp) v x → Den PL3 (w3.putObj it.l (.loop (recOf fn0 T0 pa ca cb D))) (Avo C PL3 s2.hp) v x := by
     intro v x d
     have e1 : Den PL1 w1 (Avo C PL1 s1.hp) v x := d.lt (h.toHSat.frl hnx) t1
     have e2 : Den PL1 (w1.putObj it.l (.loop { recOf fn0 T0 pa ca cb D with state := .busy })) (Avo C PL1 s1.hp) v x := e1.nc hl1 rfl
     have e3 : Den PL3 w3 (Avo C PL3 s2.hp) v x := e2.lt (nx := s1.nx) (H3.frl (fun i hi => hi)) t3
     exact e3.nc hl3 rfl
    have d2 : DefOK (Avo C PL3 s2.hp) C.n0 (w3.putObj it.l (.loop (recOf fn0 T0 pa ca cb D))) a.defers := by
     have e0 : DefOK (Avo C PL s.hp) C.n0 w a.defers := h.def_
     have e1 : DefOK (Avo C PL1 s1.hp) C.n0 w1 a.defers := e0.lt t1
     have e2 : DefOK (Avo C PL1 s1.hp) C.n0 (w1.putObj it.l (.loop { recOf fn0 T0 pa ca cb D with state := .busy })) a.defers := e1.nc hl1 (fun x e => by cases e)
     have e3 : DefOK (Avo C PL3 s2.hp) C.n0 w3 a.defers := e2.lt t3
     exact e3.nc hl3 (fun x e => by cases e)
    exact { HF with len := h.len, def_ := d2, slot := fun i v hi => d1 v _ (h.slot i v hi) }
   refine vx_sound (CM := fun _ => rbC (rbC C PL s.hp s.nx w) PL1 s1.hp s1.nx (w1.putObj it.l (.loop { recOf fn0 T0 pa ca cb D with state := .busy }))) (Mod.one _) (r := some it.l) (exec_ok T) (L := fun _ _ _ => False) (fun _ _ _ hL => hL.elim) cb it.body s1 _ PL1 a1 _ _ R.b hK S3 ?_
   intro e s2 PL3 a3 w3 hK2 S4
   obtain ⟨hl3, hn, hS⟩ := fin s2 PL3 a3 w3 S4
   cases e with
   | exit id => exact hK2.elim
   | ret =>
    refine ⟨_, _, run_endRound (some .ret) hl3, .inr ⟨rfl, PL3, s2, hK2, hn, ?_⟩⟩
    have hl4 : (w3.putObj it.l (.loop (recOf fn0 T0 pa ca cb D))).heap[it.l]? = some (.loop (recOf fn0 T0 pa ca cb D)) := World.putObj_heap_same (Array.getElem?_eq_some_iff.1 hl3).1
    have e1 : w3.putObj it.l (.loop (recLeft fn0 T0 pa ca cb D)) = (w3.putObj it.l (.loop (recOf fn0 T0 pa ca cb D))).putObj it.l (.loop (recLeft fn0 T0 pa ca cb D)) := (putObj_twice _ _ _ _).symm
    show Sat _ _ _ _ _ (w3.putObj it.l (.loop (recLeft fn0 T0 pa ca cb D)))
    rw [e1]
    have HT := hS.toHSat.turn (o := .loop (recLeft fn0 T0 pa ca cb D)) hl4 rfl R.l0
    exact { HT with len := hS.len, def_ := hS.def_.nc hl4 (fun x e => by cases e), slot := fun i v hi => (hS.slot i v hi).nc hl4 rfl }
   | nxt =>
    have hK3 : left s2.nx = false ∧ K ((⟨s.fr, s2.hp, s2.nx⟩ : St).put dst (some (.v (.bool true))) []) := by
     revert hK2
     cases hb : left s2.nx with
     | true => intro hK2; simp only [hb] at hK2
     | false => intro hK2; simp only [hb] at hK2; exact ⟨rfl, hK2⟩
    exact ⟨_, _, run_endRound none hl3, .inl ⟨rfl, PL3, s2, hK3.2, hn, hK3.1, hS⟩⟩
 ·exact hv.elim
end
end Go.Proofs.YtbkcmpggacbikaaDoor
end
section
/-
  A walk that reckons: ranges over functions: what a range does.
-/
set_option linter.unusedVariables false
set_option linter.unusedSimpArgs false
namespace Go.Proofs.YtbkcmpggacbikaaDoor
open Go.RowKit
theorem cOp_callv {P : Program} {o : Oper} {g : Opnd} {ys : List Opnd} (h : cOp P o = some (.callv g ys)) : ∃ c t, o.op = .call c ∧ c.callee = .value (.tmp t) ∧ g = .t t ∧ cXs c.args.toList = some ys := by
 unfold cOp at h
 cases ho : o.op with
 | call c =>
  simp only [ho] at h
  split at h
  all_goals first
   | (rename_i t hc; simp only [Option.map_eq_some_iff] at h; obtain ⟨zs, hz, hz2⟩ := h; injection hz2 with e1 e2; subst e1; subst e2; exact ⟨c, t, rfl, hc, rfl, hz⟩)
   | skip
  all_goals exfalso
  all_goals revert h
  all_goals (repeat' split)
  all_goals intro h
  all_goals first
   | (cases h; done)
   | (simp only [Option.bind_eq_bind, Option.bind_eq_some_iff, Option.map_eq_some_iff, Option.pure_def, Option.some.injEq, reduceCtorEq, and_false, exists_false] at h; done)
   | (simp_all only [reduceCtorEq]; done)
   | (simp only [Option.bind_eq_bind, Option.bind_eq_some_iff, Option.map_eq_some_iff, Option.pure_def, Option.some.injEq, reduceCtorEq, and_false, exists_false] at h; obtain ⟨_, _, h⟩ := h; split at h <;> simp only [Option.bind_eq_bind, Option.bind_eq_some_iff, Option.map_eq_some_iff, Option.pure_def, Option.some.injEq, reduceCtorEq, and_false, exists_false] at h; done)
 | makeFunc fn first caps =>
  exfalso
  cases fn <;> simp only [ho] at h <;> (repeat' split at h) <;> first
   | (cases h; done)
   | (simp only [Option.bind_eq_bind, Option.bind_eq_some_iff, Option.map_eq_some_iff, Option.pure_def, Option.some.injEq, reduceCtorEq, and_false, exists_false] at h; done)
 | _ =>
  exfalso
  simp only [ho] at h
  revert h
  (repeat' split)
  all_goals intro h
  all_goals first
   | (cases h; done)
   | (simp only [Option.bind_eq_bind, Option.bind_eq_some_iff, Option.map_eq_some_iff, Option.pure_def, Option.some.injEq, reduceCtorEq, and_false, exists_false] at h; done)
   | (simp_all only [reduceCtorEq]; done)
   | (simp only [Option.bind_eq_bind, Option.bind_eq_some_iff, Option.map_eq_some_iff, Option.pure_def, Option.some.injEq, reduceCtorEq, and_false, exists_false] at h; obtain ⟨_, _, h⟩ := h; split at h <;> simp only [Option.bind_eq_bind, Option.bind_eq_some_iff, Option.map_eq_some_iff, Option.pure_def, Option.some.injEq, reduceCtorEq, and_false, exists_false] at h; done)
section
variable {P : Program} {Γ : FuncId → Option Con}
def modC (C : Ctx) (l : Nat) (r : Loop) : Nat → Ctx := fun n => match left n with
 | true => { C with w0 := C.w0.putObj l (.loop r) }
 | false => C
theorem modC_t {C : Ctx} {l n : Nat} {r : Loop} (h : left n = true) : modC C l r n = { C with w0 := C.w0.putObj l (.loop r) } := by unfold modC; rw [h]
theorem modC_f {C : Ctx} {l n : Nat} {r : Loop} (h : left n = false) : modC C l r n = C := by unfold modC; rw [h]
theorem modC_mod (C : Ctx) (l : Nat) (r : Loop) : Mod (modC C l r) := by
 refine ⟨fun n m h => by unfold modC; rw [h], fun n m => ?_⟩
 have key : ∀ n, (modC C l r n).k = C.k := fun n => by
  cases hb : left n with
  | true => rw [modC_t hb]
  | false => rw [modC_f hb]
 rw [key n, key m]
theorem it_ok (T : Tab P Γ) {C : Ctx} {it : It} {fn0 : FuncId} {T0 : Array Value} {pa : Array Tmp} {ca cb : Code} {D : Nat} (R : Rng P C it fn0 T0 pa ca cb D) : ExOK P (modC C it.l (recLeft fn0 T0 pa ca cb D)) none (exIt Γ it) := by
 intro o io PL s Fr a w fresh K Q hx hdst h hfr hk hnx hle hv
 by_cases hcv : ∃ g ys y, io.op = .callv g ys ∧ s.ev g = some (.v y)
 ·obtain ⟨g, ys, y, e1, e2⟩ := hcv
  rw [e1] at hx
  obtain ⟨c, t, ho, hc, rfl, hys⟩ := cOp_callv hx
  unfold exIt at hv
  rw [e1] at hv
  simp only [e2] at hv
  cases hvs : s.evs ys with
  | none => rw [hvs] at hv; exact hv.elim
  | some vs =>
  rw [hvs] at hv
  simp only [] at hv
  have hv0 : left s.nx = false ∧ y = .func (.yield it.l) #[] #[] ∧ exRound Γ it io.dst vs s K := by
   revert hv
   cases hb : left s.nx with
   | true => intro hv; simp only [hb] at hv
   | false => intro hv; simp only [hb] at hv; exact ⟨rfl, hv⟩
  clear hv
  obtain ⟨hb, rfl, hv⟩ := hv0
  rw [modC_f hb] at h hk
  have d1 := ev_den h (x := .tmp t) rfl e2
  have d2 := dens_args h hys hvs
  generalize hq : a.eval (.tmp t) = q at d1
  cases d1
  obtain ⟨hl, hsz, hR⟩ := round_run T R h (by omega) hnx d2 hv
  have hrun : (execOp a.eval o).run P w = .ok (.round it.l fn0 ((it.ps.zip (c.args.toList.map a.eval)).foldl (fun t (p, v) => t.setIfInBounds p v) T0) ca cb) w := by
   have hargs : (c.args.toList.map a.eval).toArray = c.args.map a.eval := by rw [← Array.toList_map]
   have hs2 : (c.args.map a.eval).size = (recOf fn0 T0 pa ca cb D).params.size := by show (c.args.map a.eval).size = pa.size; rw [← hargs]; simpa using hsz
   have hy := run_yield (P := P) (args := c.args.map a.eval) hl hs2
   have hfold : (((recOf fn0 T0 pa ca cb D).params.zip (c.args.map a.eval)).foldl (fun tmps (t, a) => tmps.setIfInBounds t a) (recOf fn0 T0 pa ca cb D).tmps) = (it.ps.zip (c.args.toList.map a.eval)).foldl (fun t (p, v) => t.setIfInBounds p v) T0 := by
    rw [← R.ps, ← Array.foldl_toList, Array.toList_zip]
    simp [recOf]
   rw [hfold] at hy
   simp [execOp, ho, resolve, hc, hq, Deferred.ofValue, invoke]
   exact hy
  refine ⟨fun _ _ => trivial, ?_⟩
  rw [Oper.semAt_plain (WF none) _ _ (cOp_nodefer hx), hrun]
  refine ⟨(fun hx => by cases hx), ?_⟩
  refine RoundIn.mono hR ?_
  rintro e w' (⟨rfl, PL', s2, hK, hn, hb2, hS⟩ | ⟨rfl, PL', s2, hK, hn, hS⟩)
  ·have e1 : ((⟨s.fr, s2.hp, s2.nx⟩ : St).put io.dst (some (.v (.bool true))) []).nx = s2.nx := rfl
   refine ⟨PL', _, hK, hn, ?_, ?_⟩
   ·cases io.dst <;> simp [St.put, fput_length]
   ·rw [e1, modC_f hb2]
    have := hS.pure io.dst (some (.v (.bool true))) (.bool true) (fun v hv => by injection hv with hv; subst hv; exact .v _)
    rw [hdst] at this ⊢
    refine this.fr_mono fun i hi => ?_
    rcases hi with ⟨h1, h2, _⟩ | hi
    ·exact .inl ⟨h1, h2⟩
    ·exact .inr hi
  ·have e1 : ((⟨s.fr, s2.hp, s2.nx + 1000000⟩ : St).put io.dst (some (.v (.bool false))) []).nx = s2.nx + 1000000 := rfl
   refine ⟨PL', _, hK, by rw [e1]; omega, ?_, ?_⟩
   ·cases io.dst <;> simp [St.put, fput_length]
   ·rw [e1, modC_t (left_t (by omega))]
    have hS2 : Sat { C with w0 := C.w0.putObj it.l (.loop (recLeft fn0 T0 pa ca cb D)) } PL' ⟨s.fr, s2.hp, s2.nx + 1000000⟩ (fun i => (Fr i ∧ i < s.nx) ∨ s2.nx ≤ i) a w' := { hS.toHSat with len := hS.len, def_ := hS.def_, slot := hS.slot }
    have := hS2.pure io.dst (some (.v (.bool false))) (.bool false) (fun v hv => by injection hv with hv; subst hv; exact .v _)
    rw [hdst] at this ⊢
    refine this.fr_mono fun i hi => ?_
    rcases hi with ⟨h1, h2, _⟩ | hi
    ·exact .inl ⟨h1, h2⟩
    ·exact .inr (by omega)
 ·have : exIt Γ it io fresh s K = vcExec Γ io fresh s K := by
   unfold exIt
   split
   ·rename_i g ys e1
    split
    ·rename_i y e2
     exact absurd ⟨g, ys, y, e1, e2⟩ hcv
    ·rfl
   ·rfl
  rw [this] at hv
  exact exec_ok T o io PL s Fr a w fresh K Q hx hdst h hfr hk hnx hle hv
def ItOK (P : Program) (f : FuncId) (ic : IC) (nt : Nat) : Prop := ∃ fn code, P.funcs[f]? = some fn ∧ (fn.name != "runtime.NumGoroutine") = true ∧ fn.body = some code ∧ comp P code = some ic ∧ fn.ntmps = nt ∧ fn.results = #[]
theorem ItOK.of {f : FuncId} {fn : Func} {ic : IC} {nt : Nat} (hf : P.funcs[f]? = some fn) (hc : compF P fn = some (ic, [], nt)) (hn : (fn.name != "runtime.NumGoroutine") = true) (hr : fn.results = #[]) : ItOK P f ic nt := by
 simp only [compF, Option.bind_eq_bind, Option.bind_eq_some_iff, Option.pure_def, Option.some.injEq, Prod.mk.injEq] at hc
 obtain ⟨c, h1, ic', h2, rv', h3, rfl, rfl, h4⟩ := hc
 exact ⟨fn, c, hf, hn, h1, h2, h4, hr⟩
structure LoopI (P : Program) (CM : Nat → Ctx) (ex : Io → Nat → St → (St → Prop) → Prop) (c : IC) (s : St) (K : Ex → St → Prop) : Prop where
 out : ExOK P CM none ex → ∀ (code : Code) (PL : Nat → Option Pl) (a : Act) (w : World) (Q : Exit → Act → World → Prop), comp P code = some c → SatM CM PL s a w → KQM CM K Q → code.wpIn (WF none) 0 P Q a w
theorem map_mark : ∀ {L M : List Nat}, L.map Mark = M.map Mark → L = M
 | [], [], _ => rfl
 | [], m :: M, h => by cases h
 | l :: L, [], h => by cases h
 | l :: L, m :: M, h => by
  simp only [List.map_cons, List.cons.injEq] at h
  obtain ⟨h1, h2⟩ := h
  unfold Mark at h1
  injection h1 with h1 _
  injection h1 with h1
  rw [h1, map_mark h2]
theorem push_at (A : Array Obj) (o : Obj) : (A.push o)[A.size]? = some o := by simp
theorem size_alloc2 (w : World) (o o' : Obj) : ((w.alloc o).alloc o').heap.size = w.heap.size + 2 := by simp
theorem LoopOK.rfn (T : Tab P Γ) {C : Ctx} {f : FuncId} {ic : IC} {nt : Nat} (hI : ItOK P f ic nt) {x : Opnd} {ps : List Nat} {asg body : IC} {s s0 : St} {caps : List SV} {K : Ex → St → Prop} (h0 : Le C s s0) (hb0 : left s0.nx = false) (hx : s0.ev x = some (.fn f caps))
  (hv : ∀ (CM : Nat → Ctx) (l : Nat), Mod CM → (∀ n, (CM n).k = s0.nx) → Hidden (vx (exIt Γ ⟨l, s0.fr, ps, asg, body⟩) (LoopI P CM (exIt Γ ⟨l, s0.fr, ps, asg, body⟩)) ic ⟨(SV.v (.func (.yield l) #[] #[]) :: caps).map some ++ List.replicate (nt - (caps.length + 1)) none, s0.hp, s0.nx⟩
   (fun e s' => match e with
    | .exit _ => False
    | .nxt => (match left s'.nx with | true => K .ret ⟨s0.fr, s'.hp, s'.nx⟩ | false => K .nxt ⟨s0.fr, s'.hp, s'.nx⟩)
    | .ret => (match left s'.nx with | true => K .ret ⟨s0.fr, s'.hp, s'.nx⟩ | false => K .nxt ⟨s0.fr, s'.hp, s'.nx⟩)))) : LoopOK P C Γ (.rfn x ps asg body) s K where
 out := by
  intro code PL a w Q hc hS hQ
  obtain ⟨g, pa, ca, cb, rfl, hg, hpa, hca, hcb⟩ := comp_rfn hc
  obtain ⟨PL0, S0⟩ := h0 PL a w hS
  obtain ⟨fn, icode, hf, hnm, hbody, hcomp, hnt, hres⟩ := hI
  have hbs : fn.body.isSome = true := by rw [hbody]; rfl
  have dx := ev_den S0.1 hg hx
  generalize hq : a.eval g = q at dx
  cases dx with
  | fn _ _ cs hl hd =>
  refine (wpIn_wide (n := 0)).1 (wpIn_rangeFunc (F := Fence.wide) ?_)
  intro fn0 _
  obtain ⟨W1, hW1⟩ : ∃ W1, W1 = (w.alloc (.deferred (some []))).alloc (.loop (recOf fn0 a.tmps pa ca cb w.heap.size)) := ⟨_, rfl⟩
  have hs1 : W1.heap.size = w.heap.size + 2 := by rw [hW1]; exact size_alloc2 _ _ _
  have hsame : ∀ b, b < w.heap.size → W1.heap[b]? = w.heap[b]? := fun b hb => by
   rw [hW1, Below.heap_alloc _ _ _ (by simp; omega), Below.heap_alloc _ _ _ hb]
  have hD1 : W1.heap[w.heap.size]? = some (.deferred (some [])) := by
   rw [hW1, Below.heap_alloc _ _ _ (by simp)]
   show (w.heap.push _)[w.heap.size]? = _
   simp
  have hL1 : W1.heap[w.heap.size + 1]? = some (.loop (recOf fn0 a.tmps pa ca cb w.heap.size)) := by
   rw [hW1]
   show ((w.alloc (.deferred (some []))).heap.push _)[w.heap.size + 1]? = _
   have e1 : (w.alloc (.deferred (some []))).heap.size = w.heap.size + 1 := by simp
   have e2 := push_at (w.alloc (.deferred (some []))).heap (.loop (recOf fn0 a.tmps pa ca cb w.heap.size))
   rw [e1] at e2
   exact e2
  have hW1o : W1.os = w.os ∧ W1.tape = w.tape ∧ W1.output = w.output := by rw [hW1]; exact ⟨rfl, rfl, rfl⟩
  refine ⟨w.heap.size + 1, [Mark w.heap.size], W1, { target := .fn (.func f) cs.toArray, args := #[.func (.yield (w.heap.size + 1)) #[] #[]] }, W1, f, #[.func (.yield (w.heap.size + 1)) #[] #[]] ++ cs.toArray, W1, ?_, ?_, fun _ _ => trivial, ?_, (fun hx => by cases hx), ?_⟩
  ·rw [hW1]; exact run_enterLoop_outer _ _ _ _ _
  ·simp only [resolve, hq]
   simp [go_sem, Deferred.ofValue, rangeCall, resolve, hq]
  ·simp [invoke, go_sem, run_callFunc hf hnm hbs]
  ·-- the function that the range runs over
   let C1 : Ctx := ⟨W1, fun b => C.Z b ∨ b = w.heap.size ∨ b = w.heap.size + 1, Own PL0 s0.hp, s0.nx, PL0, W1.heap.size⟩
   have hA1 : ∀ b, b < w.heap.size → Avo C1 PL0 s0.hp b → Avo C PL0 s0.hp b := by
    rintro b hb (hz | ho)
    ·rcases hz with hz | hz | hz
     ·exact .inl hz
     ·omega
     ·omega
    ·exact .inr ho
   have hHS : HSat C1 PL0 s0.hp (fun i => s0.nx ≤ i) W1 := by
    refine ⟨fun id c hc => (S0.1.ck id c hc).mono (fun _ _ h => h) (by omega) (fun b hb _ => hsame b hb) hA1 (fun p b hp ha => hsame b ((S0.1.ck id c hc).lt hp ha)), S0.1.dj, fun b hb => ⟨?_, .inl hb⟩, rfl, rfl, rfl, Nat.le_refl _, fun _ _ _ => rfl, ?_, S0.1.fr, fun _ _ => rfl⟩
    ·have hlt := S0.1.toHSat.lt hb
     rintro (hz | hz | hz)
     ·exact (S0.1.own b hb).1 hz
     ·omega
     ·omega
    ·refine ⟨?_, fun g r hg => (S0.1.toHSat.glob hg).mono (fun _ _ h => by cases h) (by show w.heap.size ≤ W1.heap.size; omega) (fun b hb _ => hsame b hb) hA1⟩
     rintro b (hz | hz | hz)
     ·have h1 := S0.1.zlt.1 b hz; have h2 := S0.1.size; show b < W1.heap.size; omega
     ·show b < W1.heap.size; omega
     ·show b < W1.heap.size; omega
   have hden : ∀ v y, Den PL0 w (Avo C PL0 s0.hp) v y → Den PL0 W1 (Avo C1 PL0 s0.hp) v y := fun v y d => d.mono (fun _ _ h => h) (by omega) (fun b hb _ => hsame b hb) hA1
   have lt_of : ∀ {X : World} {PL' hp' Fr' w'}, X.heap.size = W1.heap.size → X.os = w.os → X.tape = w.tape → X.output = w.output → (∀ b, b < w.heap.size → X.heap[b]? = w.heap[b]?) → HSat { C1 with w0 := X } PL' hp' Fr' w' → Lt none C.Z PL0 s0.hp s0.nx w PL' hp' w' := by
    intro X PL' hp' Fr' w' hX1 hX2 hX3 hX4 hX5 h
    refine ⟨fun i hi => h.arg i hi, h.os.trans hX2, h.tape.trans hX3, h.output.trans hX4, ?_, ?_, ?_⟩
    ·have := h.size; show w.heap.size ≤ w'.heap.size; have h2 : ({ C1 with w0 := X } : Ctx).w0.heap.size = X.heap.size := rfl; omega
    ·intro b hb ho _
     exact (h.old b (by show b < X.heap.size; omega) ho).trans (hX5 b hb)
    ·intro b hb
     obtain ⟨h1, h2⟩ := h.own b hb
     refine ⟨fun hz => h1 (.inl hz), ?_⟩
     rcases h2 with h2 | h2
     ·exact .inl h2
     ·have h3 : ({ C1 with w0 := X } : Ctx).w0.heap.size = X.heap.size := rfl; exact .inr (by omega)
   have hfrl := S0.1.toHSat.frl (nx := s0.nx) (fun i hi => hi)
   have R : Rng P C1 ⟨w.heap.size + 1, s0.fr, ps, asg, body⟩ fn0 a.tmps pa ca cb w.heap.size := by
    refine ⟨hca, hcb, hpa, S0.1.len, ?_, hL1, ?_⟩
    ·intro PL' hp' Fr' w' h i v hi
     have d0 := S0.1.slot i v hi
     have d1 := hden _ _ d0
     refine d1.mono (fun j p hp => by rw [h.arg j (hfrl j p hp)]; exact hp) (by exact h.size) (fun b hb hv => h.old b hb (fun hx => hv (.inr hx))) (fun b hb hv => ?_)
     rcases hv with hz | ho
     ·exact .inl hz
     ·rcases (h.own b ho).2 with h2 | h2
      ·exact .inr h2
      ·have h3 : C1.w0.heap.size = W1.heap.size := rfl; omega
    ·intro ho
     have h5 : w.heap.size + 1 < w.heap.size := S0.1.toHSat.lt ho
     omega
   refine callsIn_of_wp_marks (F := Fence.wide) (n := 0) hf hbody trivial ?_
   have hSI : SatN C1 PL0 ⟨(SV.v (.func (.yield (w.heap.size + 1)) #[] #[]) :: caps).map some ++ List.replicate (nt - (caps.length + 1)) none, s0.hp, s0.nx⟩ { tmps := #[Value.func (.yield (w.heap.size + 1)) #[] #[]] ++ cs.toArray ++ Array.replicate (fn.ntmps - (#[Value.func (.yield (w.heap.size + 1)) #[] #[]] ++ cs.toArray).size) undef, defers := [] } W1 := by
    refine ⟨{ hHS with len := ?_, def_ := .nil (Nat.le_refl _), slot := ?_ }, Nat.le_refl _⟩
    ·simp [hnt, hl]
     omega
    ·intro i v hi
     cases i with
     | zero =>
      simp only [List.map_cons, List.cons_append, fget] at hi
      injection hi with hi
      subst hi
      have : (#[Value.func (.yield (w.heap.size + 1)) #[] #[]] ++ cs.toArray ++ Array.replicate (fn.ntmps - (#[Value.func (.yield (w.heap.size + 1)) #[] #[]] ++ cs.toArray).size) undef).getD 0 undef = .func (.yield (w.heap.size + 1)) #[] #[] := by
       simp [Array.getD, Array.getElem_append]
      rw [this]
      exact .v _
     | succ i =>
      simp only [List.map_cons, List.cons_append, fget] at hi
      have key : ∀ (L : List SV) (m j : Nat), fget (L.map some ++ List.replicate m none) j = some v → ∃ hj : j < L.length, L[j] = v := by
       intro L
       induction L with
       | nil =>
        intro m j h
        exfalso
        have : ∀ (m j : Nat), fget (List.replicate m (none : Option SV)) j = none := by
         intro m
         induction m with
         | zero => intro j; rfl
         | succ m ih => intro j; cases j with
          | zero => rfl
          | succ j => exact ih j
        simp only [List.map_nil, List.nil_append, this] at h
        cases h
       | cons y L ih =>
        intro m j h
        cases j with
        | zero => simp only [List.map_cons, List.cons_append, fget] at h; injection h with h; exact ⟨by simp, h⟩
        | succ j =>
         obtain ⟨hi, e⟩ := ih m j h
         exact ⟨by simpa using hi, by simpa using e⟩
      obtain ⟨hj, rfl⟩ := key caps _ i hi
      have hj2 : i < cs.length := by omega
      have e : (#[Value.func (.yield (w.heap.size + 1)) #[] #[]] ++ cs.toArray ++ Array.replicate (fn.ntmps - (#[Value.func (.yield (w.heap.size + 1)) #[] #[]] ++ cs.toArray).size) undef).getD (i + 1) undef = cs[i] := by
       simp [Array.getD, Array.getElem_append, hj2]
       try omega
      rw [e]
      exact hden _ _ (hd i hj hj2)
   have hmod := modC_mod C1 (w.heap.size + 1) (recLeft fn0 a.tmps pa ca cb w.heap.size)
   have hCk : ∀ n, (modC C1 (w.heap.size + 1) (recLeft fn0 a.tmps pa ca cb w.heap.size) n).k = s0.nx := fun n => by
    rw [hmod.k n 0, modC_f rfl]
   have hbig : ∀ {s' : St} {PL' : Nat → Option Pl} {a' : Act} {w' : World}, SatM (modC C1 (w.heap.size + 1) (recLeft fn0 a.tmps pa ca cb w.heap.size)) PL' s' a' w' → ∃ (X : World) (r : Loop), SatN { C1 with w0 := X } PL' s' a' w' ∧ X.heap.size = W1.heap.size ∧ X.os = w.os ∧ X.tape = w.tape ∧ X.output = w.output ∧ (∀ b, b ≠ w.heap.size + 1 → X.heap[b]? = W1.heap[b]?) ∧
     X.heap[w.heap.size + 1]? = some (.loop r) ∧ r.state ≠ .busy ∧ r.pending = (match left s'.nx with | true => some Code.ret | false => none) := by
    intro s' PL' a' w' h
    unfold SatM at h
    cases hb : left s'.nx with
    | true =>
     rw [modC_t hb] at h
     refine ⟨_, recLeft fn0 a.tmps pa ca cb w.heap.size, h, by simp [C1], hW1o.1, hW1o.2.1, hW1o.2.2, fun b hb => putObj_get hb, World.putObj_heap_same (by show w.heap.size + 1 < W1.heap.size; omega), by simp [recLeft], rfl⟩
    | false =>
     rw [modC_f hb] at h
     exact ⟨W1, recOf fn0 a.tmps pa ca cb w.heap.size, h, rfl, hW1o.1, hW1o.2.1, hW1o.2.2, fun _ _ => rfl, hL1, by simp [recOf], rfl⟩
   refine vx_sound hmod (r := none) (it_ok T R) (L := LoopI P (modC C1 (w.heap.size + 1) (recLeft fn0 a.tmps pa ca cb w.heap.size)) (exIt Γ ⟨w.heap.size + 1, s0.fr, ps, asg, body⟩)) (fun c s K hL => hL.out (it_ok T R)) icode ic _ _ PL0 _ W1 _ hcomp (hv _ (w.heap.size + 1) hmod hCk).out ?_ ?_
   ·show SatN (modC C1 (w.heap.size + 1) (recLeft fn0 a.tmps pa ca cb w.heap.size) s0.nx) _ _ _ _
    rw [modC_f hb0]
    exact hSI
   have fin : ∀ (s' : St) (PL' : Nat → Option Pl) (a' : Act) (w' : World), (match left s'.nx with | true => K .ret ⟨s0.fr, s'.hp, s'.nx⟩ | false => K .nxt ⟨s0.fr, s'.hp, s'.nx⟩) → SatM (modC C1 (w.heap.size + 1) (recLeft fn0 a.tmps pa ca cb w.heap.size)) PL' s' a' w' → LeavesInM Fence.wide 0 P fn a'.tmps (rangePost Fence.wide 0 P (w.heap.size + 1) Q { a with defers := [Mark w.heap.size] ++ a.defers }) a'.defers .returning w' := by
    intro s' PL' a' w' hK hSM
    obtain ⟨X, r, hS', hX1, hX2, hX3, hX4, hX5, hX6, hX7, hX8⟩ := hbig hSM
    refine leaves_marks (tm := a'.tmps) (s := s') (C := { C1 with w0 := X }) (PL := PL') (Nat.le_of_eq hX1) ?_ _ a' w' rfl rfl hS'
    intro a2 w2 _ S2
    have t2 := lt_of hX1 hX2 hX3 hX4 (fun b hb => (hX5 b (by omega)).trans (hsame b hb)) S2.1.toHSat
    have hl2 : w2.heap[w.heap.size + 1]? = some (.loop r) := (S2.1.old _ (by show w.heap.size + 1 < X.heap.size; omega) R.O).trans hX6
    have hnD : ¬ Own PL0 s0.hp w.heap.size := fun ho => by have := S0.1.toHSat.lt ho; omega
    have hD2 : w2.heap[w.heap.size]? = some (.deferred (some [])) := (S2.1.old _ (by show w.heap.size < X.heap.size; omega) hnD).trans ((hX5 _ (by omega)).trans hD1)
    refine ⟨.tuple #[], by simp [results, hres], ?_⟩
    refine ⟨r.pending, _, run_endLoop hl2 hX7, ?_⟩
    have hSat : SatN C PL' ⟨s0.fr, s'.hp, s'.nx⟩ { a with defers := [Mark w.heap.size] ++ a.defers } (w2.putObj (w.heap.size + 1) (.loop { r with state := .exhausted })) := by
     refine ⟨?_, ?_⟩
     ·have H1 : HSat C PL' s'.hp (fun i => s'.nx ≤ i) w2 := S0.1.toHSat.un S0.2 t2 (fun id c hc => (S2.1.ck id c hc).mono (fun _ _ h => h) (Nat.le_refl _) (fun _ _ _ => rfl) (fun b _ hb => by
        rcases hb with hz | ho
        ·exact .inl (.inl hz)
        ·exact .inr ho) (fun _ _ _ _ => rfl)) S2.1.dj S2.1.fr (fun b hb => by cases hb)
      have hsz0 := S0.1.size
      have H2 := H1.nc hl2 rfl (show C.w0.heap.size ≤ w.heap.size + 1 by omega) (o := .loop { r with state := .exhausted })
      refine { H2 with len := S0.1.len, def_ := ?_, slot := ?_ }
      ·have e0 : DefOK (Avo C PL0 s0.hp) C.n0 w a.defers := S0.1.def_
       have e1 : DefOK (Avo C PL' s'.hp) C.n0 w2 a.defers := e0.lt t2
       have e2 : DefOK (Avo C PL' s'.hp) C.n0 (w2.putObj (w.heap.size + 1) (.loop { r with state := .exhausted })) a.defers := e1.nc hl2 (fun x e => by cases e)
       obtain ⟨g0, L, g1, g2, g3⟩ := e2
       obtain ⟨k0, L', k1, k2, k3⟩ := e0
       have hLL : L = L' := by
        have : L.map Mark = L'.map Mark := by rw [← g1, ← k1]
        exact map_mark this
       subst hLL
       refine ⟨g0, w.heap.size :: L, by rw [List.map_cons, ← g1]; rfl, List.nodup_cons.2 ⟨fun hm => ?_, g2⟩, fun E hE => ?_⟩
       ·have := (Array.getElem?_eq_some_iff.1 (k3 _ hm).1).1
        omega
       ·rcases List.mem_cons.1 hE with rfl | hE
        ·refine ⟨by rw [putObj_get (by omega)]; exact hD2, ?_, k0⟩
         rintro (hz | ho)
         ·have h1 := S0.1.zlt.1 _ hz; omega
         ·exact (S2.1.own _ ho).1 (.inr (.inl rfl))
        ·exact g3 E hE
      ·intro i v hi
       have d0 : Den PL0 w (Avo C PL0 s0.hp) v (a.tmps.getD i undef) := S0.1.slot i v hi
       have d1 : Den PL' w2 (Avo C PL' s'.hp) v (a.tmps.getD i undef) := d0.lt hfrl t2
       exact d1.nc hl2 rfl
     ·have := S0.2
      have h2 : C1.k ≤ s'.nx := S2.2
      have h3 : C1.k = s0.nx := rfl
      show C.k ≤ s'.nx
      omega
    generalize w2.putObj (w.heap.size + 1) (.loop { r with state := .exhausted }) = wE at hSat ⊢
    rw [hX8]
    cases hb : left s'.nx with
    | true =>
     rw [hb] at hK
     exact wpIn_ret (hQ .ret _ PL' _ _ hK hSat)
    | false =>
     rw [hb] at hK
     exact hQ .nxt _ PL' _ _ hK hSat
   intro e s' PL' a' w' hK hS'
   cases e with
   | nxt => exact fin s' PL' a' w' hK hS'
   | ret => exact fin s' PL' a' w' hK hS'
   | exit _ => exact hK.elim
end
end Go.Proofs.YtbkcmpggacbikaaDoor
end
section
/-
  A walk that reckons, told by plain functions.
-/
set_option linter.unusedVariables false
set_option linter.unusedSimpArgs false
namespace Go.Proofs.YtbkcmpggacbikaaDoor
open Go.RowKit
def altC (x y : Option CEff) : Option CEff := match x with | some e => some e | none => y
theorem altC_inv {x y : Option CEff} {e : CEff} (h : altC x y = some e) : x = some e ∨ y = some e := by
 cases x with
 | none => exact .inr h
 | some a => exact .inl h
theorem LoopOK.iter {P : Program} {C : Ctx} {Γ : FuncId → Option Con} (T : Tab P Γ) (hD : DrawOK P C Γ) {c : IC} {s : St} {K : Ex → St → Prop} {X T' : Type} {B : X → Option (X ⊕ T')} {x0 : X} {t : T'} (h : iter B x0 = some t) (inv : X → St) (h0 : ∀ x1, x0 = x1 → Le C s (inv x1))
  (hr : ∀ x b, B x = some b → (∀ t', b = .inr t' → t' = t) → Hidden (vc Γ (LoopOK P C Γ) c (inv x) (fun e s' => match e with | .nxt => (∃ x', b = .inl x') ∧ ∀ x', b = .inl x' → Le C s' (inv x') | .ret => K .ret s' | .exit id => K (.exit id) s'))) : LoopOK P C Γ (.loop c) s K where
 out := by
  intro code PL a w Q hc hs hQ
  obtain ⟨code', e0, hc'⟩ := comp_loop hc
  subst e0
  clear hc
  have hc := hc'
  clear hc'
  obtain ⟨code, e0⟩ : ∃ code, code = code' := ⟨_, rfl⟩
  subst e0
  obtain ⟨n, hn⟩ := iter_some.1 h
  obtain ⟨PL0, h1⟩ := h0 x0 rfl PL a w hs
  refine wp_loop_ghost (fun n a w => ∃ x PL, stepsN B n x = some t ∧ SatN C PL (inv x) a w) n ⟨x0, PL0, hn, h1⟩ ?_
  rintro n a w ⟨x, PL, hm, hx⟩
  cases n with
  | zero => cases hm
  | succ m =>
   simp only [stepsN] at hm
   cases hB : B x with
   | none => rw [hB] at hm; cases hm
   | some b =>
    rw [hB] at hm
    refine vc_sound T hD code c (inv x) _ PL a w _ hc ((hr x b hB (by
     intro t' e
     subst e
     simp only [] at hm
     exact Option.some.inj hm)).out) hx ?_
    intro e s' PL' a' w' hK hS
    cases e with
    | nxt =>
     obtain ⟨⟨x', rfl⟩, hle⟩ := hK
     obtain ⟨PL2, h2⟩ := hle x' rfl PL' a' w' hS
     exact ⟨m, by omega, x', PL2, hm, h2⟩
    | ret => exact hQ .ret s' PL' a' w' hK hS
    | exit id => exact hQ (.exit id) s' PL' a' w' hK hS
theorem wpIn_loop_ghost {F : Fence} {n : Nat} {P : Program} {Q : Exit → Act → World → Prop} {a : Act} {w : World} {c : Code} (I : Nat → Act → World → Prop) (n₀ : Nat) (h₀ : I n₀ a w)
  (round : ∀ k a w, I k a w → c.wpIn F n P (Exit.then (fun a' w' => ∃ n', n' < k ∧ I n' a' w') Q) a w) : (Code.loop c).wpIn F n P Q a w := by
 refine wpIn_loop (fun a w => ∃ k, I k a w) (fun a w => leastOf (fun k => I k a w)) ⟨n₀, h₀⟩ ?_
 intro a w hI
 refine wpIn_mono (round _ a w (leastOf_spec hI).1) ?_
 intro e a' w' hq
 cases e with
 | normal =>
  obtain ⟨n', hlt, hI'⟩ := hq
  exact ⟨⟨n', hI'⟩, Nat.lt_of_le_of_lt ((leastOf_spec ⟨n', hI'⟩).2 n' hI') hlt⟩
 | ret => exact hq
 | exit id => exact hq
 | goto l => exact hq
 | panic ch => exact hq
 | outgrown => exact hq
structure LeR (CM : Nat → Ctx) (s t : St) : Prop where
 a : left s.nx = false
 b : left t.nx = false
 le : Le (CM 0) s t
theorem leR_auto {CM : Nat → Ctx} {k : Nat} (hk : (CM 0).k = k) {s t : St} (a : left s.nx = false) (b : left t.nx = false) (h : leA k s t) : LeR CM s t := ⟨a, b, le_auto hk h⟩
theorem LeR.sat {CM : Nat → Ctx} (hM : Mod CM) {s t : St} (h : LeR CM s t) {PL : Nat → Option Pl} {a : Act} {w : World} (hS : SatM CM PL s a w) : ∃ PL', SatM CM PL' t a w := by
 unfold SatM at hS ⊢
 rw [hM.eq s.nx 0 (by rw [h.a]; rfl)] at hS
 rw [hM.eq t.nx 0 (by rw [h.b]; rfl)]
 exact h.le PL a w hS
theorem LoopI.iter {P : Program} {CM : Nat → Ctx} (hM : Mod CM) {ex : Io → Nat → St → (St → Prop) → Prop} {c : IC} {s : St} {K : Ex → St → Prop} {X T' : Type} {B : X → Option (X ⊕ T')} {x0 : X} {t : T'} (h : iter B x0 = some t) (inv : X → St) (h0 : ∀ x1, x0 = x1 → LeR CM s (inv x1))
  (hr : ∀ x b, B x = some b → (∀ t', b = .inr t' → t' = t) → Hidden (vx ex (LoopI P CM ex) c (inv x) (fun e s' => match e with | .nxt => (∃ x', b = .inl x') ∧ ∀ x', b = .inl x' → LeR CM s' (inv x') | .ret => K .ret s' | .exit id => K (.exit id) s'))) : LoopI P CM ex (.loop c) s K where
 out := by
  intro hex code PL a w Q hc hs hQ
  obtain ⟨code', e0, hc'⟩ := comp_loop hc
  subst e0
  clear hc
  obtain ⟨n, hn⟩ := iter_some.1 h
  obtain ⟨PL0, h1⟩ := (h0 x0 rfl).sat hM hs
  refine wpIn_loop_ghost (fun n a w => ∃ x PL, stepsN B n x = some t ∧ SatM CM PL (inv x) a w) n ⟨x0, PL0, hn, h1⟩ ?_
  rintro n a w ⟨x, PL, hm, hx⟩
  cases n with
  | zero => cases hm
  | succ m =>
   simp only [stepsN] at hm
   cases hB : B x with
   | none => rw [hB] at hm; cases hm
   | some b =>
    rw [hB] at hm
    refine vx_sound hM hex (L := LoopI P CM ex) (fun c s K hL => hL.out hex) code' c (inv x) _ PL a w _ hc' ((hr x b hB (by
     intro t' e
     subst e
     simp only [] at hm
     exact Option.some.inj hm)).out) hx ?_
    intro e s' PL' a' w' hK hS
    cases e with
    | nxt =>
     obtain ⟨⟨x', e1⟩, hle⟩ := hK
     subst e1
     obtain ⟨PL2, h2⟩ := (hle x' rfl).sat hM hS
     exact ⟨m, by omega, x', PL2, hm, h2⟩
    | ret => exact hQ .ret s' PL' a' w' hK hS
    | exit id => exact hQ (.exit id) s' PL' a' w' hK hS
end Go.Proofs.YtbkcmpggacbikaaDoor
end
section
/-
  What the functions do, told plainly (printed by a program of ours).
-/
set_option linter.unusedVariables false
set_option linter.unusedSimpArgs false
namespace Go.Proofs.YtbkcmpggacbikaaDoor
noncomputable def cloneB (l : List UInt8) : Option (List UInt8) := if ((xlen l : Nat) : Int) * ((1 : Nat) : Int) ≤ 140737488355328 then some l else none
def joinL (l : List D) : List UInt8 := (l.map D.toS).flatten
noncomputable def joinB (l : List D) : Option (List UInt8) := if 2 ≤ xlen l ∧ xlen l ≤ 1000 ∧ xlen (joinL l) ≤ 140737488355328 then some (joinL l) else none
noncomputable def F_block_New (x1 : Int) : Option ((Unit) ⊕ ((List D))) :=
 if (ilt x1 (1 : Int)) = true then
  some (.inl ())
 else
  if (ilt (1024 : Int) x1) = true then
   some (.inl ())
  else
   if 0 ≤ x1 ∧ x1 ≤ x1 ∧ x1 * ((64 : Nat) : Int) ≤ 140737488355328 ∧ x1 ≤ 9223372036854775807 then
    some (.inr (@lrep D (toN x1) (D.l [(D.i (0 : Int)), (D.i (0 : Int)), (D.i (0 : Int)), (D.i (0 : Int)), (D.i (0 : Int)), (D.i (0 : Int)), (D.i (0 : Int)), (D.i (0 : Int)), (D.i (0 : Int)), (D.i (0 : Int)), (D.i (0 : Int)), (D.i (0 : Int)), (D.i (0 : Int)), (D.i (0 : Int)), (D.i (0 : Int)), (D.i (0 : Int)), (D.i (0 : Int)), (D.i (0 : Int)), (D.i (0 : Int)), (D.i (0 : Int)), (D.i (0 : Int)), (D.i (0 : Int)), (D.i (0 : Int)), (D.i (0 : Int)), (D.i (0 : Int)), (D.i (0 : Int)), (D.i (0 : Int)), (D.i (0 : Int)), (D.i (0 : Int)), (D.i (0 : Int)), (D.i (0 : Int)), (D.i (0 : Int)), (D.i (0 : Int)), (D.i (0 : Int)), (D.i (0 : Int)), (D.i (0 : Int)), (D.i (0 : Int)), (D.i (0 : Int)), (D.i (0 : Int)), (D.i (0 : Int)), (D.i (0 : Int)), (D.i (0 : Int)), (D.i (0 : Int)), (D.i (0 : Int)), (D.i (0 : Int)), (D.i (0 : Int)), (D.i (0 : Int)), (D.i (0 : Int)), (D.i (0 : Int)), (D.i (0 : Int)), (D.i (0 : Int)), (D.i (0 : Int)), (D.i (0 : Int)), (D.i (0 : Int)), (D.i (0 : Int)), (D.i (0 : Int)), (D.i (0 : Int)), (D.i (0 : Int)), (D.i (0 : Int)), (D.i (0 : Int)), (D.i (0 : Int)), (D.i (0 : Int)), (D.i (0 : Int)), (D.i (0 : Int))])))
   else none
noncomputable def F_block_Device_Blocks (b1 : Bool) (x1 : Int) (r1 : List D) : Option (Int) :=
 some (ofN (xlen r1))
noncomputable def F_block_Device_Down (b1 : Bool) (x1 : Int) (r1 : List D) : Option (Unit) :=
 some ()
noncomputable def F_block_Device_may (x1 : Int) (b1 : Bool) (x2 : Int) (r1 : List D) : Option (Int) :=
 if b1 = true then
  some (3 : Int)
 else
  if (ilt x1 (0 : Int)) = true then
   some (2 : Int)
  else
   if (ile (ofN (xlen r1)) x1) = true then
    some (2 : Int)
   else
    some (0 : Int)
noncomputable def F_block_Device_Read (x1 : Int) (b1 : Bool) (x2 : Int) (r1 : List D) : Option (Int × (List UInt8)) :=
 match F_block_Device_may x1 b1 x2 r1 with
 | none => none
 | some y1 =>
  if (ieq y1 (0 : Int)) = true then
   if 0 ≤ x1 ∧ x1 < (ofN (xlen r1)) then
    if allU8 ([(D.toI (D.fld (getD r1 (toN x1)) 0)), (D.toI (D.fld (getD r1 (toN x1)) 1)), (D.toI (D.fld (getD r1 (toN x1)) 2)), (D.toI (D.fld (getD r1 (toN x1)) 3)), (D.toI (D.fld (getD r1 (toN x1)) 4)), (D.toI (D.fld (getD r1 (toN x1)) 5)), (D.toI (D.fld (getD r1 (toN x1)) 6)), (D.toI (D.fld (getD r1 (toN x1)) 7)), (D.toI (D.fld (getD r1 (toN x1)) 8)), (D.toI (D.fld (getD r1 (toN x1)) 9)), (D.toI (D.fld (getD r1 (toN x1)) 10)), (D.toI (D.fld (getD r1 (toN x1)) 11)), (D.toI (D.fld (getD r1 (toN x1)) 12)), (D.toI (D.fld (getD r1 (toN x1)) 13)), (D.toI (D.fld (getD r1 (toN x1)) 14)), (D.toI (D.fld (getD r1 (toN x1)) 15)), (D.toI (D.fld (getD r1 (toN x1)) 16)), (D.toI (D.fld (getD r1 (toN x1)) 17)), (D.toI (D.fld (getD r1 (toN x1)) 18)), (D.toI (D.fld (getD r1 (toN x1)) 19)), (D.toI (D.fld (getD r1 (toN x1)) 20)), (D.toI (D.fld (getD r1 (toN x1)) 21)), (D.toI (D.fld (getD r1 (toN x1)) 22)), (D.toI (D.fld (getD r1 (toN x1)) 23)), (D.toI (D.fld (getD r1 (toN x1)) 24)), (D.toI (D.fld (getD r1 (toN x1)) 25)), (D.toI (D.fld (getD r1 (toN x1)) 26)), (D.toI (D.fld (getD r1 (toN x1)) 27)), (D.toI (D.fld (getD r1 (toN x1)) 28)), (D.toI (D.fld (getD r1 (toN x1)) 29)), (D.toI (D.fld (getD r1 (toN x1)) 30)), (D.toI (D.fld (getD r1 (toN x1)) 31)), (D.toI (D.fld (getD r1 (toN x1)) 32)), (D.toI (D.fld (getD r1 (toN x1)) 33)), (D.toI (D.fld (getD r1 (toN x1)) 34)), (D.toI (D.fld (getD r1 (toN x1)) 35)), (D.toI (D.fld (getD r1 (toN x1)) 36)), (D.toI (D.fld (getD r1 (toN x1)) 37)), (D.toI (D.fld (getD r1 (toN x1)) 38)), (D.toI (D.fld (getD r1 (toN x1)) 39)), (D.toI (D.fld (getD r1 (toN x1)) 40)), (D.toI (D.fld (getD r1 (toN x1)) 41)), (D.toI (D.fld (getD r1 (toN x1)) 42)), (D.toI (D.fld (getD r1 (toN x1)) 43)), (D.toI (D.fld (getD r1 (toN x1)) 44)), (D.toI (D.fld (getD r1 (toN x1)) 45)), (D.toI (D.fld (getD r1 (toN x1)) 46)), (D.toI (D.fld (getD r1 (toN x1)) 47)), (D.toI (D.fld (getD r1 (toN x1)) 48)), (D.toI (D.fld (getD r1 (toN x1)) 49)), (D.toI (D.fld (getD r1 (toN x1)) 50)), (D.toI (D.fld (getD r1 (toN x1)) 51)), (D.toI (D.fld (getD r1 (toN x1)) 52)), (D.toI (D.fld (getD r1 (toN x1)) 53)), (D.toI (D.fld (getD r1 (toN x1)) 54)), (D.toI (D.fld (getD r1 (toN x1)) 55)), (D.toI (D.fld (getD r1 (toN x1)) 56)), (D.toI (D.fld (getD r1 (toN x1)) 57)), (D.toI (D.fld (getD r1 (toN x1)) 58)), (D.toI (D.fld (getD r1 (toN x1)) 59)), (D.toI (D.fld (getD r1 (toN x1)) 60)), (D.toI (D.fld (getD r1 (toN x1)) 61)), (D.toI (D.fld (getD r1 (toN x1)) 62)), (D.toI (D.fld (getD r1 (toN x1)) 63))] : List Int) then
     some ((0 : Int), (bsL ([(D.toI (D.fld (getD r1 (toN x1)) 0)), (D.toI (D.fld (getD r1 (toN x1)) 1)), (D.toI (D.fld (getD r1 (toN x1)) 2)), (D.toI (D.fld (getD r1 (toN x1)) 3)), (D.toI (D.fld (getD r1 (toN x1)) 4)), (D.toI (D.fld (getD r1 (toN x1)) 5)), (D.toI (D.fld (getD r1 (toN x1)) 6)), (D.toI (D.fld (getD r1 (toN x1)) 7)), (D.toI (D.fld (getD r1 (toN x1)) 8)), (D.toI (D.fld (getD r1 (toN x1)) 9)), (D.toI (D.fld (getD r1 (toN x1)) 10)), (D.toI (D.fld (getD r1 (toN x1)) 11)), (D.toI (D.fld (getD r1 (toN x1)) 12)), (D.toI (D.fld (getD r1 (toN x1)) 13)), (D.toI (D.fld (getD r1 (toN x1)) 14)), (D.toI (D.fld (getD r1 (toN x1)) 15)), (D.toI (D.fld (getD r1 (toN x1)) 16)), (D.toI (D.fld (getD r1 (toN x1)) 17)), (D.toI (D.fld (getD r1 (toN x1)) 18)), (D.toI (D.fld (getD r1 (toN x1)) 19)), (D.toI (D.fld (getD r1 (toN x1)) 20)), (D.toI (D.fld (getD r1 (toN x1)) 21)), (D.toI (D.fld (getD r1 (toN x1)) 22)), (D.toI (D.fld (getD r1 (toN x1)) 23)), (D.toI (D.fld (getD r1 (toN x1)) 24)), (D.toI (D.fld (getD r1 (toN x1)) 25)), (D.toI (D.fld (getD r1 (toN x1)) 26)), (D.toI (D.fld (getD r1 (toN x1)) 27)), (D.toI (D.fld (getD r1 (toN x1)) 28)), (D.toI (D.fld (getD r1 (toN x1)) 29)), (D.toI (D.fld (getD r1 (toN x1)) 30)), (D.toI (D.fld (getD r1 (toN x1)) 31)), (D.toI (D.fld (getD r1 (toN x1)) 32)), (D.toI (D.fld (getD r1 (toN x1)) 33)), (D.toI (D.fld (getD r1 (toN x1)) 34)), (D.toI (D.fld (getD r1 (toN x1)) 35)), (D.toI (D.fld (getD r1 (toN x1)) 36)), (D.toI (D.fld (getD r1 (toN x1)) 37)), (D.toI (D.fld (getD r1 (toN x1)) 38)), (D.toI (D.fld (getD r1 (toN x1)) 39)), (D.toI (D.fld (getD r1 (toN x1)) 40)), (D.toI (D.fld (getD r1 (toN x1)) 41)), (D.toI (D.fld (getD r1 (toN x1)) 42)), (D.toI (D.fld (getD r1 (toN x1)) 43)), (D.toI (D.fld (getD r1 (toN x1)) 44)), (D.toI (D.fld (getD r1 (toN x1)) 45)), (D.toI (D.fld (getD r1 (toN x1)) 46)), (D.toI (D.fld (getD r1 (toN x1)) 47)), (D.toI (D.fld (getD r1 (toN x1)) 48)), (D.toI (D.fld (getD r1 (toN x1)) 49)), (D.toI (D.fld (getD r1 (toN x1)) 50)), (D.toI (D.fld (getD r1 (toN x1)) 51)), (D.toI (D.fld (getD r1 (toN x1)) 52)), (D.toI (D.fld (getD r1 (toN x1)) 53)), (D.toI (D.fld (getD r1 (toN x1)) 54)), (D.toI (D.fld (getD r1 (toN x1)) 55)), (D.toI (D.fld (getD r1 (toN x1)) 56)), (D.toI (D.fld (getD r1 (toN x1)) 57)), (D.toI (D.fld (getD r1 (toN x1)) 58)), (D.toI (D.fld (getD r1 (toN x1)) 59)), (D.toI (D.fld (getD r1 (toN x1)) 60)), (D.toI (D.fld (getD r1 (toN x1)) 61)), (D.toI (D.fld (getD r1 (toN x1)) 62)), (D.toI (D.fld (getD r1 (toN x1)) 63))] : List Int)))
    else none
   else none
  else
   some (y1, ([] : List UInt8))
noncomputable def F_octet_Open (s1 : List UInt8) : Option ((List UInt8)) :=
 match cloneB s1 with
 | none => none
 | some t1 =>
  some t1
noncomputable def F_octet_Window_fail (x1 : Int) (x2 : Int) (s1 : List UInt8) : Option (Int) :=
 if (ieq x2 (0 : Int)) = true then
  some x1
 else
  some x2
noncomputable def F_octet_Window_Bytes (x1 : Int) (x2 : Int) (s1 : List UInt8) : Option (Nat × Nat × Int × (List UInt8)) :=
 if (ilt x1 (0 : Int)) = true then
  match F_octet_Window_fail (1 : Int) x2 s1 with
  | none => none
  | some y1 =>
   if (ieq y1 (0 : Int)) = true then
    if 0 ≤ x1 ∧ x1 ≤ x1 ∧ x1 * ((1 : Nat) : Int) ≤ 140737488355328 ∧ x1 ≤ 9223372036854775807 then
     if 0 ≤ (ofN (nmin (xlen (@lrep UInt8 (toN x1) (0 : UInt8))) (xlen s1))) ∧ (ofN (nmin (xlen (@lrep UInt8 (toN x1) (0 : UInt8))) (xlen s1))) ≤ (ofN (xlen s1)) then
      some ((toN (ofN (nmin (xlen (@lrep UInt8 (toN x1) (0 : UInt8))) (xlen s1)))), (ndec (xlen s1) (toN (ofN (nmin (xlen (@lrep UInt8 (toN x1) (0 : UInt8))) (xlen s1))))), y1, (lspl (@lrep UInt8 (toN x1) (0 : UInt8)) 0 (lsub s1 0 (nmin (xlen (@lrep UInt8 (toN x1) (0 : UInt8))) (xlen s1)))))
     else none
    else none
   else
    some (0, (xlen s1), y1, ([] : List UInt8))
 else
  if (ilt (ofN (xlen s1)) x1) = true then
   match F_octet_Window_fail (10 : Int) x2 s1 with
   | none => none
   | some y2 =>
    if (ieq y2 (0 : Int)) = true then
     if 0 ≤ x1 ∧ x1 ≤ x1 ∧ x1 * ((1 : Nat) : Int) ≤ 140737488355328 ∧ x1 ≤ 9223372036854775807 then
      if 0 ≤ (ofN (nmin (xlen (@lrep UInt8 (toN x1) (0 : UInt8))) (xlen s1))) ∧ (ofN (nmin (xlen (@lrep UInt8 (toN x1) (0 : UInt8))) (xlen s1))) ≤ (ofN (xlen s1)) then
       some ((toN (ofN (nmin (xlen (@lrep UInt8 (toN x1) (0 : UInt8))) (xlen s1)))), (ndec (xlen s1) (toN (ofN (nmin (xlen (@lrep UInt8 (toN x1) (0 : UInt8))) (xlen s1))))), y2, (lspl (@lrep UInt8 (toN x1) (0 : UInt8)) 0 (lsub s1 0 (nmin (xlen (@lrep UInt8 (toN x1) (0 : UInt8))) (xlen s1)))))
      else none
     else none
    else
     some (0, (xlen s1), y2, ([] : List UInt8))
  else
   if (ieq x2 (0 : Int)) = true then
    if 0 ≤ x1 ∧ x1 ≤ x1 ∧ x1 * ((1 : Nat) : Int) ≤ 140737488355328 ∧ x1 ≤ 9223372036854775807 then
     if 0 ≤ (ofN (nmin (xlen (@lrep UInt8 (toN x1) (0 : UInt8))) (xlen s1))) ∧ (ofN (nmin (xlen (@lrep UInt8 (toN x1) (0 : UInt8))) (xlen s1))) ≤ (ofN (xlen s1)) then
      some ((toN (ofN (nmin (xlen (@lrep UInt8 (toN x1) (0 : UInt8))) (xlen s1)))), (ndec (xlen s1) (toN (ofN (nmin (xlen (@lrep UInt8 (toN x1) (0 : UInt8))) (xlen s1))))), x2, (lspl (@lrep UInt8 (toN x1) (0 : UInt8)) 0 (lsub s1 0 (nmin (xlen (@lrep UInt8 (toN x1) (0 : UInt8))) (xlen s1)))))
     else none
    else none
   else
    some (0, (xlen s1), x2, ([] : List UInt8))
noncomputable def F_octet_Value_L1 (s1 : List UInt8) : Int × Int → Option ((Int × Int) ⊕ (Int × Bool))
 | (i1, i2) =>
  if (ilt i2 (ofN (xlen s1))) = true then
   if 0 ≤ i2 ∧ i2 < (ofN (xlen s1)) then
    if 0 ≤ (56 : Int) then
     if (ilt (0 : Int) (ishr .u64 i1 (56 : Int))) = true then
      some (.inr ((0 : Int), false))
     else
      if 0 ≤ (8 : Int) then
       some (.inl ((ior .u64 (ishl .u64 i1 (8 : Int)) (iconv .u64 (getB s1 (toN i2)))), (iadd .i64 i2 (1 : Int))))
      else none
    else none
   else none
  else
   some (.inr (i1, true))
noncomputable def F_octet_Value (s1 : List UInt8) : Option (Int × Bool) :=
 iter (F_octet_Value_L1 s1) ((0 : Int), (0 : Int))
noncomputable def F_octet_Window_Num (x1 : Int) (x2 : Int) (s1 : List UInt8) : Option (Int × Nat × Nat × Int) :=
 if (ilt x1 (1 : Int)) = true then
  match F_octet_Window_fail (1 : Int) x2 s1 with
  | none => none
  | some y1 =>
   some ((0 : Int), 0, (xlen s1), y1)
 else
  if (ilt (8 : Int) x1) = true then
   match F_octet_Window_fail (1 : Int) x2 s1 with
   | none => none
   | some y2 =>
    some ((0 : Int), 0, (xlen s1), y2)
  else
   match F_octet_Window_Bytes x1 x2 s1 with
   | none => none
   | some (k1, k2, y3, t1) =>
    match F_octet_Value t1 with
    | none => none
    | some (y4, c1) =>
     some (y4, k1, k2, y3)
noncomputable def F_octet_Window_fail_2 (x1 : Int) (n1 : Nat) (n2 : Nat) (x2 : Int) (s1 : List UInt8) : Option (Int) :=
 if (ieq x2 (0 : Int)) = true then
  some x1
 else
  some x2
noncomputable def F_octet_Window_Bytes_2 (x1 : Int) (n1 : Nat) (n2 : Nat) (x2 : Int) (s1 : List UInt8) : Option (Nat × Nat × Int × (List UInt8)) :=
 if (ilt x1 (0 : Int)) = true then
  match F_octet_Window_fail_2 (1 : Int) n1 n2 x2 s1 with
  | none => none
  | some y1 =>
   if (ieq y1 (0 : Int)) = true then
    if 0 ≤ x1 ∧ x1 ≤ x1 ∧ x1 * ((1 : Nat) : Int) ≤ 140737488355328 ∧ x1 ≤ 9223372036854775807 then
     if 0 ≤ (ofN (nmin (xlen (@lrep UInt8 (toN x1) (0 : UInt8))) (xlen (lsub s1 n1 n2)))) ∧ (ofN (nmin (xlen (@lrep UInt8 (toN x1) (0 : UInt8))) (xlen (lsub s1 n1 n2)))) ≤ (ofN n2) then
      some ((nadd n1 (toN (ofN (nmin (xlen (@lrep UInt8 (toN x1) (0 : UInt8))) (xlen (lsub s1 n1 n2)))))), (ndec n2 (toN (ofN (nmin (xlen (@lrep UInt8 (toN x1) (0 : UInt8))) (xlen (lsub s1 n1 n2)))))), y1, (lspl (@lrep UInt8 (toN x1) (0 : UInt8)) 0 (lsub (lsub s1 n1 n2) 0 (nmin (xlen (@lrep UInt8 (toN x1) (0 : UInt8))) (xlen (lsub s1 n1 n2))))))
     else none
    else none
   else
    some (n1, n2, y1, ([] : List UInt8))
 else
  if (ilt (ofN n2) x1) = true then
   match F_octet_Window_fail_2 (10 : Int) n1 n2 x2 s1 with
   | none => none
   | some y2 =>
    if (ieq y2 (0 : Int)) = true then
     if 0 ≤ x1 ∧ x1 ≤ x1 ∧ x1 * ((1 : Nat) : Int) ≤ 140737488355328 ∧ x1 ≤ 9223372036854775807 then
      if 0 ≤ (ofN (nmin (xlen (@lrep UInt8 (toN x1) (0 : UInt8))) (xlen (lsub s1 n1 n2)))) ∧ (ofN (nmin (xlen (@lrep UInt8 (toN x1) (0 : UInt8))) (xlen (lsub s1 n1 n2)))) ≤ (ofN n2) then
       some ((nadd n1 (toN (ofN (nmin (xlen (@lrep UInt8 (toN x1) (0 : UInt8))) (xlen (lsub s1 n1 n2)))))), (ndec n2 (toN (ofN (nmin (xlen (@lrep UInt8 (toN x1) (0 : UInt8))) (xlen (lsub s1 n1 n2)))))), y2, (lspl (@lrep UInt8 (toN x1) (0 : UInt8)) 0 (lsub (lsub s1 n1 n2) 0 (nmin (xlen (@lrep UInt8 (toN x1) (0 : UInt8))) (xlen (lsub s1 n1 n2))))))
      else none
     else none
    else
     some (n1, n2, y2, ([] : List UInt8))
  else
   if (ieq x2 (0 : Int)) = true then
    if 0 ≤ x1 ∧ x1 ≤ x1 ∧ x1 * ((1 : Nat) : Int) ≤ 140737488355328 ∧ x1 ≤ 9223372036854775807 then
     if 0 ≤ (ofN (nmin (xlen (@lrep UInt8 (toN x1) (0 : UInt8))) (xlen (lsub s1 n1 n2)))) ∧ (ofN (nmin (xlen (@lrep UInt8 (toN x1) (0 : UInt8))) (xlen (lsub s1 n1 n2)))) ≤ (ofN n2) then
      some ((nadd n1 (toN (ofN (nmin (xlen (@lrep UInt8 (toN x1) (0 : UInt8))) (xlen (lsub s1 n1 n2)))))), (ndec n2 (toN (ofN (nmin (xlen (@lrep UInt8 (toN x1) (0 : UInt8))) (xlen (lsub s1 n1 n2)))))), x2, (lspl (@lrep UInt8 (toN x1) (0 : UInt8)) 0 (lsub (lsub s1 n1 n2) 0 (nmin (xlen (@lrep UInt8 (toN x1) (0 : UInt8))) (xlen (lsub s1 n1 n2))))))
     else none
    else none
   else
    some (n1, n2, x2, ([] : List UInt8))
noncomputable def F_octet_Window_Num_2 (x1 : Int) (n1 : Nat) (n2 : Nat) (x2 : Int) (s1 : List UInt8) : Option (Int × Nat × Nat × Int) :=
 if (ilt x1 (1 : Int)) = true then
  match F_octet_Window_fail_2 (1 : Int) n1 n2 x2 s1 with
  | none => none
  | some y1 =>
   some ((0 : Int), n1, n2, y1)
 else
  if (ilt (8 : Int) x1) = true then
   match F_octet_Window_fail_2 (1 : Int) n1 n2 x2 s1 with
   | none => none
   | some y2 =>
    some ((0 : Int), n1, n2, y2)
  else
   match F_octet_Window_Bytes_2 x1 n1 n2 x2 s1 with
   | none => none
   | some (k1, k2, y3, t1) =>
    match F_octet_Value t1 with
    | none => none
    | some (y4, c1) =>
     some (y4, k1, k2, y3)
noncomputable def F_journal_read_L1 (x2 : Int) (b1 : Bool) (x3 : Int) (r1 : List D) : Int × (List UInt8) → Option ((Int × (List UInt8)) ⊕ (Nat × (List UInt8)))
 | (i1, s1) =>
  if (ilt (ofN (xlen s1)) x2) = true then
   match F_block_Device_Read i1 b1 x3 r1 with
   | none => none
   | some (y4, t4) =>
    if (ieq y4 (0 : Int)) = true then
     if ((((xlen s1) : Nat) : Int) + (((xlen t4) : Nat) : Int)) * ((1 : Nat) : Int) ≤ 140737488355328 then
      some (.inl ((iadd .i64 i1 (1 : Int)), (cat s1 t4)))
     else none
    else
     some (.inr ((xlen s1), s1))
  else
   if 0 ≤ x2 ∧ x2 ≤ (ofN (xlen s1)) then
    some (.inr ((toN x2), s1))
   else none
noncomputable def F_journal_read (x1 : Int) (x2 : Int) (b1 : Bool) (x3 : Int) (r1 : List D) : Option (Nat × (List UInt8)) :=
 iter (F_journal_read_L1 x2 b1 x3 r1) ((iadd .i64 (imul .i64 (iconv .i64 x1) (130 : Int)) (1 : Int)), ([] : List UInt8))
noncomputable def F_octet_Big_L1 (x1 : Int) : Int × (List UInt8) → Option ((Int × (List UInt8)) ⊕ ((List UInt8)))
 | (i1, s1) =>
  if (ile (0 : Int) i1) = true then
   if 0 ≤ (imul .i64 (8 : Int) i1) then
    if 0 ≤ (iconv .u8 (ishr .u64 x1 (imul .i64 (8 : Int) i1))) ∧ (iconv .u8 (ishr .u64 x1 (imul .i64 (8 : Int) i1))) < 256 then
     if ((((xlen s1) : Nat) : Int) + (((xlen (byteOf (iconv .u8 (ishr .u64 x1 (imul .i64 (8 : Int) i1))) :: ([] : List UInt8))) : Nat) : Int)) * ((1 : Nat) : Int) ≤ 140737488355328 then
      some (.inl ((isub .i64 i1 (1 : Int)), (cat s1 (byteOf (iconv .u8 (ishr .u64 x1 (imul .i64 (8 : Int) i1))) :: ([] : List UInt8)))))
     else none
    else none
   else none
  else
   some (.inr s1)
noncomputable def F_octet_Big (x1 : Int) (x2 : Int) : Option ((List UInt8)) :=
 if (ilt x2 (1 : Int)) = true then
  some ([] : List UInt8)
 else
  if (ilt (8 : Int) x2) = true then
   some ([] : List UInt8)
  else
   iter (F_octet_Big_L1 x1) ((isub .i64 x2 (1 : Int)), ([] : List UInt8))
noncomputable def F_frame_Sum_L2 (i4 : Int) : Int × Int → Option ((Int × Int) ⊕ ((Int × Int) ⊕ (Int)))
 | (i7, i8) =>
  if (ilt i8 (2 : Int)) = true then
   if 0 ≤ (4 : Int) then
    if 0 ≤ (iand .u32 i7 (15 : Int)) ∧ (iand .u32 i7 (15 : Int)) < (ofN (xlen ([0, 274646895, 549293790, 820201905, 1098587580, 1361435347, 1640403810, 1905808397, 2197175160, 2460548119, 2722870694, 2987750089, 3280807620, 3553878443, 3811616794, 4084100981] : List Int))) then
     some (.inl ((ixor .u32 (ishr .u32 i7 (4 : Int)) (getI ([0, 274646895, 549293790, 820201905, 1098587580, 1361435347, 1640403810, 1905808397, 2197175160, 2460548119, 2722870694, 2987750089, 3280807620, 3553878443, 3811616794, 4084100981] : List Int) (toN (iand .u32 i7 (15 : Int))))), (iadd .i64 i8 (1 : Int))))
    else none
   else none
  else
   some (.inr (.inl (i7, (iadd .i64 i4 (1 : Int)))))
noncomputable def F_frame_Sum_L1 (s1 : List UInt8) : Int × Int → Option ((Int × Int) ⊕ (Int))
 | (i3, i4) =>
  if (ilt i4 (ofN (xlen s1))) = true then
   if 0 ≤ i4 ∧ i4 < (ofN (xlen s1)) then
    iter (F_frame_Sum_L2 i4) ((ixor .u32 i3 (iconv .u32 (getB s1 (toN i4)))), (0 : Int))
   else none
  else
   some (.inr (ixor .u32 (4294967295 : Int) i3))
noncomputable def F_frame_Sum (s1 : List UInt8) : Option (Int) :=
 iter (F_frame_Sum_L1 s1) ((4294967295 : Int), (0 : Int))
noncomputable def F_journal_head (x1 : Int) (n1 : Nat) (n2 : Nat) (s1 : List UInt8) : Option ((List UInt8)) :=
 match F_octet_Big x1 (8 : Int) with
 | none => none
 | some t1 =>
  match F_octet_Big (iconv .u64 (ofN n2)) (4 : Int) with
  | none => none
  | some t2 =>
   match F_frame_Sum (lsub s1 n1 n2) with
   | none => none
   | some y1 =>
    match F_octet_Big (iconv .u64 y1) (4 : Int) with
    | none => none
    | some t3 =>
     if 0 ≤ (40 : Int) ∧ (40 : Int) ≤ (40 : Int) ∧ (40 : Int) * ((1 : Nat) : Int) ≤ 140737488355328 ∧ (40 : Int) ≤ 9223372036854775807 then
      match joinB ([(D.s t1), (D.s t2), (D.s t3), (D.s (@lrep UInt8 (toN (40 : Int)) (0 : UInt8))), (D.s t1)] : List D) with
      | none => none
      | some t4 =>
       some t4
     else none
noncomputable def F_bytes_Equal (s1 : List UInt8) (s2 : List UInt8) : Option (Bool) :=
 some (seq s1 s2)
noncomputable def F_journal_whole (x1 : Int) (b1 : Bool) (x2 : Int) (r1 : List D) : Option (Nat × Int × (List UInt8)) :=
 match F_block_Device_Read (imul .i64 (iconv .i64 x1) (130 : Int)) b1 x2 r1 with
 | none => none
 | some (y1, t1) =>
  if (ieq y1 (0 : Int)) = true then
   match F_octet_Open t1 with
   | none => none
   | some t2 =>
    match F_octet_Window_Num (8 : Int) (0 : Int) t2 with
    | none => none
    | some (y2, k1, k2, y3) =>
     match F_octet_Window_Num_2 (4 : Int) k1 k2 y3 t2 with
     | none => none
     | some (y4, k3, k4, y5) =>
      if (ieq y2 (0 : Int)) = true then
       some (0, (0 : Int), ([] : List UInt8))
      else
       if (ieq (irem y2 (2 : Int)) x1) = true then
        if (ilt (8192 : Int) y4) = true then
         some (0, (0 : Int), ([] : List UInt8))
        else
         match F_journal_read x1 (iconv .i64 y4) b1 x2 r1 with
         | none => none
         | some (k5, t3) =>
          match F_journal_head y2 0 k5 t3 with
          | none => none
          | some t4 =>
           match F_bytes_Equal t1 t4 with
           | none => none
           | some c1 =>
            if c1 = true then
             some (k5, y2, t3)
            else
             some (0, (0 : Int), ([] : List UInt8))
       else
        some (0, (0 : Int), ([] : List UInt8))
  else
   some (0, (0 : Int), ([] : List UInt8))
noncomputable def F_journal_Load (b1 : Bool) (x1 : Int) (r1 : List D) : Option (Nat × Int × Int × (List UInt8)) :=
 match F_block_Device_Blocks b1 x1 r1 with
 | none => none
 | some y1 =>
  if (ilt y1 (260 : Int)) = true then
   some (0, (0 : Int), (1 : Int), ([] : List UInt8))
  else
   match F_block_Device_Down b1 x1 r1 with
   | none => none
   | some () =>
    if b1 = true then
     some (0, (0 : Int), (3 : Int), ([] : List UInt8))
    else
     match F_journal_whole (0 : Int) b1 x1 r1 with
     | none => none
     | some (k1, y2, t1) =>
      match F_journal_whole (1 : Int) b1 x1 r1 with
      | none => none
      | some (k2, y3, t2) =>
       if (ieq y2 (0 : Int)) = true then
        if (ieq y3 (0 : Int)) = true then
         some (0, (0 : Int), (39 : Int), ([] : List UInt8))
        else
         if (ilt y3 y2) = true then
          some (k1, y2, (0 : Int), t1)
         else
          some (k2, y3, (0 : Int), t2)
       else
        if (ilt y3 y2) = true then
         some (k1, y2, (0 : Int), t1)
        else
         some (k2, y3, (0 : Int), t2)
noncomputable def F_journal_blocks (x1 : Int) (s1 : List UInt8) : Option (Unit) :=
 some ()
noncomputable def F_block_Device_Write (x1 : Int) (s1 : List UInt8) (b1 : Bool) (x2 : Int) (r1 : List D) : Option (Int × Int × (List D)) :=
 match F_block_Device_may x1 b1 x2 r1 with
 | none => none
 | some y1 =>
  if (ieq y1 (0 : Int)) = true then
   if (ieq (ofN (xlen s1)) (64 : Int)) = true then
    if 64 ≤ (xlen s1) then
     if 0 ≤ x1 ∧ x1 < (ofN (xlen r1)) then
      some ((0 : Int), (iadd .i64 x2 (1 : Int)), (setD r1 (toN x1) (D.l [(D.i (D.toI (D.fld (getD ([(arrD s1)] : List D) 0) 0))), (D.i (D.toI (D.fld (getD ([(arrD s1)] : List D) 0) 1))), (D.i (D.toI (D.fld (getD ([(arrD s1)] : List D) 0) 2))), (D.i (D.toI (D.fld (getD ([(arrD s1)] : List D) 0) 3))), (D.i (D.toI (D.fld (getD ([(arrD s1)] : List D) 0) 4))), (D.i (D.toI (D.fld (getD ([(arrD s1)] : List D) 0) 5))), (D.i (D.toI (D.fld (getD ([(arrD s1)] : List D) 0) 6))), (D.i (D.toI (D.fld (getD ([(arrD s1)] : List D) 0) 7))), (D.i (D.toI (D.fld (getD ([(arrD s1)] : List D) 0) 8))), (D.i (D.toI (D.fld (getD ([(arrD s1)] : List D) 0) 9))), (D.i (D.toI (D.fld (getD ([(arrD s1)] : List D) 0) 10))), (D.i (D.toI (D.fld (getD ([(arrD s1)] : List D) 0) 11))), (D.i (D.toI (D.fld (getD ([(arrD s1)] : List D) 0) 12))), (D.i (D.toI (D.fld (getD ([(arrD s1)] : List D) 0) 13))), (D.i (D.toI (D.fld (getD ([(arrD s1)] : List D) 0) 14))), (D.i (D.toI (D.fld (getD ([(arrD s1)] : List D) 0) 15))), (D.i (D.toI (D.fld (getD ([(arrD s1)] : List D) 0) 16))), (D.i (D.toI (D.fld (getD ([(arrD s1)] : List D) 0) 17))), (D.i (D.toI (D.fld (getD ([(arrD s1)] : List D) 0) 18))), (D.i (D.toI (D.fld (getD ([(arrD s1)] : List D) 0) 19))), (D.i (D.toI (D.fld (getD ([(arrD s1)] : List D) 0) 20))), (D.i (D.toI (D.fld (getD ([(arrD s1)] : List D) 0) 21))), (D.i (D.toI (D.fld (getD ([(arrD s1)] : List D) 0) 22))), (D.i (D.toI (D.fld (getD ([(arrD s1)] : List D) 0) 23))), (D.i (D.toI (D.fld (getD ([(arrD s1)] : List D) 0) 24))), (D.i (D.toI (D.fld (getD ([(arrD s1)] : List D) 0) 25))), (D.i (D.toI (D.fld (getD ([(arrD s1)] : List D) 0) 26))), (D.i (D.toI (D.fld (getD ([(arrD s1)] : List D) 0) 27))), (D.i (D.toI (D.fld (getD ([(arrD s1)] : List D) 0) 28))), (D.i (D.toI (D.fld (getD ([(arrD s1)] : List D) 0) 29))), (D.i (D.toI (D.fld (getD ([(arrD s1)] : List D) 0) 30))), (D.i (D.toI (D.fld (getD ([(arrD s1)] : List D) 0) 31))), (D.i (D.toI (D.fld (getD ([(arrD s1)] : List D) 0) 32))), (D.i (D.toI (D.fld (getD ([(arrD s1)] : List D) 0) 33))), (D.i (D.toI (D.fld (getD ([(arrD s1)] : List D) 0) 34))), (D.i (D.toI (D.fld (getD ([(arrD s1)] : List D) 0) 35))), (D.i (D.toI (D.fld (getD ([(arrD s1)] : List D) 0) 36))), (D.i (D.toI (D.fld (getD ([(arrD s1)] : List D) 0) 37))), (D.i (D.toI (D.fld (getD ([(arrD s1)] : List D) 0) 38))), (D.i (D.toI (D.fld (getD ([(arrD s1)] : List D) 0) 39))), (D.i (D.toI (D.fld (getD ([(arrD s1)] : List D) 0) 40))), (D.i (D.toI (D.fld (getD ([(arrD s1)] : List D) 0) 41))), (D.i (D.toI (D.fld (getD ([(arrD s1)] : List D) 0) 42))), (D.i (D.toI (D.fld (getD ([(arrD s1)] : List D) 0) 43))), (D.i (D.toI (D.fld (getD ([(arrD s1)] : List D) 0) 44))), (D.i (D.toI (D.fld (getD ([(arrD s1)] : List D) 0) 45))), (D.i (D.toI (D.fld (getD ([(arrD s1)] : List D) 0) 46))), (D.i (D.toI (D.fld (getD ([(arrD s1)] : List D) 0) 47))), (D.i (D.toI (D.fld (getD ([(arrD s1)] : List D) 0) 48))), (D.i (D.toI (D.fld (getD ([(arrD s1)] : List D) 0) 49))), (D.i (D.toI (D.fld (getD ([(arrD s1)] : List D) 0) 50))), (D.i (D.toI (D.fld (getD ([(arrD s1)] : List D) 0) 51))), (D.i (D.toI (D.fld (getD ([(arrD s1)] : List D) 0) 52))), (D.i (D.toI (D.fld (getD ([(arrD s1)] : List D) 0) 53))), (D.i (D.toI (D.fld (getD ([(arrD s1)] : List D) 0) 54))), (D.i (D.toI (D.fld (getD ([(arrD s1)] : List D) 0) 55))), (D.i (D.toI (D.fld (getD ([(arrD s1)] : List D) 0) 56))), (D.i (D.toI (D.fld (getD ([(arrD s1)] : List D) 0) 57))), (D.i (D.toI (D.fld (getD ([(arrD s1)] : List D) 0) 58))), (D.i (D.toI (D.fld (getD ([(arrD s1)] : List D) 0) 59))), (D.i (D.toI (D.fld (getD ([(arrD s1)] : List D) 0) 60))), (D.i (D.toI (D.fld (getD ([(arrD s1)] : List D) 0) 61))), (D.i (D.toI (D.fld (getD ([(arrD s1)] : List D) 0) 62))), (D.i (D.toI (D.fld (getD ([(arrD s1)] : List D) 0) 63)))])))
     else none
    else none
   else
    some ((1 : Int), x2, r1)
  else
   some (y1, x2, r1)
noncomputable def F_journal_head_2 (x1 : Int) (s1 : List UInt8) : Option ((List UInt8)) :=
 match F_octet_Big x1 (8 : Int) with
 | none => none
 | some t1 =>
  match F_octet_Big (iconv .u64 (ofN (xlen s1))) (4 : Int) with
  | none => none
  | some t2 =>
   match F_frame_Sum s1 with
   | none => none
   | some y1 =>
    match F_octet_Big (iconv .u64 y1) (4 : Int) with
    | none => none
    | some t3 =>
     if 0 ≤ (40 : Int) ∧ (40 : Int) ≤ (40 : Int) ∧ (40 : Int) * ((1 : Nat) : Int) ≤ 140737488355328 ∧ (40 : Int) ≤ 9223372036854775807 then
      match joinB ([(D.s t1), (D.s t2), (D.s t3), (D.s (@lrep UInt8 (toN (40 : Int)) (0 : UInt8))), (D.s t1)] : List D) with
      | none => none
      | some t4 =>
       some t4
     else none
noncomputable def F_journal_Save_L1 (s1 : List UInt8) (y1 : Int) (b1 : Bool) : Int × Int × (List D) → Option ((Int × Int × (List D)) ⊕ (Int × Int × (List D)))
 | (i1, i2, r2) =>
  if (ilt i1 (ofN (xlen s1))) = true then
   if 0 ≤ (64 : Int) ∧ (64 : Int) ≤ (64 : Int) ∧ (64 : Int) * ((1 : Nat) : Int) ≤ 140737488355328 ∧ (64 : Int) ≤ 9223372036854775807 then
    if 0 ≤ i1 ∧ i1 ≤ (ofN (xlen s1)) then
     match F_block_Device_Write (iadd .i64 (iadd .i64 (imul .i64 (iconv .i64 (irem (iadd .u64 y1 (1 : Int)) (2 : Int))) (130 : Int)) (1 : Int)) (iquo .i64 i1 (64 : Int))) (lspl (@lrep UInt8 (toN (64 : Int)) (0 : UInt8)) 0 (lsub (lsub s1 (toN i1) (ndec (xlen s1) (toN i1))) 0 (nmin (xlen (@lrep UInt8 (toN (64 : Int)) (0 : UInt8))) (xlen (lsub s1 (toN i1) (ndec (xlen s1) (toN i1))))))) b1 i2 r2 with
     | none => none
     | some (y7, y8, q3) =>
      if (ieq y7 (0 : Int)) = true then
       some (.inl ((iadd .i64 i1 (64 : Int)), y8, q3))
      else
       some (.inr (y7, y8, q3))
    else none
   else none
  else
   match F_journal_head_2 (iadd .u64 y1 (1 : Int)) s1 with
   | none => none
   | some t2 =>
    match F_block_Device_Write (imul .i64 (iconv .i64 (irem (iadd .u64 y1 (1 : Int)) (2 : Int))) (130 : Int)) t2 b1 i2 r2 with
    | none => none
    | some (y9, y10, q4) =>
     if (ieq y9 (0 : Int)) = true then
      some (.inr ((0 : Int), y10, q4))
     else
      some (.inr (y9, y10, q4))
noncomputable def F_journal_Save (s1 : List UInt8) (b1 : Bool) (x1 : Int) (r1 : List D) : Option (Int × Int × (List D)) :=
 match F_journal_Load b1 x1 r1 with
 | none => none
 | some (k1, y1, y2, t1) =>
  if (ieq y2 (1 : Int)) = true then
   some (y2, x1, r1)
  else
   if (ilt (8192 : Int) (ofN (xlen s1))) = true then
    some ((14 : Int), x1, r1)
   else
    if (ieq y2 (3 : Int)) = true then
     some (y2, x1, r1)
    else
     match F_journal_blocks (iadd .u64 y1 (1 : Int)) s1 with
     | none => none
     | some () =>
      iter (F_journal_Save_L1 s1 y1 b1) ((0 : Int), x1, r1)
noncomputable def F_block_Device_Blocks_2 : Option (Unit) :=
 some ()
noncomputable def F_journal_Load_2 : Option (Unit) :=
 match F_block_Device_Blocks_2 with
 | none => none
 | some () =>
  if (ilt (0 : Int) (260 : Int)) = true then
   some ()
  else
   none
noncomputable def F_journal_Save_2 (s1 : List UInt8) : Option (Unit) :=
 match F_journal_Load_2 with
 | none => none
 | some () =>
  if (ieq (1 : Int) (1 : Int)) = true then
   some ()
  else
   none
noncomputable def F_tollbarlaw32_awake : Option (Bool) :=
 match F_block_New (260 : Int) with
 | none => none
 | some (.inl ()) =>
  some false
 | some (.inr q1) =>
  match F_journal_Load false (0 : Int) q1 with
  | none => none
  | some (k1, y1, y2, t1) =>
   if 0 ≤ (97 : Int) ∧ (97 : Int) < 256 then
    if 0 < (ofN (xlen (byteOf (97 : Int) :: ([] : List UInt8)))) then
     match F_journal_Save (byteOf (97 : Int) :: ([] : List UInt8)) false (0 : Int) q1 with
     | none => none
     | some (y3, y4, q2) =>
      match F_journal_Load false y4 q2 with
      | none => none
      | some (k2, y5, y6, t2) =>
       if (ieq y2 (39 : Int)) = true then
        if (ieq y3 (0 : Int)) = true then
         if (seq (lsub t2 0 k2) ([97] : List UInt8)) = true then
          if (ieq y5 (1 : Int)) = true then
           if (ieq y6 (0 : Int)) = true then
            match F_journal_Save_2 ([] : List UInt8) with
            | none => none
            | some () =>
             some (ieq (1 : Int) (1 : Int))
           else
            some false
          else
           some false
         else
          some false
        else
         some false
       else
        some false
    else none
   else none
noncomputable def F_block_Device_Write_2 (x1 : Int) (s1 : List UInt8) (b1 : Bool) (x2 : Int) (r1 : List D) : Option (Int × Int × (List D)) :=
 match F_block_Device_may x1 b1 x2 r1 with
 | none => none
 | some y1 =>
  if (ieq y1 (0 : Int)) = true then
   if (ieq (ofN (xlen s1)) (64 : Int)) = true then
    if 64 ≤ (xlen s1) then
     if 0 ≤ x1 ∧ x1 < (ofN (xlen r1)) then
      some ((0 : Int), (iadd .i64 x2 (1 : Int)), (setD r1 (toN x1) (D.l [(D.i (D.toI (D.fld (getD ([(arrD s1)] : List D) 0) 0))), (D.i (D.toI (D.fld (getD ([(arrD s1)] : List D) 0) 1))), (D.i (D.toI (D.fld (getD ([(arrD s1)] : List D) 0) 2))), (D.i (D.toI (D.fld (getD ([(arrD s1)] : List D) 0) 3))), (D.i (D.toI (D.fld (getD ([(arrD s1)] : List D) 0) 4))), (D.i (D.toI (D.fld (getD ([(arrD s1)] : List D) 0) 5))), (D.i (D.toI (D.fld (getD ([(arrD s1)] : List D) 0) 6))), (D.i (D.toI (D.fld (getD ([(arrD s1)] : List D) 0) 7))), (D.i (D.toI (D.fld (getD ([(arrD s1)] : List D) 0) 8))), (D.i (D.toI (D.fld (getD ([(arrD s1)] : List D) 0) 9))), (D.i (D.toI (D.fld (getD ([(arrD s1)] : List D) 0) 10))), (D.i (D.toI (D.fld (getD ([(arrD s1)] : List D) 0) 11))), (D.i (D.toI (D.fld (getD ([(arrD s1)] : List D) 0) 12))), (D.i (D.toI (D.fld (getD ([(arrD s1)] : List D) 0) 13))), (D.i (D.toI (D.fld (getD ([(arrD s1)] : List D) 0) 14))), (D.i (D.toI (D.fld (getD ([(arrD s1)] : List D) 0) 15))), (D.i (D.toI (D.fld (getD ([(arrD s1)] : List D) 0) 16))), (D.i (D.toI (D.fld (getD ([(arrD s1)] : List D) 0) 17))), (D.i (D.toI (D.fld (getD ([(arrD s1)] : List D) 0) 18))), (D.i (D.toI (D.fld (getD ([(arrD s1)] : List D) 0) 19))), (D.i (D.toI (D.fld (getD ([(arrD s1)] : List D) 0) 20))), (D.i (D.toI (D.fld (getD ([(arrD s1)] : List D) 0) 21))), (D.i (D.toI (D.fld (getD ([(arrD s1)] : List D) 0) 22))), (D.i (D.toI (D.fld (getD ([(arrD s1)] : List D) 0) 23))), (D.i (D.toI (D.fld (getD ([(arrD s1)] : List D) 0) 24))), (D.i (D.toI (D.fld (getD ([(arrD s1)] : List D) 0) 25))), (D.i (D.toI (D.fld (getD ([(arrD s1)] : List D) 0) 26))), (D.i (D.toI (D.fld (getD ([(arrD s1)] : List D) 0) 27))), (D.i (D.toI (D.fld (getD ([(arrD s1)] : List D) 0) 28))), (D.i (D.toI (D.fld (getD ([(arrD s1)] : List D) 0) 29))), (D.i (D.toI (D.fld (getD ([(arrD s1)] : List D) 0) 30))), (D.i (D.toI (D.fld (getD ([(arrD s1)] : List D) 0) 31))), (D.i (D.toI (D.fld (getD ([(arrD s1)] : List D) 0) 32))), (D.i (D.toI (D.fld (getD ([(arrD s1)] : List D) 0) 33))), (D.i (D.toI (D.fld (getD ([(arrD s1)] : List D) 0) 34))), (D.i (D.toI (D.fld (getD ([(arrD s1)] : List D) 0) 35))), (D.i (D.toI (D.fld (getD ([(arrD s1)] : List D) 0) 36))), (D.i (D.toI (D.fld (getD ([(arrD s1)] : List D) 0) 37))), (D.i (D.toI (D.fld (getD ([(arrD s1)] : List D) 0) 38))), (D.i (D.toI (D.fld (getD ([(arrD s1)] : List D) 0) 39))), (D.i (D.toI (D.fld (getD ([(arrD s1)] : List D) 0) 40))), (D.i (D.toI (D.fld (getD ([(arrD s1)] : List D) 0) 41))), (D.i (D.toI (D.fld (getD ([(arrD s1)] : List D) 0) 42))), (D.i (D.toI (D.fld (getD ([(arrD s1)] : List D) 0) 43))), (D.i (D.toI (D.fld (getD ([(arrD s1)] : List D) 0) 44))), (D.i (D.toI (D.fld (getD ([(arrD s1)] : List D) 0) 45))), (D.i (D.toI (D.fld (getD ([(arrD s1)] : List D) 0) 46))), (D.i (D.toI (D.fld (getD ([(arrD s1)] : List D) 0) 47))), (D.i (D.toI (D.fld (getD ([(arrD s1)] : List D) 0) 48))), (D.i (D.toI (D.fld (getD ([(arrD s1)] : List D) 0) 49))), (D.i (D.toI (D.fld (getD ([(arrD s1)] : List D) 0) 50))), (D.i (D.toI (D.fld (getD ([(arrD s1)] : List D) 0) 51))), (D.i (D.toI (D.fld (getD ([(arrD s1)] : List D) 0) 52))), (D.i (D.toI (D.fld (getD ([(arrD s1)] : List D) 0) 53))), (D.i (D.toI (D.fld (getD ([(arrD s1)] : List D) 0) 54))), (D.i (D.toI (D.fld (getD ([(arrD s1)] : List D) 0) 55))), (D.i (D.toI (D.fld (getD ([(arrD s1)] : List D) 0) 56))), (D.i (D.toI (D.fld (getD ([(arrD s1)] : List D) 0) 57))), (D.i (D.toI (D.fld (getD ([(arrD s1)] : List D) 0) 58))), (D.i (D.toI (D.fld (getD ([(arrD s1)] : List D) 0) 59))), (D.i (D.toI (D.fld (getD ([(arrD s1)] : List D) 0) 60))), (D.i (D.toI (D.fld (getD ([(arrD s1)] : List D) 0) 61))), (D.i (D.toI (D.fld (getD ([(arrD s1)] : List D) 0) 62))), (D.i (D.toI (D.fld (getD ([(arrD s1)] : List D) 0) 63)))])))
     else none
    else none
   else
    some ((1 : Int), x2, r1)
  else
   some (y1, x2, r1)
noncomputable def F_tollbarref31_noughts : Option ((List UInt8)) :=
 if 0 ≤ (64 : Int) ∧ (64 : Int) ≤ (64 : Int) ∧ (64 : Int) * ((1 : Nat) : Int) ≤ 140737488355328 ∧ (64 : Int) ≤ 9223372036854775807 then
  some (@lrep UInt8 (toN (64 : Int)) (0 : UInt8))
 else none
noncomputable def F_tollbarref31_New_L1 (x1 : Int) : Int × (List D) → Option ((Int × (List D)) ⊕ ((List D)))
 | (i1, r1) =>
  if (ilt i1 x1) = true then
   match F_tollbarref31_noughts with
   | none => none
   | some t4 =>
    if ((((xlen r1) : Nat) : Int) + (((xlen ([(D.s t4)] : List D)) : Nat) : Int)) * ((16 : Nat) : Int) ≤ 140737488355328 then
     some (.inl ((iadd .i64 i1 (1 : Int)), (cat r1 ([(D.s t4)] : List D))))
    else none
  else
   some (.inr r1)
noncomputable def F_tollbarref31_New (x1 : Int) : Option ((List D)) :=
 iter (F_tollbarref31_New_L1 x1) ((0 : Int), ([] : List D))
noncomputable def F_block_Device_may_2 (x1 : Int) : Option (Unit) :=
 some ()
noncomputable def F_block_Device_Write_3 (x1 : Int) (s1 : List UInt8) : Option (Unit) :=
 match F_block_Device_may_2 x1 with
 | none => none
 | some () =>
  if (ieq (1 : Int) (0 : Int)) = true then
   none
  else
   some ()
noncomputable def F_tollbarref31_Read (b1 : Bool) (x1 : Int) (x2 : Int) (x3 : Int) (x4 : Int) (r1 : List D) : Option ((List UInt8) × Int) :=
 if b1 = true then
  some (([] : List UInt8), (3 : Int))
 else
  if (ilt x4 (0 : Int)) = true then
   some (([] : List UInt8), (2 : Int))
  else
   if (ile (ofN (xlen r1)) x4) = true then
    some (([] : List UInt8), (2 : Int))
   else
    if 0 ≤ x4 ∧ x4 < (ofN (xlen r1)) then
     some ((D.toS (getD r1 (toN x4))), (0 : Int))
    else none
noncomputable def F_tollbarref31_with (r1 : List D) (x1 : Int) (s1 : List UInt8) : Option ((List D)) :=
 if (((xlen r1) : Nat) : Int) * ((16 : Nat) : Int) ≤ 140737488355328 then
  if 0 ≤ x1 ∧ x1 < (ofN (xlen r1)) then
   some (setD r1 (toN x1) (D.s s1))
  else none
 else none
noncomputable def F_tollbarref31_Write (b1 : Bool) (x1 : Int) (x2 : Int) (x3 : Int) (x4 : Int) (s1 : List UInt8) (r1 : List D) : Option (Bool × Int × Int × Int × Int × (List D)) :=
 match F_tollbarref31_Read b1 x1 x2 x3 x4 r1 with
 | none => none
 | some (t1, y1) =>
  if (ieq y1 (0 : Int)) = true then
   if (ieq (ofN (xlen s1)) (64 : Int)) = true then
    if (ieq y1 (0 : Int)) = true then
     if (ieq x1 (0 : Int)) = true then
      if 0 ≤ x2 ∧ x2 ≤ (ofN (xlen s1)) then
       if 0 ≤ x4 ∧ x4 < (ofN (xlen r1)) then
        if 0 ≤ x2 ∧ x2 ≤ (ofN (xlen (D.toS (getD r1 (toN x4))))) then
         if (xlen (lsub s1 0 (toN x2))) + (xlen (lsub (D.toS (getD r1 (toN x4))) (toN x2) (ndec (xlen (D.toS (getD r1 (toN x4)))) (toN x2)))) ≤ 9223372036854775807 then
          match F_tollbarref31_with r1 x4 (cat (lsub s1 0 (toN x2)) (lsub (D.toS (getD r1 (toN x4))) (toN x2) (ndec (xlen (D.toS (getD r1 (toN x4)))) (toN x2)))) with
          | none => none
          | some q1 =>
           some (true, (-1 : Int), (0 : Int), x3, (3 : Int), q1)
         else none
        else none
       else none
      else none
     else
      match F_tollbarref31_with r1 x4 s1 with
      | none => none
      | some q2 =>
       if (ilt (0 : Int) x1) = true then
        some (b1, (isub .i64 x1 (1 : Int)), x2, (iadd .i64 x3 (1 : Int)), (0 : Int), q2)
       else
        some (b1, x1, x2, (iadd .i64 x3 (1 : Int)), (0 : Int), q2)
    else
     none
   else
    if (ieq (1 : Int) (0 : Int)) = true then
     none
    else
     some (b1, x1, x2, x3, (1 : Int), r1)
  else
   if (ieq y1 (0 : Int)) = true then
    none
   else
    some (b1, x1, x2, x3, y1, r1)
noncomputable def F_block_Device_Arm (x1 : Int) (x2 : Int) : Option (Unit) :=
 some ()
noncomputable def F_tollbarref31_Arm (b1 : Bool) (x1 : Int) (x2 : Int) (x3 : Int) (x4 : Int) (x5 : Int) (r1 : List D) : Option (Int × Int × Int) :=
 if (ilt x4 (0 : Int)) = true then
  some (x1, x2, (1 : Int))
 else
  if (ilt x5 (0 : Int)) = true then
   some (x1, x2, (1 : Int))
  else
   if (ilt (64 : Int) x5) = true then
    some (x1, x2, (1 : Int))
   else
    some (x4, x5, (0 : Int))
noncomputable def F_tollbarlaw32_bytes_L1 (x2 : Int) : Int × (List UInt8) → Option ((Int × (List UInt8)) ⊕ ((List UInt8)))
 | (i1, s1) =>
  if (ilt i1 (ofN (xlen s1))) = true then
   if 0 ≤ i1 ∧ i1 < (ofN (xlen s1)) then
    if 0 ≤ (iadd .u8 x2 (iconv .u8 (irem i1 (7 : Int)))) ∧ (iadd .u8 x2 (iconv .u8 (irem i1 (7 : Int)))) < 256 then
     some (.inl ((iadd .i64 i1 (1 : Int)), (setB s1 (toN i1) (iadd .u8 x2 (iconv .u8 (irem i1 (7 : Int)))))))
    else none
   else none
  else
   some (.inr s1)
noncomputable def F_tollbarlaw32_bytes (x1 : Int) (x2 : Int) (x3 : Int) (x4 : Int) : Option ((List UInt8)) :=
 if 0 ≤ (irem (iconv .i64 x1) (8400 : Int)) ∧ (irem (iconv .i64 x1) (8400 : Int)) ≤ (irem (iconv .i64 x1) (8400 : Int)) ∧ (irem (iconv .i64 x1) (8400 : Int)) * ((1 : Nat) : Int) ≤ 140737488355328 ∧ (irem (iconv .i64 x1) (8400 : Int)) ≤ 9223372036854775807 then
  iter (F_tollbarlaw32_bytes_L1 x2) ((0 : Int), (@lrep UInt8 (toN (irem (iconv .i64 x1) (8400 : Int))) (0 : UInt8)))
 else none
noncomputable def F_tollbarref01_Value_L3 (s2 : List UInt8) : Int × Int → Option ((Int × Int) ⊕ (Int × Bool))
 | (i3, i4) =>
  if (ilt i4 (ofN (xlen s2))) = true then
   if 0 ≤ i4 ∧ i4 < (ofN (xlen s2)) then
    some (.inl ((iadd .u64 (imul .u64 (256 : Int) i3) (iconv .u64 (getB s2 (toN i4)))), (iadd .i64 i4 (1 : Int))))
   else none
  else
   some (.inr (i3, true))
noncomputable def F_tollbarref01_Value_L2 (s2 : List UInt8) : Int × Int → Option ((Int × Int) ⊕ (Int × Bool))
 | (i1, i2) =>
  if (ilt i2 (ofN (xlen s2))) = true then
   if 0 ≤ i2 ∧ i2 < (ofN (xlen s2)) then
    some (.inl ((iadd .u64 (imul .u64 (256 : Int) i1) (iconv .u64 (getB s2 (toN i2)))), (iadd .i64 i2 (1 : Int))))
   else none
  else
   some (.inr (i1, true))
noncomputable def F_tollbarref01_Value_L1 : (List UInt8) → Option (((List UInt8)) ⊕ (Int × Bool))
 | s2 =>
  if (seq s2 ([] : List UInt8)) = true then
   if (ilt (8 : Int) (ofN (xlen s2))) = true then
    some (.inr ((0 : Int), false))
   else
    Option.map (fun t => (.inr t)) (iter (F_tollbarref01_Value_L3 s2) ((0 : Int), (0 : Int)))
  else
   if 0 ≤ (0 : Int) ∧ (0 : Int) < (ofN (xlen s2)) then
    if (ieq (getB s2 (toN (0 : Int))) (0 : Int)) = true then
     if 0 ≤ (1 : Int) ∧ (1 : Int) ≤ (ofN (xlen s2)) then
      some (.inl (lsub s2 (toN (1 : Int)) (ndec (xlen s2) (toN (1 : Int)))))
     else none
    else
     if (ilt (8 : Int) (ofN (xlen s2))) = true then
      some (.inr ((0 : Int), false))
     else
      Option.map (fun t => (.inr t)) (iter (F_tollbarref01_Value_L2 s2) ((0 : Int), (0 : Int)))
   else none
noncomputable def F_tollbarref01_Value (s1 : List UInt8) : Option (Int × Bool) :=
 iter F_tollbarref01_Value_L1 s1
noncomputable def F_tollbarref32_number (s1 : List UInt8) (x1 : Int) (x2 : Int) : Option (Int) :=
 if 0 ≤ x1 ∧ x1 ≤ x2 ∧ x2 ≤ (ofN (xlen s1)) then
  match F_tollbarref01_Value (lsub s1 (toN x1) (ndec (toN x2) (toN x1))) with
  | none => none
  | some (y1, c1) =>
   some y1
 else none
noncomputable def F_tollbarref04_Sum_L2 (i4 : Int) : Int × Int → Option ((Int × Int) ⊕ ((Int × Int) ⊕ (Int)))
 | (i7, i8) =>
  if (ilt i8 (8 : Int)) = true then
   if (ieq (irem i7 (2 : Int)) (1 : Int)) = true then
    some (.inl ((ixor .u32 (iquo .u32 i7 (2 : Int)) (2197175160 : Int)), (iadd .i64 i8 (1 : Int))))
   else
    some (.inl ((iquo .u32 i7 (2 : Int)), (iadd .i64 i8 (1 : Int))))
  else
   some (.inr (.inl (i7, (iadd .i64 i4 (1 : Int)))))
noncomputable def F_tollbarref04_Sum_L1 (s1 : List UInt8) : Int × Int → Option ((Int × Int) ⊕ (Int))
 | (i3, i4) =>
  if (ilt i4 (ofN (xlen s1))) = true then
   if 0 ≤ i4 ∧ i4 < (ofN (xlen s1)) then
    iter (F_tollbarref04_Sum_L2 i4) ((ixor .u32 i3 (iconv .u32 (getB s1 (toN i4)))), (0 : Int))
   else none
  else
   some (.inr (isub .u32 (4294967295 : Int) i3))
noncomputable def F_tollbarref04_Sum (s1 : List UInt8) : Option (Int) :=
 iter (F_tollbarref04_Sum_L1 s1) ((4294967295 : Int), (0 : Int))
noncomputable def F_tollbarref32_area_L1 (y2 : Int) (x4 : Int) (r1 : List D) (y1 : Int) : (List UInt8) × Int → Option (((List UInt8) × Int) ⊕ ((List UInt8) × Int))
 | (s1, i1) =>
  if (ilt i1 (128 : Int)) = true then
   if (ilt (iconv .u64 (imul .i64 (64 : Int) i1)) y2) = true then
    if 0 ≤ (iadd .i64 (iadd .i64 (imul .i64 (130 : Int) x4) (1 : Int)) i1) ∧ (iadd .i64 (iadd .i64 (imul .i64 (130 : Int) x4) (1 : Int)) i1) < (ofN (xlen r1)) then
     if (xlen s1) + (xlen (D.toS (getD r1 (toN (iadd .i64 (iadd .i64 (imul .i64 (130 : Int) x4) (1 : Int)) i1))))) ≤ 9223372036854775807 then
      some (.inl ((cat s1 (D.toS (getD r1 (toN (iadd .i64 (iadd .i64 (imul .i64 (130 : Int) x4) (1 : Int)) i1))))), (iadd .i64 i1 (1 : Int))))
     else none
    else none
   else
    if 0 ≤ y2 ∧ y2 ≤ (ofN (xlen s1)) then
     match F_tollbarref04_Sum (lsub s1 0 (toN y2)) with
     | none => none
     | some y4 =>
      match F_tollbarref32_number (D.toS (getD r1 (toN (imul .i64 (130 : Int) x4)))) (12 : Int) (16 : Int) with
      | none => none
      | some y5 =>
       if (ieq (iconv .u64 y4) y5) = true then
        some (.inr ((lsub s1 0 (toN y2)), y1))
       else
        some (.inr (([] : List UInt8), (0 : Int)))
    else none
  else
   if 0 ≤ y2 ∧ y2 ≤ (ofN (xlen s1)) then
    match F_tollbarref04_Sum (lsub s1 0 (toN y2)) with
    | none => none
    | some y6 =>
     match F_tollbarref32_number (D.toS (getD r1 (toN (imul .i64 (130 : Int) x4)))) (12 : Int) (16 : Int) with
     | none => none
     | some y7 =>
      if (ieq (iconv .u64 y6) y7) = true then
       some (.inr ((lsub s1 0 (toN y2)), y1))
      else
       some (.inr (([] : List UInt8), (0 : Int)))
   else none
noncomputable def F_tollbarref32_area (b1 : Bool) (x1 : Int) (x2 : Int) (x3 : Int) (x4 : Int) (r1 : List D) : Option ((List UInt8) × Int) :=
 if 0 ≤ (imul .i64 (130 : Int) x4) ∧ (imul .i64 (130 : Int) x4) < (ofN (xlen r1)) then
  match F_tollbarref32_number (D.toS (getD r1 (toN (imul .i64 (130 : Int) x4)))) (0 : Int) (8 : Int) with
  | none => none
  | some y1 =>
   match F_tollbarref32_number (D.toS (getD r1 (toN (imul .i64 (130 : Int) x4)))) (8 : Int) (12 : Int) with
   | none => none
   | some y2 =>
    if (ieq y1 (0 : Int)) = true then
     some (([] : List UInt8), (0 : Int))
    else
     match F_tollbarref32_number (D.toS (getD r1 (toN (imul .i64 (130 : Int) x4)))) (56 : Int) (64 : Int) with
     | none => none
     | some y3 =>
      if (ieq y1 y3) = true then
       if (ieq (iconv .i64 (irem y1 (2 : Int))) x4) = true then
        if (ilt (8192 : Int) y2) = true then
         some (([] : List UInt8), (0 : Int))
        else
         if 0 ≤ (16 : Int) ∧ (16 : Int) ≤ (56 : Int) ∧ (56 : Int) ≤ (ofN (xlen (D.toS (getD r1 (toN (imul .i64 (130 : Int) x4)))))) then
          if 0 ≤ (40 : Int) ∧ (40 : Int) ≤ (40 : Int) ∧ (40 : Int) * ((1 : Nat) : Int) ≤ 140737488355328 ∧ (40 : Int) ≤ 9223372036854775807 then
           if (seq (lsub (D.toS (getD r1 (toN (imul .i64 (130 : Int) x4)))) (toN (16 : Int)) (ndec (toN (56 : Int)) (toN (16 : Int)))) (@lrep UInt8 (toN (40 : Int)) (0 : UInt8))) = true then
            iter (F_tollbarref32_area_L1 y2 x4 r1 y1) (([] : List UInt8), (0 : Int))
           else
            some (([] : List UInt8), (0 : Int))
          else none
         else none
       else
        some (([] : List UInt8), (0 : Int))
      else
       some (([] : List UInt8), (0 : Int))
 else none
noncomputable def F_tollbarref32_Load (b1 : Bool) (x1 : Int) (x2 : Int) (x3 : Int) (r1 : List D) : Option ((List UInt8) × Int × Int) :=
 if (ilt (ofN (xlen r1)) (260 : Int)) = true then
  some (([] : List UInt8), (0 : Int), (1 : Int))
 else
  if b1 = true then
   some (([] : List UInt8), (0 : Int), (3 : Int))
  else
   match F_tollbarref32_area b1 x1 x2 x3 (0 : Int) r1 with
   | none => none
   | some (t1, y1) =>
    match F_tollbarref32_area b1 x1 x2 x3 (1 : Int) r1 with
    | none => none
    | some (t2, y2) =>
     if (ieq (iadd .u64 y1 y2) (0 : Int)) = true then
      some (([] : List UInt8), (0 : Int), (39 : Int))
     else
      if (ilt y2 y1) = true then
       some (t1, y1, (0 : Int))
      else
       some (t2, y2, (0 : Int))
noncomputable def F_tollbarref01_one (x1 : Int) : Option ((List UInt8)) :=
 if 0 ≤ (iconv .u8 (irem x1 (256 : Int))) ∧ (iconv .u8 (irem x1 (256 : Int))) < 256 then
  some (byteOf (iconv .u8 (irem x1 (256 : Int))) :: ([] : List UInt8))
 else none
noncomputable def F_tollbarref01_Big_L1 (x2 : Int) : Int × (List UInt8) × Int → Option ((Int × (List UInt8) × Int) ⊕ ((List UInt8)))
 | (i1, s1, i2) =>
  if (ilt i2 x2) = true then
   if (ile x2 (8 : Int)) = true then
    match F_tollbarref01_one i1 with
    | none => none
    | some t3 =>
     if (xlen t3) + (xlen s1) ≤ 9223372036854775807 then
      some (.inl ((iquo .u64 i1 (256 : Int)), (cat t3 s1), (iadd .i64 i2 (1 : Int))))
     else none
   else
    some (.inr s1)
  else
   some (.inr s1)
noncomputable def F_tollbarref01_Big (x1 : Int) (x2 : Int) : Option ((List UInt8)) :=
 iter (F_tollbarref01_Big_L1 x2) (x1, ([] : List UInt8), (0 : Int))
noncomputable def F_tollbarref32_Save_L1 (s1 : List UInt8) (y1 : Int) (t2 : List UInt8) (t3 : List UInt8) (t4 : List UInt8) : Int × Bool × Int × Int × Int × (List D) → Option ((Int × Bool × Int × Int × Int × (List D)) ⊕ (Bool × Int × Int × Int × Int × (List D)))
 | (i1, b2, i2, i3, i4, r2) =>
  if (ilt (imul .i64 (64 : Int) i1) (ofN (xlen s1))) = true then
   if 0 ≤ (imul .i64 (64 : Int) i1) ∧ (imul .i64 (64 : Int) i1) ≤ (ofN (xlen s1)) then
    if (ilt (64 : Int) (ofN (xlen (lsub s1 (toN (imul .i64 (64 : Int) i1)) (ndec (xlen s1) (toN (imul .i64 (64 : Int) i1))))))) = true then
     if 0 ≤ (64 : Int) ∧ (64 : Int) ≤ (ofN (xlen (lsub s1 (toN (imul .i64 (64 : Int) i1)) (ndec (xlen s1) (toN (imul .i64 (64 : Int) i1)))))) then
      if 0 ≤ (isub .i64 (64 : Int) (ofN (xlen (lsub (lsub s1 (toN (imul .i64 (64 : Int) i1)) (ndec (xlen s1) (toN (imul .i64 (64 : Int) i1)))) 0 (toN (64 : Int)))))) ∧ (isub .i64 (64 : Int) (ofN (xlen (lsub (lsub s1 (toN (imul .i64 (64 : Int) i1)) (ndec (xlen s1) (toN (imul .i64 (64 : Int) i1)))) 0 (toN (64 : Int)))))) ≤ (isub .i64 (64 : Int) (ofN (xlen (lsub (lsub s1 (toN (imul .i64 (64 : Int) i1)) (ndec (xlen s1) (toN (imul .i64 (64 : Int) i1)))) 0 (toN (64 : Int)))))) ∧ (isub .i64 (64 : Int) (ofN (xlen (lsub (lsub s1 (toN (imul .i64 (64 : Int) i1)) (ndec (xlen s1) (toN (imul .i64 (64 : Int) i1)))) 0 (toN (64 : Int)))))) * ((1 : Nat) : Int) ≤ 140737488355328 ∧ (isub .i64 (64 : Int) (ofN (xlen (lsub (lsub s1 (toN (imul .i64 (64 : Int) i1)) (ndec (xlen s1) (toN (imul .i64 (64 : Int) i1)))) 0 (toN (64 : Int)))))) ≤ 9223372036854775807 then
       if (xlen (lsub (lsub s1 (toN (imul .i64 (64 : Int) i1)) (ndec (xlen s1) (toN (imul .i64 (64 : Int) i1)))) 0 (toN (64 : Int)))) + (xlen (@lrep UInt8 (toN (isub .i64 (64 : Int) (ofN (xlen (lsub (lsub s1 (toN (imul .i64 (64 : Int) i1)) (ndec (xlen s1) (toN (imul .i64 (64 : Int) i1)))) 0 (toN (64 : Int))))))) (0 : UInt8))) ≤ 9223372036854775807 then
        match F_tollbarref31_Write b2 i2 i3 i4 (iadd .i64 (iadd .i64 (imul .i64 (130 : Int) (iconv .i64 (irem (iadd .u64 y1 (1 : Int)) (2 : Int)))) (1 : Int)) i1) (cat (lsub (lsub s1 (toN (imul .i64 (64 : Int) i1)) (ndec (xlen s1) (toN (imul .i64 (64 : Int) i1)))) 0 (toN (64 : Int))) (@lrep UInt8 (toN (isub .i64 (64 : Int) (ofN (xlen (lsub (lsub s1 (toN (imul .i64 (64 : Int) i1)) (ndec (xlen s1) (toN (imul .i64 (64 : Int) i1)))) 0 (toN (64 : Int))))))) (0 : UInt8))) r2 with
        | none => none
        | some (c7, y28, y29, y30, y31, q7) =>
         if (ieq y31 (0 : Int)) = true then
          some (.inl ((iadd .i64 i1 (1 : Int)), c7, y28, y29, y30, q7))
         else
          some (.inr (c7, y28, y29, y30, y31, q7))
       else none
      else none
     else none
    else
     if 0 ≤ (isub .i64 (64 : Int) (ofN (xlen (lsub s1 (toN (imul .i64 (64 : Int) i1)) (ndec (xlen s1) (toN (imul .i64 (64 : Int) i1))))))) ∧ (isub .i64 (64 : Int) (ofN (xlen (lsub s1 (toN (imul .i64 (64 : Int) i1)) (ndec (xlen s1) (toN (imul .i64 (64 : Int) i1))))))) ≤ (isub .i64 (64 : Int) (ofN (xlen (lsub s1 (toN (imul .i64 (64 : Int) i1)) (ndec (xlen s1) (toN (imul .i64 (64 : Int) i1))))))) ∧ (isub .i64 (64 : Int) (ofN (xlen (lsub s1 (toN (imul .i64 (64 : Int) i1)) (ndec (xlen s1) (toN (imul .i64 (64 : Int) i1))))))) * ((1 : Nat) : Int) ≤ 140737488355328 ∧ (isub .i64 (64 : Int) (ofN (xlen (lsub s1 (toN (imul .i64 (64 : Int) i1)) (ndec (xlen s1) (toN (imul .i64 (64 : Int) i1))))))) ≤ 9223372036854775807 then
      if (xlen (lsub s1 (toN (imul .i64 (64 : Int) i1)) (ndec (xlen s1) (toN (imul .i64 (64 : Int) i1))))) + (xlen (@lrep UInt8 (toN (isub .i64 (64 : Int) (ofN (xlen (lsub s1 (toN (imul .i64 (64 : Int) i1)) (ndec (xlen s1) (toN (imul .i64 (64 : Int) i1)))))))) (0 : UInt8))) ≤ 9223372036854775807 then
       match F_tollbarref31_Write b2 i2 i3 i4 (iadd .i64 (iadd .i64 (imul .i64 (130 : Int) (iconv .i64 (irem (iadd .u64 y1 (1 : Int)) (2 : Int)))) (1 : Int)) i1) (cat (lsub s1 (toN (imul .i64 (64 : Int) i1)) (ndec (xlen s1) (toN (imul .i64 (64 : Int) i1)))) (@lrep UInt8 (toN (isub .i64 (64 : Int) (ofN (xlen (lsub s1 (toN (imul .i64 (64 : Int) i1)) (ndec (xlen s1) (toN (imul .i64 (64 : Int) i1)))))))) (0 : UInt8))) r2 with
       | none => none
       | some (c8, y32, y33, y34, y35, q8) =>
        if (ieq y35 (0 : Int)) = true then
         some (.inl ((iadd .i64 i1 (1 : Int)), c8, y32, y33, y34, q8))
        else
         some (.inr (c8, y32, y33, y34, y35, q8))
      else none
     else none
   else none
  else
   match F_tollbarref31_Write b2 i2 i3 i4 (imul .i64 (130 : Int) (iconv .i64 (irem (iadd .u64 y1 (1 : Int)) (2 : Int)))) (cat (cat (cat (cat t2 t3) t4) (@lrep UInt8 (toN (40 : Int)) (0 : UInt8))) t2) r2 with
   | none => none
   | some (c9, y36, y37, y38, y39, q9) =>
    some (.inr (c9, y36, y37, y38, y39, q9))
noncomputable def F_tollbarref32_Save (b1 : Bool) (x1 : Int) (x2 : Int) (x3 : Int) (s1 : List UInt8) (r1 : List D) : Option (Bool × Int × Int × Int × Int × (List D)) :=
 match F_tollbarref32_Load b1 x1 x2 x3 r1 with
 | none => none
 | some (t1, y1, y2) =>
  if (ieq y2 (1 : Int)) = true then
   some (b1, x1, x2, x3, y2, r1)
  else
   if (ilt (8192 : Int) (ofN (xlen s1))) = true then
    some (b1, x1, x2, x3, (14 : Int), r1)
   else
    if (ieq y2 (3 : Int)) = true then
     some (b1, x1, x2, x3, y2, r1)
    else
     match F_tollbarref04_Sum s1 with
     | none => none
     | some y3 =>
      match F_tollbarref01_Big (iadd .u64 y1 (1 : Int)) (8 : Int) with
      | none => none
      | some t2 =>
       match F_tollbarref01_Big (iconv .u64 (ofN (xlen s1))) (4 : Int) with
       | none => none
       | some t3 =>
        if (xlen t2) + (xlen t3) ≤ 9223372036854775807 then
         match F_tollbarref01_Big (iconv .u64 y3) (4 : Int) with
         | none => none
         | some t4 =>
          if (xlen (cat t2 t3)) + (xlen t4) ≤ 9223372036854775807 then
           if 0 ≤ (40 : Int) ∧ (40 : Int) ≤ (40 : Int) ∧ (40 : Int) * ((1 : Nat) : Int) ≤ 140737488355328 ∧ (40 : Int) ≤ 9223372036854775807 then
            if (xlen (cat (cat t2 t3) t4)) + (xlen (@lrep UInt8 (toN (40 : Int)) (0 : UInt8))) ≤ 9223372036854775807 then
             if (xlen (cat (cat (cat t2 t3) t4) (@lrep UInt8 (toN (40 : Int)) (0 : UInt8)))) + (xlen t2) ≤ 9223372036854775807 then
              iter (F_tollbarref32_Save_L1 s1 y1 t2 t3 t4) ((0 : Int), b1, x1, x2, x3, r1)
             else none
            else none
           else none
          else none
        else none
noncomputable def F_block_Device_Up : Option (Unit) :=
 some ()
noncomputable def F_tollbarref31_Up (b1 : Bool) (x1 : Int) (x2 : Int) (x3 : Int) (r1 : List D) : Option (Unit) :=
 some ()
noncomputable def F_block_Device_Arm_2 (x1 : Int) (x2 : Int) (b1 : Bool) (x3 : Int) (r1 : List D) : Option ((Unit) ⊕ (Unit)) :=
 if (ilt x1 (0 : Int)) = true then
  some (.inl ())
 else
  if (ilt x2 (0 : Int)) = true then
   some (.inl ())
  else
   if (ilt (64 : Int) x2) = true then
    some (.inl ())
   else
    some (.inr ())
noncomputable def F_block_Device_Up_2 (b1 : Bool) (x1 : Int) (r1 : List D) : Option (Unit) :=
 some ()
noncomputable def F_block_Device_Blocks_3 (b1 : Bool) (x1 : Int) (r1 : List D) (x2 : Int) (x3 : Int) : Option (Int) :=
 some (ofN (xlen r1))
noncomputable def F_block_Device_Down_2 (b1 : Bool) (x1 : Int) (r1 : List D) (x2 : Int) (x3 : Int) : Option (Unit) :=
 some ()
noncomputable def F_block_Device_may_3 (x1 : Int) (b1 : Bool) (x2 : Int) (r1 : List D) (x3 : Int) (x4 : Int) : Option (Int) :=
 if b1 = true then
  some (3 : Int)
 else
  if (ilt x1 (0 : Int)) = true then
   some (2 : Int)
  else
   if (ile (ofN (xlen r1)) x1) = true then
    some (2 : Int)
   else
    some (0 : Int)
noncomputable def F_block_Device_Read_2 (x1 : Int) (b1 : Bool) (x2 : Int) (r1 : List D) (x3 : Int) (x4 : Int) : Option (Int × (List UInt8)) :=
 match F_block_Device_may_3 x1 b1 x2 r1 x3 x4 with
 | none => none
 | some y1 =>
  if (ieq y1 (0 : Int)) = true then
   if 0 ≤ x1 ∧ x1 < (ofN (xlen r1)) then
    if allU8 ([(D.toI (D.fld (getD r1 (toN x1)) 0)), (D.toI (D.fld (getD r1 (toN x1)) 1)), (D.toI (D.fld (getD r1 (toN x1)) 2)), (D.toI (D.fld (getD r1 (toN x1)) 3)), (D.toI (D.fld (getD r1 (toN x1)) 4)), (D.toI (D.fld (getD r1 (toN x1)) 5)), (D.toI (D.fld (getD r1 (toN x1)) 6)), (D.toI (D.fld (getD r1 (toN x1)) 7)), (D.toI (D.fld (getD r1 (toN x1)) 8)), (D.toI (D.fld (getD r1 (toN x1)) 9)), (D.toI (D.fld (getD r1 (toN x1)) 10)), (D.toI (D.fld (getD r1 (toN x1)) 11)), (D.toI (D.fld (getD r1 (toN x1)) 12)), (D.toI (D.fld (getD r1 (toN x1)) 13)), (D.toI (D.fld (getD r1 (toN x1)) 14)), (D.toI (D.fld (getD r1 (toN x1)) 15)), (D.toI (D.fld (getD r1 (toN x1)) 16)), (D.toI (D.fld (getD r1 (toN x1)) 17)), (D.toI (D.fld (getD r1 (toN x1)) 18)), (D.toI (D.fld (getD r1 (toN x1)) 19)), (D.toI (D.fld (getD r1 (toN x1)) 20)), (D.toI (D.fld (getD r1 (toN x1)) 21)), (D.toI (D.fld (getD r1 (toN x1)) 22)), (D.toI (D.fld (getD r1 (toN x1)) 23)), (D.toI (D.fld (getD r1 (toN x1)) 24)), (D.toI (D.fld (getD r1 (toN x1)) 25)), (D.toI (D.fld (getD r1 (toN x1)) 26)), (D.toI (D.fld (getD r1 (toN x1)) 27)), (D.toI (D.fld (getD r1 (toN x1)) 28)), (D.toI (D.fld (getD r1 (toN x1)) 29)), (D.toI (D.fld (getD r1 (toN x1)) 30)), (D.toI (D.fld (getD r1 (toN x1)) 31)), (D.toI (D.fld (getD r1 (toN x1)) 32)), (D.toI (D.fld (getD r1 (toN x1)) 33)), (D.toI (D.fld (getD r1 (toN x1)) 34)), (D.toI (D.fld (getD r1 (toN x1)) 35)), (D.toI (D.fld (getD r1 (toN x1)) 36)), (D.toI (D.fld (getD r1 (toN x1)) 37)), (D.toI (D.fld (getD r1 (toN x1)) 38)), (D.toI (D.fld (getD r1 (toN x1)) 39)), (D.toI (D.fld (getD r1 (toN x1)) 40)), (D.toI (D.fld (getD r1 (toN x1)) 41)), (D.toI (D.fld (getD r1 (toN x1)) 42)), (D.toI (D.fld (getD r1 (toN x1)) 43)), (D.toI (D.fld (getD r1 (toN x1)) 44)), (D.toI (D.fld (getD r1 (toN x1)) 45)), (D.toI (D.fld (getD r1 (toN x1)) 46)), (D.toI (D.fld (getD r1 (toN x1)) 47)), (D.toI (D.fld (getD r1 (toN x1)) 48)), (D.toI (D.fld (getD r1 (toN x1)) 49)), (D.toI (D.fld (getD r1 (toN x1)) 50)), (D.toI (D.fld (getD r1 (toN x1)) 51)), (D.toI (D.fld (getD r1 (toN x1)) 52)), (D.toI (D.fld (getD r1 (toN x1)) 53)), (D.toI (D.fld (getD r1 (toN x1)) 54)), (D.toI (D.fld (getD r1 (toN x1)) 55)), (D.toI (D.fld (getD r1 (toN x1)) 56)), (D.toI (D.fld (getD r1 (toN x1)) 57)), (D.toI (D.fld (getD r1 (toN x1)) 58)), (D.toI (D.fld (getD r1 (toN x1)) 59)), (D.toI (D.fld (getD r1 (toN x1)) 60)), (D.toI (D.fld (getD r1 (toN x1)) 61)), (D.toI (D.fld (getD r1 (toN x1)) 62)), (D.toI (D.fld (getD r1 (toN x1)) 63))] : List Int) then
     some ((0 : Int), (bsL ([(D.toI (D.fld (getD r1 (toN x1)) 0)), (D.toI (D.fld (getD r1 (toN x1)) 1)), (D.toI (D.fld (getD r1 (toN x1)) 2)), (D.toI (D.fld (getD r1 (toN x1)) 3)), (D.toI (D.fld (getD r1 (toN x1)) 4)), (D.toI (D.fld (getD r1 (toN x1)) 5)), (D.toI (D.fld (getD r1 (toN x1)) 6)), (D.toI (D.fld (getD r1 (toN x1)) 7)), (D.toI (D.fld (getD r1 (toN x1)) 8)), (D.toI (D.fld (getD r1 (toN x1)) 9)), (D.toI (D.fld (getD r1 (toN x1)) 10)), (D.toI (D.fld (getD r1 (toN x1)) 11)), (D.toI (D.fld (getD r1 (toN x1)) 12)), (D.toI (D.fld (getD r1 (toN x1)) 13)), (D.toI (D.fld (getD r1 (toN x1)) 14)), (D.toI (D.fld (getD r1 (toN x1)) 15)), (D.toI (D.fld (getD r1 (toN x1)) 16)), (D.toI (D.fld (getD r1 (toN x1)) 17)), (D.toI (D.fld (getD r1 (toN x1)) 18)), (D.toI (D.fld (getD r1 (toN x1)) 19)), (D.toI (D.fld (getD r1 (toN x1)) 20)), (D.toI (D.fld (getD r1 (toN x1)) 21)), (D.toI (D.fld (getD r1 (toN x1)) 22)), (D.toI (D.fld (getD r1 (toN x1)) 23)), (D.toI (D.fld (getD r1 (toN x1)) 24)), (D.toI (D.fld (getD r1 (toN x1)) 25)), (D.toI (D.fld (getD r1 (toN x1)) 26)), (D.toI (D.fld (getD r1 (toN x1)) 27)), (D.toI (D.fld (getD r1 (toN x1)) 28)), (D.toI (D.fld (getD r1 (toN x1)) 29)), (D.toI (D.fld (getD r1 (toN x1)) 30)), (D.toI (D.fld (getD r1 (toN x1)) 31)), (D.toI (D.fld (getD r1 (toN x1)) 32)), (D.toI (D.fld (getD r1 (toN x1)) 33)), (D.toI (D.fld (getD r1 (toN x1)) 34)), (D.toI (D.fld (getD r1 (toN x1)) 35)), (D.toI (D.fld (getD r1 (toN x1)) 36)), (D.toI (D.fld (getD r1 (toN x1)) 37)), (D.toI (D.fld (getD r1 (toN x1)) 38)), (D.toI (D.fld (getD r1 (toN x1)) 39)), (D.toI (D.fld (getD r1 (toN x1)) 40)), (D.toI (D.fld (getD r1 (toN x1)) 41)), (D.toI (D.fld (getD r1 (toN x1)) 42)), (D.toI (D.fld (getD r1 (toN x1)) 43)), (D.toI (D.fld (getD r1 (toN x1)) 44)), (D.toI (D.fld (getD r1 (toN x1)) 45)), (D.toI (D.fld (getD r1 (toN x1)) 46)), (D.toI (D.fld (getD r1 (toN x1)) 47)), (D.toI (D.fld (getD r1 (toN x1)) 48)), (D.toI (D.fld (getD r1 (toN x1)) 49)), (D.toI (D.fld (getD r1 (toN x1)) 50)), (D.toI (D.fld (getD r1 (toN x1)) 51)), (D.toI (D.fld (getD r1 (toN x1)) 52)), (D.toI (D.fld (getD r1 (toN x1)) 53)), (D.toI (D.fld (getD r1 (toN x1)) 54)), (D.toI (D.fld (getD r1 (toN x1)) 55)), (D.toI (D.fld (getD r1 (toN x1)) 56)), (D.toI (D.fld (getD r1 (toN x1)) 57)), (D.toI (D.fld (getD r1 (toN x1)) 58)), (D.toI (D.fld (getD r1 (toN x1)) 59)), (D.toI (D.fld (getD r1 (toN x1)) 60)), (D.toI (D.fld (getD r1 (toN x1)) 61)), (D.toI (D.fld (getD r1 (toN x1)) 62)), (D.toI (D.fld (getD r1 (toN x1)) 63))] : List Int)))
    else none
   else none
  else
   some (y1, ([] : List UInt8))
noncomputable def F_journal_read_2_L1 (x2 : Int) (b1 : Bool) (x3 : Int) (r1 : List D) (x4 : Int) (x5 : Int) : Int × (List UInt8) → Option ((Int × (List UInt8)) ⊕ (Nat × (List UInt8)))
 | (i1, s1) =>
  if (ilt (ofN (xlen s1)) x2) = true then
   match F_block_Device_Read_2 i1 b1 x3 r1 x4 x5 with
   | none => none
   | some (y4, t4) =>
    if (ieq y4 (0 : Int)) = true then
     if ((((xlen s1) : Nat) : Int) + (((xlen t4) : Nat) : Int)) * ((1 : Nat) : Int) ≤ 140737488355328 then
      some (.inl ((iadd .i64 i1 (1 : Int)), (cat s1 t4)))
     else none
    else
     some (.inr ((xlen s1), s1))
  else
   if 0 ≤ x2 ∧ x2 ≤ (ofN (xlen s1)) then
    some (.inr ((toN x2), s1))
   else none
noncomputable def F_journal_read_2 (x1 : Int) (x2 : Int) (b1 : Bool) (x3 : Int) (r1 : List D) (x4 : Int) (x5 : Int) : Option (Nat × (List UInt8)) :=
 iter (F_journal_read_2_L1 x2 b1 x3 r1 x4 x5) ((iadd .i64 (imul .i64 (iconv .i64 x1) (130 : Int)) (1 : Int)), ([] : List UInt8))
noncomputable def F_journal_whole_2 (x1 : Int) (b1 : Bool) (x2 : Int) (r1 : List D) (x3 : Int) (x4 : Int) : Option (Nat × Int × (List UInt8)) :=
 match F_block_Device_Read_2 (imul .i64 (iconv .i64 x1) (130 : Int)) b1 x2 r1 x3 x4 with
 | none => none
 | some (y1, t1) =>
  if (ieq y1 (0 : Int)) = true then
   match F_octet_Open t1 with
   | none => none
   | some t2 =>
    match F_octet_Window_Num (8 : Int) (0 : Int) t2 with
    | none => none
    | some (y2, k1, k2, y3) =>
     match F_octet_Window_Num_2 (4 : Int) k1 k2 y3 t2 with
     | none => none
     | some (y4, k3, k4, y5) =>
      if (ieq y2 (0 : Int)) = true then
       some (0, (0 : Int), ([] : List UInt8))
      else
       if (ieq (irem y2 (2 : Int)) x1) = true then
        if (ilt (8192 : Int) y4) = true then
         some (0, (0 : Int), ([] : List UInt8))
        else
         match F_journal_read_2 x1 (iconv .i64 y4) b1 x2 r1 x3 x4 with
         | none => none
         | some (k5, t3) =>
          match F_journal_head y2 0 k5 t3 with
          | none => none
          | some t4 =>
           match F_bytes_Equal t1 t4 with
           | none => none
           | some c1 =>
            if c1 = true then
             some (k5, y2, t3)
            else
             some (0, (0 : Int), ([] : List UInt8))
       else
        some (0, (0 : Int), ([] : List UInt8))
  else
   some (0, (0 : Int), ([] : List UInt8))
noncomputable def F_journal_Load_3 (b1 : Bool) (x1 : Int) (r1 : List D) (x2 : Int) (x3 : Int) : Option (Nat × Int × Int × (List UInt8)) :=
 match F_block_Device_Blocks_3 b1 x1 r1 x2 x3 with
 | none => none
 | some y1 =>
  if (ilt y1 (260 : Int)) = true then
   some (0, (0 : Int), (1 : Int), ([] : List UInt8))
  else
   match F_block_Device_Down_2 b1 x1 r1 x2 x3 with
   | none => none
   | some () =>
    if b1 = true then
     some (0, (0 : Int), (3 : Int), ([] : List UInt8))
    else
     match F_journal_whole_2 (0 : Int) b1 x1 r1 x2 x3 with
     | none => none
     | some (k1, y2, t1) =>
      match F_journal_whole_2 (1 : Int) b1 x1 r1 x2 x3 with
      | none => none
      | some (k2, y3, t2) =>
       if (ieq y2 (0 : Int)) = true then
        if (ieq y3 (0 : Int)) = true then
         some (0, (0 : Int), (39 : Int), ([] : List UInt8))
        else
         if (ilt y3 y2) = true then
          some (k1, y2, (0 : Int), t1)
         else
          some (k2, y3, (0 : Int), t2)
       else
        if (ilt y3 y2) = true then
         some (k1, y2, (0 : Int), t1)
        else
         some (k2, y3, (0 : Int), t2)
noncomputable def F_block_Device_Write_4 (x1 : Int) (s1 : List UInt8) (b1 : Bool) (x2 : Int) (r1 : List D) (x3 : Int) (x4 : Int) : Option ((Int × Int × (List D) × Int) ⊕ ((List D))) :=
 match F_block_Device_may_3 x1 b1 x2 r1 x3 x4 with
 | none => none
 | some y1 =>
  if (ieq y1 (0 : Int)) = true then
   if (ieq (ofN (xlen s1)) (64 : Int)) = true then
    if (ieq x3 (0 : Int)) = true then
     if 0 ≤ x1 ∧ x1 < (ofN (xlen r1)) then
      if 0 ≤ x4 ∧ x4 ≤ (ofN (xlen s1)) then
       some (.inr (setD r1 (toN x1) (cpA 64 (getD r1 (toN x1)) (lsub s1 0 (toN x4)))))
      else none
     else none
    else
     if 64 ≤ (xlen s1) then
      if 0 ≤ x1 ∧ x1 < (ofN (xlen r1)) then
       some (.inl ((0 : Int), (iadd .i64 x2 (1 : Int)), (setD r1 (toN x1) (D.l [(D.i (D.toI (D.fld (getD ([(arrD s1)] : List D) 0) 0))), (D.i (D.toI (D.fld (getD ([(arrD s1)] : List D) 0) 1))), (D.i (D.toI (D.fld (getD ([(arrD s1)] : List D) 0) 2))), (D.i (D.toI (D.fld (getD ([(arrD s1)] : List D) 0) 3))), (D.i (D.toI (D.fld (getD ([(arrD s1)] : List D) 0) 4))), (D.i (D.toI (D.fld (getD ([(arrD s1)] : List D) 0) 5))), (D.i (D.toI (D.fld (getD ([(arrD s1)] : List D) 0) 6))), (D.i (D.toI (D.fld (getD ([(arrD s1)] : List D) 0) 7))), (D.i (D.toI (D.fld (getD ([(arrD s1)] : List D) 0) 8))), (D.i (D.toI (D.fld (getD ([(arrD s1)] : List D) 0) 9))), (D.i (D.toI (D.fld (getD ([(arrD s1)] : List D) 0) 10))), (D.i (D.toI (D.fld (getD ([(arrD s1)] : List D) 0) 11))), (D.i (D.toI (D.fld (getD ([(arrD s1)] : List D) 0) 12))), (D.i (D.toI (D.fld (getD ([(arrD s1)] : List D) 0) 13))), (D.i (D.toI (D.fld (getD ([(arrD s1)] : List D) 0) 14))), (D.i (D.toI (D.fld (getD ([(arrD s1)] : List D) 0) 15))), (D.i (D.toI (D.fld (getD ([(arrD s1)] : List D) 0) 16))), (D.i (D.toI (D.fld (getD ([(arrD s1)] : List D) 0) 17))), (D.i (D.toI (D.fld (getD ([(arrD s1)] : List D) 0) 18))), (D.i (D.toI (D.fld (getD ([(arrD s1)] : List D) 0) 19))), (D.i (D.toI (D.fld (getD ([(arrD s1)] : List D) 0) 20))), (D.i (D.toI (D.fld (getD ([(arrD s1)] : List D) 0) 21))), (D.i (D.toI (D.fld (getD ([(arrD s1)] : List D) 0) 22))), (D.i (D.toI (D.fld (getD ([(arrD s1)] : List D) 0) 23))), (D.i (D.toI (D.fld (getD ([(arrD s1)] : List D) 0) 24))), (D.i (D.toI (D.fld (getD ([(arrD s1)] : List D) 0) 25))), (D.i (D.toI (D.fld (getD ([(arrD s1)] : List D) 0) 26))), (D.i (D.toI (D.fld (getD ([(arrD s1)] : List D) 0) 27))), (D.i (D.toI (D.fld (getD ([(arrD s1)] : List D) 0) 28))), (D.i (D.toI (D.fld (getD ([(arrD s1)] : List D) 0) 29))), (D.i (D.toI (D.fld (getD ([(arrD s1)] : List D) 0) 30))), (D.i (D.toI (D.fld (getD ([(arrD s1)] : List D) 0) 31))), (D.i (D.toI (D.fld (getD ([(arrD s1)] : List D) 0) 32))), (D.i (D.toI (D.fld (getD ([(arrD s1)] : List D) 0) 33))), (D.i (D.toI (D.fld (getD ([(arrD s1)] : List D) 0) 34))), (D.i (D.toI (D.fld (getD ([(arrD s1)] : List D) 0) 35))), (D.i (D.toI (D.fld (getD ([(arrD s1)] : List D) 0) 36))), (D.i (D.toI (D.fld (getD ([(arrD s1)] : List D) 0) 37))), (D.i (D.toI (D.fld (getD ([(arrD s1)] : List D) 0) 38))), (D.i (D.toI (D.fld (getD ([(arrD s1)] : List D) 0) 39))), (D.i (D.toI (D.fld (getD ([(arrD s1)] : List D) 0) 40))), (D.i (D.toI (D.fld (getD ([(arrD s1)] : List D) 0) 41))), (D.i (D.toI (D.fld (getD ([(arrD s1)] : List D) 0) 42))), (D.i (D.toI (D.fld (getD ([(arrD s1)] : List D) 0) 43))), (D.i (D.toI (D.fld (getD ([(arrD s1)] : List D) 0) 44))), (D.i (D.toI (D.fld (getD ([(arrD s1)] : List D) 0) 45))), (D.i (D.toI (D.fld (getD ([(arrD s1)] : List D) 0) 46))), (D.i (D.toI (D.fld (getD ([(arrD s1)] : List D) 0) 47))), (D.i (D.toI (D.fld (getD ([(arrD s1)] : List D) 0) 48))), (D.i (D.toI (D.fld (getD ([(arrD s1)] : List D) 0) 49))), (D.i (D.toI (D.fld (getD ([(arrD s1)] : List D) 0) 50))), (D.i (D.toI (D.fld (getD ([(arrD s1)] : List D) 0) 51))), (D.i (D.toI (D.fld (getD ([(arrD s1)] : List D) 0) 52))), (D.i (D.toI (D.fld (getD ([(arrD s1)] : List D) 0) 53))), (D.i (D.toI (D.fld (getD ([(arrD s1)] : List D) 0) 54))), (D.i (D.toI (D.fld (getD ([(arrD s1)] : List D) 0) 55))), (D.i (D.toI (D.fld (getD ([(arrD s1)] : List D) 0) 56))), (D.i (D.toI (D.fld (getD ([(arrD s1)] : List D) 0) 57))), (D.i (D.toI (D.fld (getD ([(arrD s1)] : List D) 0) 58))), (D.i (D.toI (D.fld (getD ([(arrD s1)] : List D) 0) 59))), (D.i (D.toI (D.fld (getD ([(arrD s1)] : List D) 0) 60))), (D.i (D.toI (D.fld (getD ([(arrD s1)] : List D) 0) 61))), (D.i (D.toI (D.fld (getD ([(arrD s1)] : List D) 0) 62))), (D.i (D.toI (D.fld (getD ([(arrD s1)] : List D) 0) 63)))])), (isub .i64 x3 (1 : Int))))
      else none
     else none
   else
    some (.inl ((1 : Int), x2, r1, x3))
  else
   some (.inl (y1, x2, r1, x3))
noncomputable def F_journal_Save_3_L1 (s1 : List UInt8) (y1 : Int) (b1 : Bool) (x3 : Int) : Int × Int × (List D) × Int → Option ((Int × Int × (List D) × Int) ⊕ ((Int × Int × (List D) × Int) ⊕ (Int × (List D) × Int)))
 | (i1, i2, r2, i3) =>
  if (ilt i1 (ofN (xlen s1))) = true then
   if 0 ≤ (64 : Int) ∧ (64 : Int) ≤ (64 : Int) ∧ (64 : Int) * ((1 : Nat) : Int) ≤ 140737488355328 ∧ (64 : Int) ≤ 9223372036854775807 then
    if 0 ≤ i1 ∧ i1 ≤ (ofN (xlen s1)) then
     match F_block_Device_Write_4 (iadd .i64 (iadd .i64 (imul .i64 (iconv .i64 (irem (iadd .u64 y1 (1 : Int)) (2 : Int))) (130 : Int)) (1 : Int)) (iquo .i64 i1 (64 : Int))) (lspl (@lrep UInt8 (toN (64 : Int)) (0 : UInt8)) 0 (lsub (lsub s1 (toN i1) (ndec (xlen s1) (toN i1))) 0 (nmin (xlen (@lrep UInt8 (toN (64 : Int)) (0 : UInt8))) (xlen (lsub s1 (toN i1) (ndec (xlen s1) (toN i1))))))) b1 i2 r2 i3 x3 with
     | none => none
     | some (.inl (y9, y10, q5, y11)) =>
      if (ieq y9 (0 : Int)) = true then
       some (.inl ((iadd .i64 i1 (64 : Int)), y10, q5, y11))
      else
       some (.inr (.inl (y9, y10, q5, y11)))
     | some (.inr q6) =>
      if (ieq (3 : Int) (0 : Int)) = true then
       none
      else
       some (.inr (.inr (i2, q6, i3)))
    else none
   else none
  else
   match F_journal_head_2 (iadd .u64 y1 (1 : Int)) s1 with
   | none => none
   | some t2 =>
    match F_block_Device_Write_4 (imul .i64 (iconv .i64 (irem (iadd .u64 y1 (1 : Int)) (2 : Int))) (130 : Int)) t2 b1 i2 r2 i3 x3 with
    | none => none
    | some (.inl (y12, y13, q7, y14)) =>
     if (ieq y12 (0 : Int)) = true then
      some (.inr (.inl ((0 : Int), y13, q7, y14)))
     else
      some (.inr (.inl (y12, y13, q7, y14)))
    | some (.inr q8) =>
     if (ieq (3 : Int) (0 : Int)) = true then
      none
     else
      some (.inr (.inr (i2, q8, i3)))
noncomputable def F_journal_Save_3 (s1 : List UInt8) (b1 : Bool) (x1 : Int) (r1 : List D) (x2 : Int) (x3 : Int) : Option ((Int × Int × (List D) × Int) ⊕ (Int × (List D) × Int)) :=
 match F_journal_Load_3 b1 x1 r1 x2 x3 with
 | none => none
 | some (k1, y1, y2, t1) =>
  if (ieq y2 (1 : Int)) = true then
   some (.inl (y2, x1, r1, x2))
  else
   if (ilt (8192 : Int) (ofN (xlen s1))) = true then
    some (.inl ((14 : Int), x1, r1, x2))
   else
    if (ieq y2 (3 : Int)) = true then
     some (.inl (y2, x1, r1, x2))
    else
     match F_journal_blocks (iadd .u64 y1 (1 : Int)) s1 with
     | none => none
     | some () =>
      iter (F_journal_Save_3_L1 s1 y1 b1 x3) ((0 : Int), x1, r1, x2)
noncomputable def F_block_Device_Up_3 (b1 : Bool) (x1 : Int) (r1 : List D) (x2 : Int) (x3 : Int) : Option (Unit) :=
 some ()
noncomputable def F_block_Device_Writes : Option (Unit) :=
 some ()
noncomputable def F_block_Device_Writes_2 (b1 : Bool) (x1 : Int) (r1 : List D) : Option (Unit) :=
 some ()
noncomputable def F_block_Device_Writes_3 (b1 : Bool) (x1 : Int) (r1 : List D) (x2 : Int) (x3 : Int) : Option (Unit) :=
 some ()
noncomputable def F_tollbarlaw32_JournalCounts_L1 (r1 : List D) : Int → Option ((Int) ⊕ (Bool))
 | i1 =>
  if (ilt i1 (ofN (xlen r1))) = true then
   if 0 ≤ i1 ∧ i1 < (ofN (xlen r1)) then
    match F_tollbarlaw32_bytes (D.toI (D.fld (getD r1 (toN i1)) 0)) (D.toI (D.fld (getD r1 (toN i1)) 1)) (D.toI (D.fld (getD r1 (toN i1)) 2)) (D.toI (D.fld (getD r1 (toN i1)) 3)) with
    | none => none
    | some t3 =>
     match F_block_Device_Writes with
     | none => none
     | some () =>
      if 0 ≤ i1 ∧ i1 < (ofN (xlen r1)) then
       if (ile (D.toI (D.fld (getD r1 (toN i1)) 2)) (200 : Int)) = true then
        if 0 ≤ i1 ∧ i1 < (ofN (xlen r1)) then
         if 0 ≤ i1 ∧ i1 < (ofN (xlen r1)) then
          match F_block_Device_Arm (iconv .i64 (D.toI (D.fld (getD r1 (toN i1)) 2))) (iconv .i64 (irem (D.toI (D.fld (getD r1 (toN i1)) 3)) (65 : Int))) with
          | none => none
          | some () =>
           match F_journal_Save_2 t3 with
           | none => none
           | some () =>
            match F_block_Device_Up with
            | none => none
            | some () =>
             match F_journal_Load_2 with
             | none => none
             | some () =>
              if (ilt (8192 : Int) (ofN (xlen t3))) = true then
               if (ieq (1 : Int) (14 : Int)) = true then
                none
               else
                some (.inr false)
              else
               if (ile (D.toI (D.fld (getD r1 (toN i1)) 2)) (200 : Int)) = true then
                if 0 ≤ i1 ∧ i1 < (ofN (xlen r1)) then
                 if (beq2 (ieq (1 : Int) (0 : Int)) (ile (iadd .i64 (iquo .i64 (iadd .i64 (ofN (xlen t3)) (63 : Int)) (64 : Int)) (1 : Int)) (iconv .i64 (D.toI (D.fld (getD r1 (toN i1)) 2))))) = true then
                  if (ieq (1 : Int) (0 : Int)) = true then
                   none
                  else
                   if (ieq (1 : Int) (0 : Int)) = true then
                    none
                   else
                    if (ieq (0 : Int) (0 : Int)) = true then
                     if 0 ≤ i1 ∧ i1 < (ofN (xlen r1)) then
                      if (ieq (isub .i64 (0 : Int) (0 : Int)) (iconv .i64 (D.toI (D.fld (getD r1 (toN i1)) 2)))) = true then
                       some (.inl (iadd .i64 i1 (1 : Int)))
                      else
                       some (.inr false)
                     else none
                    else
                     none
                 else
                  some (.inr false)
                else none
               else
                none
         else none
        else none
       else
        match F_journal_Save_2 t3 with
        | none => none
        | some () =>
         match F_block_Device_Up with
         | none => none
         | some () =>
          match F_journal_Load_2 with
          | none => none
          | some () =>
           if (ilt (8192 : Int) (ofN (xlen t3))) = true then
            if (ieq (1 : Int) (14 : Int)) = true then
             none
            else
             some (.inr false)
           else
            if (ile (D.toI (D.fld (getD r1 (toN i1)) 2)) (200 : Int)) = true then
             none
            else
             if (beq2 (ieq (1 : Int) (0 : Int)) true) = true then
              if (ieq (1 : Int) (0 : Int)) = true then
               none
              else
               if (ieq (1 : Int) (0 : Int)) = true then
                none
               else
                if (ieq (0 : Int) (0 : Int)) = true then
                 if 0 ≤ i1 ∧ i1 < (ofN (xlen r1)) then
                  if (ieq (isub .i64 (0 : Int) (0 : Int)) (iconv .i64 (D.toI (D.fld (getD r1 (toN i1)) 2)))) = true then
                   some (.inl (iadd .i64 i1 (1 : Int)))
                  else
                   some (.inr false)
                 else none
                else
                 none
             else
              some (.inr false)
      else none
   else none
  else
   some (.inr true)
noncomputable def F_tollbarlaw32_JournalCounts_L2 (r1 : List D) : Int × Int × Int × (List D) → Option ((Int × Int × Int × (List D)) ⊕ (Bool))
 | (i4, i2, i3, r2) =>
  if (ilt i2 (ofN (xlen r1))) = true then
   if 0 ≤ i2 ∧ i2 < (ofN (xlen r1)) then
    match F_tollbarlaw32_bytes (D.toI (D.fld (getD r1 (toN i2)) 0)) (D.toI (D.fld (getD r1 (toN i2)) 1)) (D.toI (D.fld (getD r1 (toN i2)) 2)) (D.toI (D.fld (getD r1 (toN i2)) 3)) with
    | none => none
    | some t14 =>
     match F_block_Device_Writes_2 false i3 r2 with
     | none => none
     | some () =>
      if 0 ≤ i2 ∧ i2 < (ofN (xlen r1)) then
       if (ile (D.toI (D.fld (getD r1 (toN i2)) 2)) (200 : Int)) = true then
        if 0 ≤ i2 ∧ i2 < (ofN (xlen r1)) then
         if 0 ≤ i2 ∧ i2 < (ofN (xlen r1)) then
          match F_block_Device_Arm_2 (iconv .i64 (D.toI (D.fld (getD r1 (toN i2)) 2))) (iconv .i64 (irem (D.toI (D.fld (getD r1 (toN i2)) 3)) (65 : Int))) false i3 r2 with
          | none => none
          | some (.inl ()) =>
           match F_journal_Save t14 false i3 r2 with
           | none => none
           | some (y35, y36, q10) =>
            match F_block_Device_Writes_2 false y36 q10 with
            | none => none
            | some () =>
             match F_block_Device_Up_2 false y36 q10 with
             | none => none
             | some () =>
              match F_journal_Load false y36 q10 with
              | none => none
              | some (k9, y37, y38, t15) =>
               if (ilt (8192 : Int) (ofN (xlen t14))) = true then
                if (ieq y35 (14 : Int)) = true then
                 if (ieq y37 i4) = true then
                  if (ieq (isub .i64 y36 i3) (0 : Int)) = true then
                   some (.inl (i4, (iadd .i64 i2 (1 : Int)), y36, q10))
                  else
                   some (.inr false)
                 else
                  some (.inr false)
                else
                 some (.inr false)
               else
                if (ile (D.toI (D.fld (getD r1 (toN i2)) 2)) (200 : Int)) = true then
                 if 0 ≤ i2 ∧ i2 < (ofN (xlen r1)) then
                  if (beq2 (ieq y35 (0 : Int)) (ile (iadd .i64 (iquo .i64 (iadd .i64 (ofN (xlen t14)) (63 : Int)) (64 : Int)) (1 : Int)) (iconv .i64 (D.toI (D.fld (getD r1 (toN i2)) 2))))) = true then
                   if (ieq y35 (0 : Int)) = true then
                    if (ieq y37 (iadd .u64 i4 (1 : Int))) = true then
                     if (ieq (isub .i64 y36 i3) (iadd .i64 (iquo .i64 (iadd .i64 (ofN (xlen t14)) (63 : Int)) (64 : Int)) (1 : Int))) = true then
                      if (ieq y38 (0 : Int)) = true then
                       if (ieq y35 (0 : Int)) = true then
                        some (.inl (y37, (iadd .i64 i2 (1 : Int)), y36, q10))
                       else
                        none
                      else
                       some (.inr false)
                     else
                      some (.inr false)
                    else
                     some (.inr false)
                   else
                    if (ieq y35 (0 : Int)) = true then
                     none
                    else
                     if (ieq y37 i4) = true then
                      if 0 ≤ i2 ∧ i2 < (ofN (xlen r1)) then
                       if (ieq (isub .i64 y36 i3) (iconv .i64 (D.toI (D.fld (getD r1 (toN i2)) 2)))) = true then
                        some (.inl (y37, (iadd .i64 i2 (1 : Int)), y36, q10))
                       else
                        some (.inr false)
                      else none
                     else
                      if (ieq y37 (iadd .u64 i4 (1 : Int))) = true then
                       if 0 ≤ i2 ∧ i2 < (ofN (xlen r1)) then
                        if (ieq (isub .i64 y36 i3) (iconv .i64 (D.toI (D.fld (getD r1 (toN i2)) 2)))) = true then
                         some (.inl (y37, (iadd .i64 i2 (1 : Int)), y36, q10))
                        else
                         some (.inr false)
                       else none
                      else
                       some (.inr false)
                  else
                   some (.inr false)
                 else none
                else
                 none
          | some (.inr ()) =>
           match F_journal_Save_3 t14 false i3 r2 (iconv .i64 (D.toI (D.fld (getD r1 (toN i2)) 2))) (iconv .i64 (irem (D.toI (D.fld (getD r1 (toN i2)) 3)) (65 : Int))) with
           | none => none
           | some (.inl (y39, y40, q11, y41)) =>
            match F_block_Device_Writes_3 false y40 q11 y41 (iconv .i64 (irem (D.toI (D.fld (getD r1 (toN i2)) 3)) (65 : Int))) with
            | none => none
            | some () =>
             match F_block_Device_Up_3 false y40 q11 y41 (iconv .i64 (irem (D.toI (D.fld (getD r1 (toN i2)) 3)) (65 : Int))) with
             | none => none
             | some () =>
              match F_journal_Load false y40 q11 with
              | none => none
              | some (k10, y44, y45, t16) =>
               if (ilt (8192 : Int) (ofN (xlen t14))) = true then
                if (ieq y39 (14 : Int)) = true then
                 if (ieq y44 i4) = true then
                  if (ieq (isub .i64 y40 i3) (0 : Int)) = true then
                   some (.inl (i4, (iadd .i64 i2 (1 : Int)), y40, q11))
                  else
                   some (.inr false)
                 else
                  some (.inr false)
                else
                 some (.inr false)
               else
                if (ile (D.toI (D.fld (getD r1 (toN i2)) 2)) (200 : Int)) = true then
                 if 0 ≤ i2 ∧ i2 < (ofN (xlen r1)) then
                  if (beq2 (ieq y39 (0 : Int)) (ile (iadd .i64 (iquo .i64 (iadd .i64 (ofN (xlen t14)) (63 : Int)) (64 : Int)) (1 : Int)) (iconv .i64 (D.toI (D.fld (getD r1 (toN i2)) 2))))) = true then
                   if (ieq y39 (0 : Int)) = true then
                    if (ieq y44 (iadd .u64 i4 (1 : Int))) = true then
                     if (ieq (isub .i64 y40 i3) (iadd .i64 (iquo .i64 (iadd .i64 (ofN (xlen t14)) (63 : Int)) (64 : Int)) (1 : Int))) = true then
                      if (ieq y45 (0 : Int)) = true then
                       if (ieq y39 (0 : Int)) = true then
                        some (.inl (y44, (iadd .i64 i2 (1 : Int)), y40, q11))
                       else
                        none
                      else
                       some (.inr false)
                     else
                      some (.inr false)
                    else
                     some (.inr false)
                   else
                    if (ieq y39 (0 : Int)) = true then
                     none
                    else
                     if (ieq y44 i4) = true then
                      if 0 ≤ i2 ∧ i2 < (ofN (xlen r1)) then
                       if (ieq (isub .i64 y40 i3) (iconv .i64 (D.toI (D.fld (getD r1 (toN i2)) 2)))) = true then
                        some (.inl (y44, (iadd .i64 i2 (1 : Int)), y40, q11))
                       else
                        some (.inr false)
                      else none
                     else
                      if (ieq y44 (iadd .u64 i4 (1 : Int))) = true then
                       if 0 ≤ i2 ∧ i2 < (ofN (xlen r1)) then
                        if (ieq (isub .i64 y40 i3) (iconv .i64 (D.toI (D.fld (getD r1 (toN i2)) 2)))) = true then
                         some (.inl (y44, (iadd .i64 i2 (1 : Int)), y40, q11))
                        else
                         some (.inr false)
                       else none
                      else
                       some (.inr false)
                  else
                   some (.inr false)
                 else none
                else
                 none
           | some (.inr (y42, q12, y43)) =>
            match F_block_Device_Writes_2 true y42 q12 with
            | none => none
            | some () =>
             match F_block_Device_Up_2 true y42 q12 with
             | none => none
             | some () =>
              match F_journal_Load false y42 q12 with
              | none => none
              | some (k11, y46, y47, t17) =>
               if (ilt (8192 : Int) (ofN (xlen t14))) = true then
                if (ieq (3 : Int) (14 : Int)) = true then
                 none
                else
                 some (.inr false)
               else
                if (ile (D.toI (D.fld (getD r1 (toN i2)) 2)) (200 : Int)) = true then
                 if 0 ≤ i2 ∧ i2 < (ofN (xlen r1)) then
                  if (beq2 (ieq (3 : Int) (0 : Int)) (ile (iadd .i64 (iquo .i64 (iadd .i64 (ofN (xlen t14)) (63 : Int)) (64 : Int)) (1 : Int)) (iconv .i64 (D.toI (D.fld (getD r1 (toN i2)) 2))))) = true then
                   if (ieq (3 : Int) (0 : Int)) = true then
                    none
                   else
                    if (ieq (3 : Int) (0 : Int)) = true then
                     none
                    else
                     if (ieq y46 i4) = true then
                      if 0 ≤ i2 ∧ i2 < (ofN (xlen r1)) then
                       if (ieq (isub .i64 y42 i3) (iconv .i64 (D.toI (D.fld (getD r1 (toN i2)) 2)))) = true then
                        some (.inl (y46, (iadd .i64 i2 (1 : Int)), y42, q12))
                       else
                        some (.inr false)
                      else none
                     else
                      if (ieq y46 (iadd .u64 i4 (1 : Int))) = true then
                       if 0 ≤ i2 ∧ i2 < (ofN (xlen r1)) then
                        if (ieq (isub .i64 y42 i3) (iconv .i64 (D.toI (D.fld (getD r1 (toN i2)) 2)))) = true then
                         some (.inl (y46, (iadd .i64 i2 (1 : Int)), y42, q12))
                        else
                         some (.inr false)
                       else none
                      else
                       some (.inr false)
                  else
                   some (.inr false)
                 else none
                else
                 none
         else none
        else none
       else
        match F_journal_Save t14 false i3 r2 with
        | none => none
        | some (y48, y49, q13) =>
         match F_block_Device_Writes_2 false y49 q13 with
         | none => none
         | some () =>
          match F_block_Device_Up_2 false y49 q13 with
          | none => none
          | some () =>
           match F_journal_Load false y49 q13 with
           | none => none
           | some (k12, y50, y51, t18) =>
            if (ilt (8192 : Int) (ofN (xlen t14))) = true then
             if (ieq y48 (14 : Int)) = true then
              if (ieq y50 i4) = true then
               if (ieq (isub .i64 y49 i3) (0 : Int)) = true then
                some (.inl (i4, (iadd .i64 i2 (1 : Int)), y49, q13))
               else
                some (.inr false)
              else
               some (.inr false)
             else
              some (.inr false)
            else
             if (ile (D.toI (D.fld (getD r1 (toN i2)) 2)) (200 : Int)) = true then
              none
             else
              if (beq2 (ieq y48 (0 : Int)) true) = true then
               if (ieq y48 (0 : Int)) = true then
                if (ieq y50 (iadd .u64 i4 (1 : Int))) = true then
                 if (ieq (isub .i64 y49 i3) (iadd .i64 (iquo .i64 (iadd .i64 (ofN (xlen t14)) (63 : Int)) (64 : Int)) (1 : Int))) = true then
                  if (ieq y51 (0 : Int)) = true then
                   if (ieq y48 (0 : Int)) = true then
                    some (.inl (y50, (iadd .i64 i2 (1 : Int)), y49, q13))
                   else
                    none
                  else
                   some (.inr false)
                 else
                  some (.inr false)
                else
                 some (.inr false)
               else
                if (ieq y48 (0 : Int)) = true then
                 none
                else
                 if (ieq y50 i4) = true then
                  if 0 ≤ i2 ∧ i2 < (ofN (xlen r1)) then
                   if (ieq (isub .i64 y49 i3) (iconv .i64 (D.toI (D.fld (getD r1 (toN i2)) 2)))) = true then
                    some (.inl (y50, (iadd .i64 i2 (1 : Int)), y49, q13))
                   else
                    some (.inr false)
                  else none
                 else
                  if (ieq y50 (iadd .u64 i4 (1 : Int))) = true then
                   if 0 ≤ i2 ∧ i2 < (ofN (xlen r1)) then
                    if (ieq (isub .i64 y49 i3) (iconv .i64 (D.toI (D.fld (getD r1 (toN i2)) 2)))) = true then
                     some (.inl (y50, (iadd .i64 i2 (1 : Int)), y49, q13))
                    else
                     some (.inr false)
                   else none
                  else
                   some (.inr false)
              else
               some (.inr false)
      else none
   else none
  else
   some (.inr true)
noncomputable def F_tollbarlaw32_JournalCounts (r1 : List D) : Option (Bool) :=
 match F_tollbarlaw32_awake with
 | none => none
 | some c1 =>
  if c1 = true then
   if (ilt (20 : Int) (ofN (xlen r1))) = true then
    some true
   else
    match F_block_New (260 : Int) with
    | none => none
    | some (.inl ()) =>
     iter (F_tollbarlaw32_JournalCounts_L1 r1) (0 : Int)
    | some (.inr q1) =>
     iter (F_tollbarlaw32_JournalCounts_L2 r1) ((0 : Int), (0 : Int), (0 : Int), q1)
  else
   some false
end Go.Proofs.YtbkcmpggacbikaaDoor
end
section
/-
  The contracts of the functions (printed by a program of ours).
-/
set_option linter.unusedVariables false
set_option linter.unusedSimpArgs false
namespace Go.Proofs.YtbkcmpggacbikaaDoor
open Go.RowKit
noncomputable def con_slices_Clone_1 (a : List SV) (c : List Ck) : Option CEff := match a, c with
 | [(.rsl (.bs 68 s1))], [] => some ⟨[lock Obl fun _ => ∃ r, lock cloneB s1 = some r], .many ((List UInt8)) (fun r => lock cloneB s1 = some r) (fun u0 => (.wsl 0)) (fun u0 => [.to (.row (.bs 5 u0))]), []⟩
 | _, _ => none
noncomputable def con_slices_Clone : Con := ⟨[(some (.bs 5))], fun a c => con_slices_Clone_1 a c, []⟩
noncomputable def con_bytes_Join_1 (a : List SV) (c : List Ck) : Option CEff := match a, c with
 | [(.wsl 0), .nsl], [.row (.row 22 (.bytes 5) r1)] => some ⟨[lock Obl fun _ => ∃ r, lock joinB r1 = some r], .many ((List UInt8)) (fun r => lock joinB r1 = some r) (fun u0 => (.rsl (.bs 5 u0))) (fun u0 => [.same]), [true]⟩
 | _, _ => none
noncomputable def con_bytes_Join : Con := ⟨[], fun a c => con_bytes_Join_1 a c, []⟩
noncomputable def con_block_New_1 (a : List SV) (c : List Ck) : Option CEff := match a, c with
 | [(.v (.int .i64 x1))], [] => some ⟨[lock Obl fun _ => ∃ r, lock F_block_New x1 = some r], .many ((Unit) ⊕ ((List D))) (fun r => lock F_block_New x1 = some r) (fun | (.inl _) => (.v (.pointer none)) | (.inr u0) => (.ptr 0 0)) (fun | (.inl _) => [] | (.inr u0) => [.to (.blk 61 [(.wsl 1), (.v (.bool false)), (.v (.pointer none)), (.v (.int .i64 (0 : Int)))]), .to (.row (.row 68 (.u8s 64) u0))]), []⟩
 | _, _ => none
noncomputable def con_block_New : Con := ⟨[none], fun a c => con_block_New_1 a c, []⟩
noncomputable def con_block_Device_Blocks_1 (a : List SV) (c : List Ck) : Option CEff := match a, c with
 | [(.ptr 0 0)], [.blk 61 [(.wsl 1), (.v (.bool b1)), (.v (.pointer none)), (.v (.int .i64 x1))], .row (.row 68 (.u8s 64) r1)] => some ⟨[lock Obl fun _ => ∃ r, lock F_block_Device_Blocks b1 x1 r1 = some r], .many (Int) (fun r => lock F_block_Device_Blocks b1 x1 r1 = some r) (fun u0 => (.v (.int .i64 u0))) (fun u0 => [.same, .same]), [true, true]⟩
 | _, _ => none
noncomputable def con_block_Device_Blocks_2 (a : List SV) (c : List Ck) : Option CEff := match a, c with
 | [(.v (.pointer none))], [] => some ⟨[lock Obl fun _ => ∃ r, lock F_block_Device_Blocks_2 = some r], .many (Unit) (fun r => lock F_block_Device_Blocks_2 = some r) (fun _ => (.v (.int .i64 (0 : Int)))) (fun _ => []), []⟩
 | _, _ => none
noncomputable def con_block_Device_Blocks_3 (a : List SV) (c : List Ck) : Option CEff := match a, c with
 | [(.ptr 0 0)], [.blk 61 [(.wsl 1), (.v (.bool b1)), (.ptr 2 0), (.v (.int .i64 x1))], .row (.row 68 (.u8s 64) r1), .blk 67 [(.v (.int .i64 x2)), (.v (.int .i64 x3))]] => some ⟨[lock Obl fun _ => ∃ r, lock F_block_Device_Blocks_3 b1 x1 r1 x2 x3 = some r], .many (Int) (fun r => lock F_block_Device_Blocks_3 b1 x1 r1 x2 x3 = some r) (fun u0 => (.v (.int .i64 u0))) (fun u0 => [.same, .same, .same]), [true, true, true]⟩
 | _, _ => none
noncomputable def con_block_Device_Blocks : Con := ⟨[none], fun a c => altC (con_block_Device_Blocks_1 a c) (altC (con_block_Device_Blocks_2 a c) (con_block_Device_Blocks_3 a c)), []⟩
noncomputable def con_block_Device_Down_1 (a : List SV) (c : List Ck) : Option CEff := match a, c with
 | [(.ptr 0 0)], [.blk 61 [(.wsl 1), (.v (.bool b1)), (.v (.pointer none)), (.v (.int .i64 x1))], .row (.row 68 (.u8s 64) r1)] => some ⟨[lock Obl fun _ => ∃ r, lock F_block_Device_Down b1 x1 r1 = some r], .many (Unit) (fun r => lock F_block_Device_Down b1 x1 r1 = some r) (fun _ => (.v (.bool b1))) (fun _ => [.same, .same]), [true, true]⟩
 | _, _ => none
noncomputable def con_block_Device_Down_2 (a : List SV) (c : List Ck) : Option CEff := match a, c with
 | [(.ptr 0 0)], [.blk 61 [(.wsl 1), (.v (.bool b1)), (.ptr 2 0), (.v (.int .i64 x1))], .row (.row 68 (.u8s 64) r1), .blk 67 [(.v (.int .i64 x2)), (.v (.int .i64 x3))]] => some ⟨[lock Obl fun _ => ∃ r, lock F_block_Device_Down_2 b1 x1 r1 x2 x3 = some r], .many (Unit) (fun r => lock F_block_Device_Down_2 b1 x1 r1 x2 x3 = some r) (fun _ => (.v (.bool b1))) (fun _ => [.same, .same, .same]), [true, true, true]⟩
 | _, _ => none
noncomputable def con_block_Device_Down : Con := ⟨[none], fun a c => altC (con_block_Device_Down_1 a c) (con_block_Device_Down_2 a c), []⟩
noncomputable def con_block_Device_may_1 (a : List SV) (c : List Ck) : Option CEff := match a, c with
 | [(.ptr 0 0), (.v (.int .i64 x1))], [.blk 61 [(.wsl 1), (.v (.bool b1)), (.v (.pointer none)), (.v (.int .i64 x2))], .row (.row 68 (.u8s 64) r1)] => some ⟨[lock Obl fun _ => ∃ r, lock F_block_Device_may x1 b1 x2 r1 = some r], .many (Int) (fun r => lock F_block_Device_may x1 b1 x2 r1 = some r) (fun u0 => (.v (.int .i64 u0))) (fun u0 => [.same, .same]), [true, true]⟩
 | _, _ => none
noncomputable def con_block_Device_may_2 (a : List SV) (c : List Ck) : Option CEff := match a, c with
 | [(.ptr 0 0), (.v (.int .i64 x1))], [.blk 61 [(.wsl 1), (.v (.bool b1)), (.ptr 2 0), (.v (.int .i64 x2))], .row (.row 68 (.u8s 64) r1), .blk 67 [(.v (.int .i64 x3)), (.v (.int .i64 x4))]] => some ⟨[lock Obl fun _ => ∃ r, lock F_block_Device_may_3 x1 b1 x2 r1 x3 x4 = some r], .many (Int) (fun r => lock F_block_Device_may_3 x1 b1 x2 r1 x3 x4 = some r) (fun u0 => (.v (.int .i64 u0))) (fun u0 => [.same, .same, .same]), [true, true, true]⟩
 | _, _ => none
noncomputable def con_block_Device_may : Con := ⟨[none, none], fun a c => altC (con_block_Device_may_1 a c) (con_block_Device_may_2 a c), []⟩
noncomputable def con_block_Device_Read_1 (a : List SV) (c : List Ck) : Option CEff := match a, c with
 | [(.ptr 0 0), (.v (.int .i64 x1))], [.blk 61 [(.wsl 1), (.v (.bool b1)), (.v (.pointer none)), (.v (.int .i64 x2))], .row (.row 68 (.u8s 64) r1)] => some ⟨[lock Obl fun _ => ∃ r, lock F_block_Device_Read x1 b1 x2 r1 = some r], .many (Int × (List UInt8)) (fun r => lock F_block_Device_Read x1 b1 x2 r1 = some r) (fun | (u0, u1) => (.tup [(.wsl 2), (.v (.int .i64 u0))])) (fun | (u0, u1) => [.same, .same, .to (.row (.bs 68 u1))]), [true, true]⟩
 | _, _ => none
noncomputable def con_block_Device_Read_2 (a : List SV) (c : List Ck) : Option CEff := match a, c with
 | [(.ptr 0 0), (.v (.int .i64 x1))], [.blk 61 [(.wsl 1), (.v (.bool b1)), (.ptr 2 0), (.v (.int .i64 x2))], .row (.row 68 (.u8s 64) r1), .blk 67 [(.v (.int .i64 x3)), (.v (.int .i64 x4))]] => some ⟨[lock Obl fun _ => ∃ r, lock F_block_Device_Read_2 x1 b1 x2 r1 x3 x4 = some r], .many (Int × (List UInt8)) (fun r => lock F_block_Device_Read_2 x1 b1 x2 r1 x3 x4 = some r) (fun | (u0, u1) => (.tup [(.wsl 3), (.v (.int .i64 u0))])) (fun | (u0, u1) => [.same, .same, .same, .to (.row (.bs 68 u1))]), [true, true, true]⟩
 | _, _ => none
noncomputable def con_block_Device_Read : Con := ⟨[none, none], fun a c => altC (con_block_Device_Read_1 a c) (con_block_Device_Read_2 a c), []⟩
noncomputable def con_octet_Open_1 (a : List SV) (c : List Ck) : Option CEff := match a, c with
 | [(.rsl (.bs 68 s1))], [] => some ⟨[lock Obl fun _ => ∃ r, lock F_octet_Open s1 = some r], .many ((List UInt8)) (fun r => lock F_octet_Open s1 = some r) (fun u0 => (.ptr 0 0)) (fun u0 => [.to (.blk 95 [(.wsl 1), (.v (.int .i64 (0 : Int)))]), .to (.row (.bs 5 u0))]), []⟩
 | _, _ => none
noncomputable def con_octet_Open : Con := ⟨[(some (.bs 5))], fun a c => con_octet_Open_1 a c, []⟩
noncomputable def con_octet_Window_fail_1 (a : List SV) (c : List Ck) : Option CEff := match a, c with
 | [(.ptr 0 0), (.v (.int .i64 x1))], [.blk 95 [(.wsl 1), (.v (.int .i64 x2))], .row (.bs 5 s1)] => some ⟨[lock Obl fun _ => ∃ r, lock F_octet_Window_fail x1 x2 s1 = some r], .many (Int) (fun r => lock F_octet_Window_fail x1 x2 s1 = some r) (fun u0 => (.tup [])) (fun u0 => [.to (.blk 95 [(.wsl 1), (.v (.int .i64 u0))]), .same]), [false, true]⟩
 | _, _ => none
noncomputable def con_octet_Window_fail_2 (a : List SV) (c : List Ck) : Option CEff := match a, c with
 | [(.ptr 0 0), (.v (.int .i64 x1))], [.blk 95 [(.sl 1 n1 n2), (.v (.int .i64 x2))], .row (.bs 5 s1)] => some ⟨[lock Obl fun _ => ∃ r, lock F_octet_Window_fail_2 x1 n1 n2 x2 s1 = some r], .many (Int) (fun r => lock F_octet_Window_fail_2 x1 n1 n2 x2 s1 = some r) (fun u0 => (.tup [])) (fun u0 => [.to (.blk 95 [(.sl 1 n1 n2), (.v (.int .i64 u0))]), .same]), [false, true]⟩
 | _, _ => none
noncomputable def con_octet_Window_fail : Con := ⟨[none, none], fun a c => altC (con_octet_Window_fail_1 a c) (con_octet_Window_fail_2 a c), []⟩
noncomputable def con_octet_Window_Bytes_1 (a : List SV) (c : List Ck) : Option CEff := match a, c with
 | [(.ptr 0 0), (.v (.int .i64 x1))], [.blk 95 [(.wsl 1), (.v (.int .i64 x2))], .row (.bs 5 s1)] => some ⟨[lock Obl fun _ => ∃ r, lock F_octet_Window_Bytes x1 x2 s1 = some r], .many (Nat × Nat × Int × (List UInt8)) (fun r => lock F_octet_Window_Bytes x1 x2 s1 = some r) (fun | (u0, u1, u2, u3) => (.wsl 2)) (fun | (u0, u1, u2, u3) => [.to (.blk 95 [(.sl 1 u0 u1), (.v (.int .i64 u2))]), .same, .to (.row (.bs 5 u3))]), [false, true]⟩
 | _, _ => none
noncomputable def con_octet_Window_Bytes_2 (a : List SV) (c : List Ck) : Option CEff := match a, c with
 | [(.ptr 0 0), (.v (.int .i64 x1))], [.blk 95 [(.sl 1 n1 n2), (.v (.int .i64 x2))], .row (.bs 5 s1)] => some ⟨[lock Obl fun _ => ∃ r, lock F_octet_Window_Bytes_2 x1 n1 n2 x2 s1 = some r], .many (Nat × Nat × Int × (List UInt8)) (fun r => lock F_octet_Window_Bytes_2 x1 n1 n2 x2 s1 = some r) (fun | (u0, u1, u2, u3) => (.wsl 2)) (fun | (u0, u1, u2, u3) => [.to (.blk 95 [(.sl 1 u0 u1), (.v (.int .i64 u2))]), .same, .to (.row (.bs 5 u3))]), [false, true]⟩
 | _, _ => none
noncomputable def con_octet_Window_Bytes : Con := ⟨[none, none], fun a c => altC (con_octet_Window_Bytes_1 a c) (con_octet_Window_Bytes_2 a c), []⟩
noncomputable def con_octet_Value_1 (a : List SV) (c : List Ck) : Option CEff := match a, c with
 | [(.rsl (.bs 5 s1))], [] => some ⟨[lock Obl fun _ => ∃ r, lock F_octet_Value s1 = some r], .many (Int × Bool) (fun r => lock F_octet_Value s1 = some r) (fun | (u0, u1) => (.tup [(.v (.int .u64 u0)), (.v (.bool u1))])) (fun | (u0, u1) => []), []⟩
 | _, _ => none
noncomputable def con_octet_Value : Con := ⟨[(some (.bs 5))], fun a c => con_octet_Value_1 a c, []⟩
noncomputable def con_octet_Window_Num_1 (a : List SV) (c : List Ck) : Option CEff := match a, c with
 | [(.ptr 0 0), (.v (.int .i64 x1))], [.blk 95 [(.wsl 1), (.v (.int .i64 x2))], .row (.bs 5 s1)] => some ⟨[lock Obl fun _ => ∃ r, lock F_octet_Window_Num x1 x2 s1 = some r], .many (Int × Nat × Nat × Int) (fun r => lock F_octet_Window_Num x1 x2 s1 = some r) (fun | (u0, u1, u2, u3) => (.v (.int .u64 u0))) (fun | (u0, u1, u2, u3) => [.to (.blk 95 [(.sl 1 u1 u2), (.v (.int .i64 u3))]), .same]), [false, true]⟩
 | _, _ => none
noncomputable def con_octet_Window_Num_2 (a : List SV) (c : List Ck) : Option CEff := match a, c with
 | [(.ptr 0 0), (.v (.int .i64 x1))], [.blk 95 [(.sl 1 n1 n2), (.v (.int .i64 x2))], .row (.bs 5 s1)] => some ⟨[lock Obl fun _ => ∃ r, lock F_octet_Window_Num_2 x1 n1 n2 x2 s1 = some r], .many (Int × Nat × Nat × Int) (fun r => lock F_octet_Window_Num_2 x1 n1 n2 x2 s1 = some r) (fun | (u0, u1, u2, u3) => (.v (.int .u64 u0))) (fun | (u0, u1, u2, u3) => [.to (.blk 95 [(.sl 1 u1 u2), (.v (.int .i64 u3))]), .same]), [false, true]⟩
 | _, _ => none
noncomputable def con_octet_Window_Num : Con := ⟨[none, none], fun a c => altC (con_octet_Window_Num_1 a c) (con_octet_Window_Num_2 a c), []⟩
noncomputable def con_journal_read_1 (a : List SV) (c : List Ck) : Option CEff := match a, c with
 | [(.ptr 0 0), (.v (.int .u64 x1)), (.v (.int .i64 x2))], [.blk 61 [(.wsl 1), (.v (.bool b1)), (.v (.pointer none)), (.v (.int .i64 x3))], .row (.row 68 (.u8s 64) r1)] => some ⟨[lock Obl fun _ => ∃ r, lock F_journal_read x1 x2 b1 x3 r1 = some r], .many (Nat × (List UInt8)) (fun r => lock F_journal_read x1 x2 b1 x3 r1 = some r) (fun | (u0, u1) => (.sl 2 0 u0)) (fun | (u0, u1) => [.same, .same, .to (.row (.bs 5 u1))]), [true, true]⟩
 | _, _ => none
noncomputable def con_journal_read_2 (a : List SV) (c : List Ck) : Option CEff := match a, c with
 | [(.ptr 0 0), (.v (.int .u64 x1)), (.v (.int .i64 x2))], [.blk 61 [(.wsl 1), (.v (.bool b1)), (.ptr 2 0), (.v (.int .i64 x3))], .row (.row 68 (.u8s 64) r1), .blk 67 [(.v (.int .i64 x4)), (.v (.int .i64 x5))]] => some ⟨[lock Obl fun _ => ∃ r, lock F_journal_read_2 x1 x2 b1 x3 r1 x4 x5 = some r], .many (Nat × (List UInt8)) (fun r => lock F_journal_read_2 x1 x2 b1 x3 r1 x4 x5 = some r) (fun | (u0, u1) => (.sl 3 0 u0)) (fun | (u0, u1) => [.same, .same, .same, .to (.row (.bs 5 u1))]), [true, true, true]⟩
 | _, _ => none
noncomputable def con_journal_read : Con := ⟨[none, none, none], fun a c => altC (con_journal_read_1 a c) (con_journal_read_2 a c), []⟩
noncomputable def con_octet_Big_1 (a : List SV) (c : List Ck) : Option CEff := match a, c with
 | [(.v (.int .u64 x1)), (.v (.int .i64 x2))], [] => some ⟨[lock Obl fun _ => ∃ r, lock F_octet_Big x1 x2 = some r], .many ((List UInt8)) (fun r => lock F_octet_Big x1 x2 = some r) (fun u0 => (.wsl 0)) (fun u0 => [.to (.row (.bs 5 u0))]), []⟩
 | _, _ => none
noncomputable def con_octet_Big : Con := ⟨[none, none], fun a c => con_octet_Big_1 a c, []⟩
noncomputable def con_frame_Sum_1 (a : List SV) (c : List Ck) : Option CEff := match a, c with
 | [(.rsl (.bs 5 s1))], [] => some ⟨[lock Obl fun _ => ∃ r, lock F_frame_Sum s1 = some r], .many (Int) (fun r => lock F_frame_Sum s1 = some r) (fun u0 => (.v (.int .u32 u0))) (fun u0 => []), []⟩
 | _, _ => none
noncomputable def con_frame_Sum : Con := ⟨[(some (.bs 5))], fun a c => con_frame_Sum_1 a c, []⟩
noncomputable def con_journal_head_1 (a : List SV) (c : List Ck) : Option CEff := match a, c with
 | [(.v (.int .u64 x1)), (.sl 0 n1 n2)], [.row (.bs 5 s1)] => some ⟨[lock Obl fun _ => ∃ r, lock F_journal_head x1 n1 n2 s1 = some r], .many ((List UInt8)) (fun r => lock F_journal_head x1 n1 n2 s1 = some r) (fun u0 => (.rsl (.bs 5 u0))) (fun u0 => [.same]), [true]⟩
 | _, _ => none
noncomputable def con_journal_head_2 (a : List SV) (c : List Ck) : Option CEff := match a, c with
 | [(.v (.int .u64 x1)), (.rsl (.bs 5 s1))], [] => some ⟨[lock Obl fun _ => ∃ r, lock F_journal_head_2 x1 s1 = some r], .many ((List UInt8)) (fun r => lock F_journal_head_2 x1 s1 = some r) (fun u0 => (.rsl (.bs 5 u0))) (fun u0 => []), []⟩
 | _, _ => none
noncomputable def con_journal_head : Con := ⟨[], fun a c => altC (con_journal_head_1 a c) (con_journal_head_2 a c), []⟩
noncomputable def con_bytes_Equal_1 (a : List SV) (c : List Ck) : Option CEff := match a, c with
 | [(.rsl (.bs 68 s1)), (.rsl (.bs 5 s2))], [] => some ⟨[lock Obl fun _ => ∃ r, lock F_bytes_Equal s1 s2 = some r], .many (Bool) (fun r => lock F_bytes_Equal s1 s2 = some r) (fun u0 => (.v (.bool u0))) (fun u0 => []), []⟩
 | _, _ => none
noncomputable def con_bytes_Equal : Con := ⟨[(some (.bs 5)), (some (.bs 5))], fun a c => con_bytes_Equal_1 a c, []⟩
noncomputable def con_journal_whole_1 (a : List SV) (c : List Ck) : Option CEff := match a, c with
 | [(.ptr 0 0), (.v (.int .u64 x1))], [.blk 61 [(.wsl 1), (.v (.bool b1)), (.v (.pointer none)), (.v (.int .i64 x2))], .row (.row 68 (.u8s 64) r1)] => some ⟨[lock Obl fun _ => ∃ r, lock F_journal_whole x1 b1 x2 r1 = some r], .many (Nat × Int × (List UInt8)) (fun r => lock F_journal_whole x1 b1 x2 r1 = some r) (fun | (u0, u1, u2) => (.tup [(.sl 2 0 u0), (.v (.int .u64 u1))])) (fun | (u0, u1, u2) => [.same, .same, .to (.row (.bs 5 u2))]), [true, true]⟩
 | _, _ => none
noncomputable def con_journal_whole_2 (a : List SV) (c : List Ck) : Option CEff := match a, c with
 | [(.ptr 0 0), (.v (.int .u64 x1))], [.blk 61 [(.wsl 1), (.v (.bool b1)), (.ptr 2 0), (.v (.int .i64 x2))], .row (.row 68 (.u8s 64) r1), .blk 67 [(.v (.int .i64 x3)), (.v (.int .i64 x4))]] => some ⟨[lock Obl fun _ => ∃ r, lock F_journal_whole_2 x1 b1 x2 r1 x3 x4 = some r], .many (Nat × Int × (List UInt8)) (fun r => lock F_journal_whole_2 x1 b1 x2 r1 x3 x4 = some r) (fun | (u0, u1, u2) => (.tup [(.sl 3 0 u0), (.v (.int .u64 u1))])) (fun | (u0, u1, u2) => [.same, .same, .same, .to (.row (.bs 5 u2))]), [true, true, true]⟩
 | _, _ => none
noncomputable def con_journal_whole : Con := ⟨[none, none], fun a c => altC (con_journal_whole_1 a c) (con_journal_whole_2 a c), []⟩
noncomputable def con_journal_Load_1 (a : List SV) (c : List Ck) : Option CEff := match a, c with
 | [(.ptr 0 0)], [.blk 61 [(.wsl 1), (.v (.bool b1)), (.v (.pointer none)), (.v (.int .i64 x1))], .row (.row 68 (.u8s 64) r1)] => some ⟨[lock Obl fun _ => ∃ r, lock F_journal_Load b1 x1 r1 = some r], .many (Nat × Int × Int × (List UInt8)) (fun r => lock F_journal_Load b1 x1 r1 = some r) (fun | (u0, u1, u2, u3) => (.tup [(.sl 2 0 u0), (.v (.int .u64 u1)), (.v (.int .i64 u2))])) (fun | (u0, u1, u2, u3) => [.same, .same, .to (.row (.bs 5 u3))]), [true, true]⟩
 | _, _ => none
noncomputable def con_journal_Load_2 (a : List SV) (c : List Ck) : Option CEff := match a, c with
 | [(.v (.pointer none))], [] => some ⟨[lock Obl fun _ => ∃ r, lock F_journal_Load_2 = some r], .many (Unit) (fun r => lock F_journal_Load_2 = some r) (fun _ => (.tup [.nsl, (.v (.int .u64 (0 : Int))), (.v (.int .i64 (1 : Int)))])) (fun _ => []), []⟩
 | _, _ => none
noncomputable def con_journal_Load_3 (a : List SV) (c : List Ck) : Option CEff := match a, c with
 | [(.ptr 0 0)], [.blk 61 [(.wsl 1), (.v (.bool b1)), (.ptr 2 0), (.v (.int .i64 x1))], .row (.row 68 (.u8s 64) r1), .blk 67 [(.v (.int .i64 x2)), (.v (.int .i64 x3))]] => some ⟨[lock Obl fun _ => ∃ r, lock F_journal_Load_3 b1 x1 r1 x2 x3 = some r], .many (Nat × Int × Int × (List UInt8)) (fun r => lock F_journal_Load_3 b1 x1 r1 x2 x3 = some r) (fun | (u0, u1, u2, u3) => (.tup [(.sl 3 0 u0), (.v (.int .u64 u1)), (.v (.int .i64 u2))])) (fun | (u0, u1, u2, u3) => [.same, .same, .same, .to (.row (.bs 5 u3))]), [true, true, true]⟩
 | _, _ => none
noncomputable def con_journal_Load : Con := ⟨[none], fun a c => altC (con_journal_Load_1 a c) (altC (con_journal_Load_2 a c) (con_journal_Load_3 a c)), []⟩
noncomputable def con_journal_blocks_1 (a : List SV) (c : List Ck) : Option CEff := match a, c with
 | [(.v (.int .u64 x1)), (.rsl (.bs 5 s1))], [] => some ⟨[lock Obl fun _ => ∃ r, lock F_journal_blocks x1 s1 = some r], .many (Unit) (fun r => lock F_journal_blocks x1 s1 = some r) (fun _ => (.fn 34 [(.ptr 0 0), (.ptr 1 0)])) (fun _ => [.to (.blk 29 [(.v (.int .u64 x1))]), .to (.blk 22 [(.rsl (.bs 5 s1))])]), []⟩
 | _, _ => none
noncomputable def con_journal_blocks : Con := ⟨[none, (some (.bs 5))], fun a c => con_journal_blocks_1 a c, []⟩
noncomputable def con_block_Device_Write_1 (a : List SV) (c : List Ck) : Option CEff := match a, c with
 | [(.ptr 0 0), (.v (.int .i64 x1)), (.rsl (.bs 5 s1))], [.blk 61 [(.wsl 1), (.v (.bool b1)), (.v (.pointer none)), (.v (.int .i64 x2))], .row (.row 68 (.u8s 64) r1)] => some ⟨[lock Obl fun _ => ∃ r, lock F_block_Device_Write x1 s1 b1 x2 r1 = some r], .many (Int × Int × (List D)) (fun r => lock F_block_Device_Write x1 s1 b1 x2 r1 = some r) (fun | (u0, u1, u2) => (.v (.int .i64 u0))) (fun | (u0, u1, u2) => [.to (.blk 61 [(.wsl 1), (.v (.bool b1)), (.v (.pointer none)), (.v (.int .i64 u1))]), .to (.row (.row 68 (.u8s 64) u2))]), [false, false]⟩
 | _, _ => none
noncomputable def con_block_Device_Write_2 (a : List SV) (c : List Ck) : Option CEff := match a, c with
 | [(.ptr 0 0), (.v (.int .i64 x1)), (.rsl (.bs 5 s1))], [.blk 61 [(.wsl 1), (.v (.bool b1)), (.ptr 2 0), (.v (.int .i64 x2))], .row (.row 68 (.u8s 64) r1), .blk 67 [(.v (.int .i64 x3)), (.v (.int .i64 x4))]] => some ⟨[lock Obl fun _ => ∃ r, lock F_block_Device_Write_4 x1 s1 b1 x2 r1 x3 x4 = some r], .many ((Int × Int × (List D) × Int) ⊕ ((List D))) (fun r => lock F_block_Device_Write_4 x1 s1 b1 x2 r1 x3 x4 = some r) (fun | (.inl (u0, u1, u2, u3)) => (.v (.int .i64 u0)) | (.inr u0) => (.v (.int .i64 (3 : Int)))) (fun | (.inl (u0, u1, u2, u3)) => [.to (.blk 61 [(.wsl 1), (.v (.bool b1)), (.ptr 2 0), (.v (.int .i64 u1))]), .to (.row (.row 68 (.u8s 64) u2)), .to (.blk 67 [(.v (.int .i64 u3)), (.v (.int .i64 x4))])] | (.inr u0) => [.to (.blk 61 [(.wsl 1), (.v (.bool true)), (.v (.pointer none)), (.v (.int .i64 x2))]), .to (.row (.row 68 (.u8s 64) u0)), .same]), [false, false, false]⟩
 | _, _ => none
noncomputable def con_block_Device_Write : Con := ⟨[none, none, (some (.bs 5))], fun a c => altC (con_block_Device_Write_1 a c) (con_block_Device_Write_2 a c), []⟩
noncomputable def con_journal_Save_1 (a : List SV) (c : List Ck) : Option CEff := match a, c with
 | [(.ptr 0 0), (.rsl (.bs 5 s1))], [.blk 61 [(.wsl 1), (.v (.bool b1)), (.v (.pointer none)), (.v (.int .i64 x1))], .row (.row 68 (.u8s 64) r1)] => some ⟨[lock Obl fun _ => ∃ r, lock F_journal_Save s1 b1 x1 r1 = some r], .many (Int × Int × (List D)) (fun r => lock F_journal_Save s1 b1 x1 r1 = some r) (fun | (u0, u1, u2) => (.v (.int .i64 u0))) (fun | (u0, u1, u2) => [.to (.blk 61 [(.wsl 1), (.v (.bool b1)), (.v (.pointer none)), (.v (.int .i64 u1))]), .to (.row (.row 68 (.u8s 64) u2))]), [false, false]⟩
 | _, _ => none
noncomputable def con_journal_Save_2 (a : List SV) (c : List Ck) : Option CEff := match a, c with
 | [(.v (.pointer none)), (.rsl (.bs 5 s1))], [] => some ⟨[lock Obl fun _ => ∃ r, lock F_journal_Save_2 s1 = some r], .many (Unit) (fun r => lock F_journal_Save_2 s1 = some r) (fun _ => (.v (.int .i64 (1 : Int)))) (fun _ => []), []⟩
 | _, _ => none
noncomputable def con_journal_Save_3 (a : List SV) (c : List Ck) : Option CEff := match a, c with
 | [(.ptr 0 0), (.rsl (.bs 5 s1))], [.blk 61 [(.wsl 1), (.v (.bool b1)), (.ptr 2 0), (.v (.int .i64 x1))], .row (.row 68 (.u8s 64) r1), .blk 67 [(.v (.int .i64 x2)), (.v (.int .i64 x3))]] => some ⟨[lock Obl fun _ => ∃ r, lock F_journal_Save_3 s1 b1 x1 r1 x2 x3 = some r], .many ((Int × Int × (List D) × Int) ⊕ (Int × (List D) × Int)) (fun r => lock F_journal_Save_3 s1 b1 x1 r1 x2 x3 = some r) (fun | (.inl (u0, u1, u2, u3)) => (.v (.int .i64 u0)) | (.inr (u0, u1, u2)) => (.v (.int .i64 (3 : Int)))) (fun | (.inl (u0, u1, u2, u3)) => [.to (.blk 61 [(.wsl 1), (.v (.bool b1)), (.ptr 2 0), (.v (.int .i64 u1))]), .to (.row (.row 68 (.u8s 64) u2)), .to (.blk 67 [(.v (.int .i64 u3)), (.v (.int .i64 x3))])] | (.inr (u0, u1, u2)) => [.to (.blk 61 [(.wsl 1), (.v (.bool true)), (.v (.pointer none)), (.v (.int .i64 u0))]), .to (.row (.row 68 (.u8s 64) u1)), .to (.blk 67 [(.v (.int .i64 u2)), (.v (.int .i64 x3))])]), [false, false, false]⟩
 | _, _ => none
noncomputable def con_journal_Save : Con := ⟨[none, (some (.bs 5))], fun a c => altC (con_journal_Save_1 a c) (altC (con_journal_Save_2 a c) (con_journal_Save_3 a c)), []⟩
noncomputable def con_tollbarlaw32_awake_1 (a : List SV) (c : List Ck) : Option CEff := match a, c with
 | [], [] => some ⟨[lock Obl fun _ => ∃ r, lock F_tollbarlaw32_awake = some r], .many (Bool) (fun r => lock F_tollbarlaw32_awake = some r) (fun u0 => (.v (.bool u0))) (fun u0 => []), []⟩
 | _, _ => none
noncomputable def con_tollbarlaw32_awake : Con := ⟨[], fun a c => con_tollbarlaw32_awake_1 a c, []⟩
noncomputable def con_block_Device_Arm_1 (a : List SV) (c : List Ck) : Option CEff := match a, c with
 | [(.v (.pointer none)), (.v (.int .i64 x1)), (.v (.int .i64 x2))], [] => some ⟨[lock Obl fun _ => ∃ r, lock F_block_Device_Arm x1 x2 = some r], .many (Unit) (fun r => lock F_block_Device_Arm x1 x2 = some r) (fun _ => (.v (.int .i64 (1 : Int)))) (fun _ => []), []⟩
 | _, _ => none
noncomputable def con_block_Device_Arm_2 (a : List SV) (c : List Ck) : Option CEff := match a, c with
 | [(.ptr 0 0), (.v (.int .i64 x1)), (.v (.int .i64 x2))], [.blk 61 [(.wsl 1), (.v (.bool b1)), (.v (.pointer none)), (.v (.int .i64 x3))], .row (.row 68 (.u8s 64) r1)] => some ⟨[lock Obl fun _ => ∃ r, lock F_block_Device_Arm_2 x1 x2 b1 x3 r1 = some r], .many ((Unit) ⊕ (Unit)) (fun r => lock F_block_Device_Arm_2 x1 x2 b1 x3 r1 = some r) (fun | (.inl _) => (.v (.int .i64 (1 : Int))) | (.inr _) => (.v (.int .i64 (0 : Int)))) (fun | (.inl _) => [.same, .same] | (.inr _) => [.to (.blk 61 [(.wsl 1), (.v (.bool b1)), (.ptr 2 0), (.v (.int .i64 x3))]), .same, .to (.blk 67 [(.v (.int .i64 x1)), (.v (.int .i64 x2))])]), [false, true]⟩
 | _, _ => none
noncomputable def con_block_Device_Arm : Con := ⟨[none, none, none], fun a c => altC (con_block_Device_Arm_1 a c) (con_block_Device_Arm_2 a c), []⟩
noncomputable def con_tollbarlaw32_bytes_1 (a : List SV) (c : List Ck) : Option CEff := match a, c with
 | [(.agg [(.v (.int .u16 x1)), (.v (.int .u8 x2)), (.v (.int .u8 x3)), (.v (.int .u8 x4))])], [] => some ⟨[lock Obl fun _ => ∃ r, lock F_tollbarlaw32_bytes x1 x2 x3 x4 = some r], .many ((List UInt8)) (fun r => lock F_tollbarlaw32_bytes x1 x2 x3 x4 = some r) (fun u0 => (.wsl 0)) (fun u0 => [.to (.row (.bs 5 u0))]), []⟩
 | _, _ => none
noncomputable def con_tollbarlaw32_bytes : Con := ⟨[none], fun a c => con_tollbarlaw32_bytes_1 a c, []⟩
noncomputable def con_block_Device_Up_1 (a : List SV) (c : List Ck) : Option CEff := match a, c with
 | [(.v (.pointer none))], [] => some ⟨[lock Obl fun _ => ∃ r, lock F_block_Device_Up = some r], .many (Unit) (fun r => lock F_block_Device_Up = some r) (fun _ => (.tup [])) (fun _ => []), []⟩
 | _, _ => none
noncomputable def con_block_Device_Up_2 (a : List SV) (c : List Ck) : Option CEff := match a, c with
 | [(.ptr 0 0)], [.blk 61 [(.wsl 1), (.v (.bool b1)), (.v (.pointer none)), (.v (.int .i64 x1))], .row (.row 68 (.u8s 64) r1)] => some ⟨[lock Obl fun _ => ∃ r, lock F_block_Device_Up_2 b1 x1 r1 = some r], .many (Unit) (fun r => lock F_block_Device_Up_2 b1 x1 r1 = some r) (fun _ => (.tup [])) (fun _ => [.to (.blk 61 [(.wsl 1), (.v (.bool false)), (.v (.pointer none)), (.v (.int .i64 x1))]), .same]), [false, true]⟩
 | _, _ => none
noncomputable def con_block_Device_Up_3 (a : List SV) (c : List Ck) : Option CEff := match a, c with
 | [(.ptr 0 0)], [.blk 61 [(.wsl 1), (.v (.bool b1)), (.ptr 2 0), (.v (.int .i64 x1))], .row (.row 68 (.u8s 64) r1), .blk 67 [(.v (.int .i64 x2)), (.v (.int .i64 x3))]] => some ⟨[lock Obl fun _ => ∃ r, lock F_block_Device_Up_3 b1 x1 r1 x2 x3 = some r], .many (Unit) (fun r => lock F_block_Device_Up_3 b1 x1 r1 x2 x3 = some r) (fun _ => (.tup [])) (fun _ => [.to (.blk 61 [(.wsl 1), (.v (.bool false)), (.v (.pointer none)), (.v (.int .i64 x1))]), .same, .same]), [false, true, true]⟩
 | _, _ => none
noncomputable def con_block_Device_Up : Con := ⟨[none], fun a c => altC (con_block_Device_Up_1 a c) (altC (con_block_Device_Up_2 a c) (con_block_Device_Up_3 a c)), []⟩
noncomputable def con_block_Device_Writes_1 (a : List SV) (c : List Ck) : Option CEff := match a, c with
 | [(.v (.pointer none))], [] => some ⟨[lock Obl fun _ => ∃ r, lock F_block_Device_Writes = some r], .many (Unit) (fun r => lock F_block_Device_Writes = some r) (fun _ => (.v (.int .i64 (0 : Int)))) (fun _ => []), []⟩
 | _, _ => none
noncomputable def con_block_Device_Writes_2 (a : List SV) (c : List Ck) : Option CEff := match a, c with
 | [(.ptr 0 0)], [.blk 61 [(.wsl 1), (.v (.bool b1)), (.v (.pointer none)), (.v (.int .i64 x1))], .row (.row 68 (.u8s 64) r1)] => some ⟨[lock Obl fun _ => ∃ r, lock F_block_Device_Writes_2 b1 x1 r1 = some r], .many (Unit) (fun r => lock F_block_Device_Writes_2 b1 x1 r1 = some r) (fun _ => (.v (.int .i64 x1))) (fun _ => [.same, .same]), [true, true]⟩
 | _, _ => none
noncomputable def con_block_Device_Writes_3 (a : List SV) (c : List Ck) : Option CEff := match a, c with
 | [(.ptr 0 0)], [.blk 61 [(.wsl 1), (.v (.bool b1)), (.ptr 2 0), (.v (.int .i64 x1))], .row (.row 68 (.u8s 64) r1), .blk 67 [(.v (.int .i64 x2)), (.v (.int .i64 x3))]] => some ⟨[lock Obl fun _ => ∃ r, lock F_block_Device_Writes_3 b1 x1 r1 x2 x3 = some r], .many (Unit) (fun r => lock F_block_Device_Writes_3 b1 x1 r1 x2 x3 = some r) (fun _ => (.v (.int .i64 x1))) (fun _ => [.same, .same, .same]), [true, true, true]⟩
 | _, _ => none
noncomputable def con_block_Device_Writes : Con := ⟨[none], fun a c => altC (con_block_Device_Writes_1 a c) (altC (con_block_Device_Writes_2 a c) (con_block_Device_Writes_3 a c)), []⟩
noncomputable def con_tollbarlaw32_JournalCounts_1 (a : List SV) (c : List Ck) : Option CEff := match a, c with
 | [(.rsl (.row 47 (.st [(.int .u16), (.int .u8), (.int .u8), (.int .u8)]) r1))], [] => some ⟨[lock Obl fun _ => ∃ r, lock F_tollbarlaw32_JournalCounts r1 = some r], .many (Bool) (fun r => lock F_tollbarlaw32_JournalCounts r1 = some r) (fun u0 => (.v (.bool u0))) (fun u0 => []), []⟩
 | _, _ => none
noncomputable def con_tollbarlaw32_JournalCounts : Con := ⟨[], fun a c => con_tollbarlaw32_JournalCounts_1 a c, []⟩
end Go.Proofs.YtbkcmpggacbikaaDoor
end
