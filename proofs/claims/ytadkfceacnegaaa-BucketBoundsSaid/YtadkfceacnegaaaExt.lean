/-
  A statement whose order is open: all operations but the last few read, or call what only makes memory, or lay one new variable; the last few stand in one order. It may be walked in the order of its text.
-/
import Derived.Test.YtadkfceacnegaaaKit
import Derived.Deep.Quiet
import Derived.StillTail
set_option linter.unusedVariables false
set_option linter.unusedSimpArgs false
namespace Go.Proofs.Ytadkfceacnegaaa
open Go.RowKit

/-- What an operation yields: v; the world stays, or a callee makes memory. -/
def extUpon (P : Program) (w : World) (v : Value) : Result Next → Prop
  | .ok (.value u) w' => w' = w ∧ u = v
  | .ok .skip w' => w' = w ∧ v = undef
  | .ok (.enter f args) w' => w' = w ∧ Calls P f args w (fun e w'' => e = .returned v ∧ Below w.heap.size w w'')
  | _ => False

/-- The operation that stores into the new variable: its number, the slot of what is stored, and that. -/
structure StOp where
  at_ : Nat
  tv : Tmp
  nc : Array Value

/-- The walk in the text's order; operation number 'al' is passed by. -/
def wpExt (P : Program) (ops : Array Oper) (W0 : World) (al : Option Nat) (st : Option StOp) (K : Act → Prop) : Nat → List Oper → Act → Prop
  | _, [], a => K a
  | k, o :: rest, a =>
    if al = some k then wpExt P ops W0 al st K (k + 1) rest a
    else if st.map (·.at_) = some k then (∀ s, st = some s → a.tmps[s.tv]? = some (.agg s.nc)) ∧ wpExt P ops W0 al st K (k + 1) rest (a.put o.dst undef)
    else if Region.wanted o (yielded ops a.tmps) = true then ∃ v, (∀ w, Below W0.heap.size W0 w → extUpon P w v ((execOp a.eval o).run P w)) ∧ wpExt P ops W0 al st K (k + 1) rest (a.put o.dst v)
    else wpExt P ops W0 al st K (k + 1) rest (a.put o.dst undef)

section
variable {P : Program} {ops : Array Oper}

def dstOf (ops : Array Oper) (i : Nat) : Option Tmp := (ops[i]?).bind (·.dst)

/-- The frame in the text's order, behind m operations. -/
def actTo (ops : Array Oper) (al : Option Nat) (c : Nat → Value) (a0 : Act) : Nat → Act
  | 0 => a0
  | m + 1 => if al = some m then actTo ops al c a0 m else (actTo ops al c a0 m).put (dstOf ops m) (c m)

theorem actTo_congr {al : Option Nat} {c c' : Nat → Value} {a0 : Act} : ∀ m, (∀ i, i < m → c i = c' i) → actTo ops al c a0 m = actTo ops al c' a0 m
  | 0, _ => rfl
  | m + 1, h => by
    simp only [actTo]
    rw [actTo_congr m (fun i hi => h i (by omega)), h m (by omega)]

theorem put_size (a : Act) (d : Option Tmp) (v : Value) : (a.put d v).tmps.size = a.tmps.size := by cases d <;> simp [Act.put]
theorem put_defers' (a : Act) (d : Option Tmp) (v : Value) : (a.put d v).defers = a.defers := by cases d <;> rfl
theorem put_get_ne (a : Act) (d : Option Tmp) (v : Value) (t : Nat) (h : d ≠ some t) : (a.put d v).tmps[t]? = a.tmps[t]? := by
  cases d with
  | none => rfl
  | some d => simp only [Act.put]; rw [Array.getElem?_setIfInBounds_ne (fun e => h (by rw [e]))]
theorem put_get_eq (a : Act) (v : Value) (t : Nat) (h : t < a.tmps.size) : (a.put (some t) v).tmps[t]? = some v := by
  simp only [Act.put]; rw [Array.getElem?_setIfInBounds_self, if_pos h]

theorem actTo_size {al : Option Nat} {c : Nat → Value} {a0 : Act} : ∀ m, (actTo ops al c a0 m).tmps.size = a0.tmps.size
  | 0 => rfl
  | m + 1 => by
    simp only [actTo]; split
    · exact actTo_size m
    · rw [put_size]; exact actTo_size m
theorem actTo_defers {al : Option Nat} {c : Nat → Value} {a0 : Act} : ∀ m, (actTo ops al c a0 m).defers = a0.defers
  | 0 => rfl
  | m + 1 => by
    simp only [actTo]; split
    · exact actTo_defers m
    · rw [put_defers']; exact actTo_defers m
/-- What no operation writes. -/
theorem actTo_out {al : Option Nat} {c : Nat → Value} {a0 : Act} (t : Nat) : ∀ m, (∀ j, j < m → al ≠ some j → dstOf ops j ≠ some t) → (actTo ops al c a0 m).tmps[t]? = a0.tmps[t]?
  | 0, _ => rfl
  | m + 1, h => by
    simp only [actTo]; split
    · exact actTo_out t m (fun j hj => h j (by omega))
    · rename_i hne
      rw [put_get_ne _ _ _ _ (h m (by omega) hne)]
      exact actTo_out t m (fun j hj => h j (by omega))
/-- What an operation has written. -/
theorem actTo_in {al : Option Nat} {c : Nat → Value} {a0 : Act} {n : Nat} (hd : ∀ i j, i < n → j < n → i ≠ j → ∀ t, dstOf ops i = some t → dstOf ops j ≠ some t)
    {t j : Nat} (ht : dstOf ops j = some t) (hs : t < a0.tmps.size) (hal : al ≠ some j) : ∀ m, m ≤ n → j < m → (actTo ops al c a0 m).tmps[t]? = some (c j)
  | 0, _, h => absurd h (by omega)
  | m + 1, hm, h => by
    simp only [actTo]
    by_cases hjm : j = m
    · subst hjm
      rw [if_neg hal, ht]
      exact put_get_eq _ _ _ (by rw [actTo_size]; exact hs)
    · split
      · exact actTo_in hd ht hs hal m (by omega) (by omega)
      · rw [put_get_ne _ _ _ _ (hd j m (by omega) (by omega) hjm t ht)]
        exact actTo_in hd ht hs hal m (by omega) (by omega)

/-- Of one operation: what the text's walk has shown. -/
def StepOk (P : Program) (ops : Array Oper) (W0 : World) (al : Option Nat) (st : Option StOp) (c : Nat → Value) (a0 : Act) (j : Nat) : Prop :=
  al = some j ∨ (al ≠ some j ∧ st.map (·.at_) = some j ∧ c j = undef ∧ ∀ s, st = some s → (actTo ops al c a0 j).tmps[s.tv]? = some (.agg s.nc)) ∨ al ≠ some j ∧ st.map (·.at_) ≠ some j ∧ ∃ o, ops[j]? = some o ∧
    ((Region.wanted o (yielded ops (actTo ops al c a0 j).tmps) = true ∧ ∀ w, Below W0.heap.size W0 w → extUpon P w (c j) ((execOp (actTo ops al c a0 j).eval o).run P w)) ∨
     (Region.wanted o (yielded ops (actTo ops al c a0 j).tmps) = false ∧ c j = undef))

theorem StepOk.congr {W0 : World} {al : Option Nat} {st : Option StOp} {c c' : Nat → Value} {a0 : Act} {j : Nat} (h : StepOk P ops W0 al st c a0 j) (hc : ∀ i, i ≤ j → c i = c' i) : StepOk P ops W0 al st c' a0 j := by
  have e := actTo_congr (ops := ops) (al := al) (a0 := a0) (c := c) (c' := c') j (fun i hi => hc i (by omega))
  rcases h with h | ⟨hn, hs, hu, hv⟩ | ⟨hn, hs, o, ho, h⟩
  · exact .inl h
  · exact .inr (.inl ⟨hn, hs, by rw [← hc j (Nat.le_refl _)]; exact hu, by rw [← e]; exact hv⟩)
  · refine .inr (.inr ⟨hn, hs, o, ho, ?_⟩)
    rw [e, hc j (Nat.le_refl _)] at h
    exact h

theorem steps_of_wpExt {W0 : World} {al : Option Nat} {st : Option StOp} {K : Act → Prop} {a0 : Act} : ∀ (l : List Oper) (k : Nat) (c : Nat → Value), (∀ j, j < l.length → l[j]? = ops[k + j]?) →
    wpExt P ops W0 al st K k l (actTo ops al c a0 k) → ∃ c', (∀ i, i < k → c' i = c i) ∧ (∀ j, k ≤ j → j < k + l.length → StepOk P ops W0 al st c' a0 j) ∧ K (actTo ops al c' a0 (k + l.length))
  | [], k, c, _, h => ⟨c, fun _ _ => rfl, fun j h1 h2 => by simp at h2; omega, h⟩
  | o :: l, k, c, hl, h => by
    have h0 : ops[k]? = some o := by simpa using (hl 0 (by simp)).symm
    have hl' : ∀ j, j < l.length → l[j]? = ops[k + 1 + j]? := fun j hj => by
      have := hl (j + 1) (by simp; omega)
      simpa [Nat.add_assoc, Nat.add_comm 1 j] using this
    simp only [wpExt] at h
    -- the step's value, and the frame behind it
    have go : ∀ v, StepOk P ops W0 al st (fun i => if i = k then v else c i) a0 k → wpExt P ops W0 al st K (k + 1) l (actTo ops al (fun i => if i = k then v else c i) a0 (k + 1)) →
        ∃ c', (∀ i, i < k → c' i = c i) ∧ (∀ j, k ≤ j → j < k + (o :: l).length → StepOk P ops W0 al st c' a0 j) ∧ K (actTo ops al c' a0 (k + (o :: l).length)) := by
      intro v hs hw
      obtain ⟨c', h1, h2, h3⟩ := steps_of_wpExt l (k + 1) (fun i => if i = k then v else c i) hl' hw
      refine ⟨c', fun i hi => by rw [h1 i (by omega)]; simp [show i ≠ k by omega], fun j hj1 hj2 => ?_, ?_⟩
      · by_cases hjk : j = k
        · subst hjk; exact hs.congr (fun i hi => (h1 i (by omega)).symm)
        · exact h2 j (by omega) (by simp at hj2; omega)
      · rw [show k + (o :: l).length = k + 1 + l.length by simp; omega]; exact h3
    have hcg : ∀ v, actTo ops al (fun i => if i = k then v else c i) a0 k = actTo ops al c a0 k := fun v => actTo_congr k (fun i hi => by simp [show i ≠ k by omega])
    by_cases hal : al = some k
    · rw [if_pos hal] at h
      refine go undef (.inl hal) ?_
      simp only [actTo]; rw [if_pos hal, hcg]; exact h
    · rw [if_neg hal] at h
      by_cases hst : st.map (·.at_) = some k
      · rw [if_pos hst] at h
        refine go undef (.inr (.inl ⟨hal, hst, by simp, by rw [hcg]; exact h.1⟩)) ?_
        simp only [actTo]; rw [if_neg hal, hcg]; simpa [dstOf, h0] using h.2
      · rw [if_neg hst] at h
        by_cases hw : Region.wanted o (yielded ops (actTo ops al c a0 k).tmps) = true
        · rw [if_pos hw] at h
          obtain ⟨v, hv, hr⟩ := h
          refine go v (.inr (.inr ⟨hal, hst, o, h0, .inl ⟨by rw [hcg]; exact hw, fun w hB => by rw [hcg]; simpa using hv w hB⟩⟩)) ?_
          simp only [actTo]; rw [if_neg hal, hcg]; simpa [dstOf, h0] using hr
        · rw [if_neg hw] at h
          refine go undef (.inr (.inr ⟨hal, hst, o, h0, .inr ⟨by rw [hcg]; simpa using hw, by simp⟩⟩)) ?_
          simp only [actTo]; rw [if_neg hal, hcg]; simpa [dstOf, h0] using h

/-- The closed facts that are asked of the operations: n of them are the head. -/
def extOk (ops : Array Oper) (n : Nat) (al : Option Nat) (st : Option Nat) : Bool :=
  ((List.range n).all fun j => match ops[j]? with
    | none => false
    | some o =>
      (o.looksAt ops).all (fun t => (List.range n).all fun i => (dstOf ops i != some t) || (decide (i < j) && Region.waitsFor .any ops j i && (al != some i || st == some j))) &&
      (List.range n).all (fun i => i == j || (match dstOf ops i with | none => true | some t => dstOf ops j != some t)) &&
      o.after.all (fun e => !Region.binds .any e || decide (e.on < j))) &&
  Region.noSelect ops && decide (n < ops.size) && Region.sinkB .any ops n && Region.chainB .any ops n &&
  Region.seqB .any ops (ops.size - n) n ((List.replicate n true ++ List.replicate (ops.size - n) false).toArray)

theorem wpAny_more {Q : Exit → Act → World → Prop} {md : Region.Mode} : ∀ (f : Nat) (listed : Array Bool) (a : Act) (w : World), wpAny P md ops Q f listed a w → wpAny P md ops Q (f + 1) listed a w
  | 0, _, _, _, h => ⟨fun _ => h.2, fun i hi => by rw [h.1] at hi; cases hi⟩
  | f + 1, listed, a, w, h => ⟨h.1, fun i hi => wpOp_mono (fun a' w' h' => wpAny_more f _ a' w' h') (h.2 i hi)⟩
theorem wpAny_more' {Q : Exit → Act → World → Prop} {md : Region.Mode} {g : Nat} {listed : Array Bool} {a : Act} {w : World} (h : wpAny P md ops Q g listed a w) : ∀ f, wpAny P md ops Q (f + g) listed a w
  | 0 => by rw [Nat.zero_add]; exact h
  | f + 1 => by rw [show f + 1 + g = f + g + 1 by omega]; exact wpAny_more _ _ _ _ (wpAny_more' h f)

def cntU (listed : Array Bool) : Nat → Nat
  | 0 => 0
  | m + 1 => cntU listed m + (if listed.getD m false = true then 0 else 1)
theorem cntU_set_ge {listed : Array Bool} {i : Nat} : ∀ m, m ≤ i → cntU (listed.setIfInBounds i true) m = cntU listed m
  | 0, _ => rfl
  | m + 1, h => by simp only [cntU]; rw [cntU_set_ge m (by omega), getD_set_ne false (show i ≠ m by omega)]
theorem cntU_set {listed : Array Bool} {i : Nat} (hi : i < listed.size) (hf : listed.getD i false = false) : ∀ m, i < m → cntU (listed.setIfInBounds i true) m + 1 = cntU listed m
  | 0, h => absurd h (by omega)
  | m + 1, h => by
    simp only [cntU]
    by_cases him : i = m
    · subst him
      rw [cntU_set_ge i (Nat.le_refl _)]
      have h1 : (listed.setIfInBounds i true).getD i false = true := by simp [hi]
      rw [h1, hf]; simp
    · rw [getD_set_ne false him]
      have := cntU_set hi hf m (by omega)
      omega
theorem cntU_zero {listed : Array Bool} : ∀ m, cntU listed m = 0 → ∀ j, j < m → listed.getD j false = true
  | 0, _, j, hj => absurd hj (by omega)
  | m + 1, h, j, hj => by
    simp only [cntU] at h
    by_cases hjm : j = m
    · subst hjm
      cases hl : listed.getD j false with
      | true => rfl
      | false => rw [hl] at h; simp at h
    · exact cntU_zero m (by omega) j (by omega)
theorem cntU_pos {listed : Array Bool} : ∀ m, cntU listed m ≠ 0 → ∃ i, i < m ∧ listed.getD i false = false ∧ ∀ j, j < i → listed.getD j false = true
  | 0, h => absurd rfl h
  | m + 1, h => by
    by_cases hm : cntU listed m = 0
    · simp only [cntU] at h
      refine ⟨m, by omega, ?_, cntU_zero m hm⟩
      cases hl : listed.getD m false with
      | false => rfl
      | true => rw [hl] at h; simp [hm] at h
    · obtain ⟨i, h1, h2, h3⟩ := cntU_pos m hm
      exact ⟨i, by omega, h2, h3⟩
theorem cntU_le (listed : Array Bool) : ∀ m, cntU listed m ≤ m
  | 0 => Nat.le_refl _
  | m + 1 => by simp only [cntU]; have := cntU_le listed m; split <;> omega

/-- What the new variable holds. -/
def contX (st : Option StOp) (zc : Array Value) (listed : Array Bool) : Array Value :=
  match st with
  | none => zc
  | some s => if listed.getD s.at_ false = true then s.nc else zc
/-- The state in the midst of the region, in whatever order. -/
structure RInv (ops : Array Oper) (W0 : World) (n : Nat) (al : Option Nat) (st : Option StOp) (zc : Array Value) (Tz : TypeId) (c : Nat → Value) (a0 : Act) (listed : Array Bool) (a : Act) (w : World) (vs : Nat → Value) : Prop where
  head : HeadInv .any ops n listed
  defers : a.defers = a0.defers
  size : a.tmps.size = a0.tmps.size
  got : ∀ j, j < n → listed.getD j false = true → ∀ t, dstOf ops j = some t → t < a0.tmps.size → a.tmps[t]? = some (vs j)
  out : ∀ t, (∀ j, j < n → listed.getD j false = true → dstOf ops j ≠ some t) → a.tmps[t]? = a0.tmps[t]?
  val : ∀ j, j < n → listed.getD j false = true → al ≠ some j → vs j = c j
  below : Below W0.heap.size W0 w
  blk : ∀ i, al = some i → listed.getD i false = true → ∃ B, vs i = .pointer (some ⟨B, 0, none⟩) ∧ W0.heap.size ≤ B ∧ Blk w B (contX st zc listed) Tz

theorem extOk_spec {n : Nat} {al : Option Nat} {st : Option Nat} (h : extOk ops n al st = true) :
    (∀ j, j < n → ∃ o, ops[j]? = some o ∧ (∀ t ∈ o.looksAt ops, ∀ i, i < n → dstOf ops i = some t → i < j ∧ Region.waitsFor .any ops j i = true ∧ (al ≠ some i ∨ st = some j)) ∧
      (∀ i, i < n → i ≠ j → ∀ t, dstOf ops i = some t → dstOf ops j ≠ some t) ∧ (∀ e ∈ o.after, Region.binds .any e = true → e.on < j)) ∧
    Region.noSelect ops = true ∧ n < ops.size ∧ Region.sinkB .any ops n = true ∧ Region.chainB .any ops n = true ∧
    Region.seqB .any ops (ops.size - n) n ((List.replicate n true ++ List.replicate (ops.size - n) false).toArray) = true := by
  unfold extOk at h
  simp only [Bool.and_eq_true, decide_eq_true_eq] at h
  obtain ⟨⟨⟨⟨⟨h1, h2⟩, h3⟩, h4⟩, h5⟩, h6⟩ := h
  refine ⟨fun j hj => ?_, h2, h3, h4, h5, h6⟩
  have hj' := List.all_eq_true.1 h1 j (List.mem_range.2 hj)
  cases ho : ops[j]? with
  | none => rw [ho] at hj'; cases hj'
  | some o =>
    rw [ho] at hj'
    simp only [Bool.and_eq_true] at hj'
    obtain ⟨⟨g1, g2⟩, g3⟩ := hj'
    refine ⟨o, rfl, fun t ht i hi hd => ?_, fun i hi hij t hd => ?_, fun e he hb => ?_⟩
    · have := List.all_eq_true.1 (List.all_eq_true.1 g1 t ht) i (List.mem_range.2 hi)
      simp [hd] at this
      exact ⟨this.1.1, this.1.2, this.2⟩
    · have := List.all_eq_true.1 g2 i (List.mem_range.2 hi)
      simp [hd, hij] at this
      exact this
    · have := Array.all_eq_true'.1 g3 e he
      simp [hb] at this
      exact this

section inv
variable {W0 : World} {n : Nat} {al : Option Nat} {st : Option StOp} {zc : Array Value} {Tz : TypeId} {c : Nat → Value} {a0 : Act} {listed : Array Bool} {a : Act} {w : World} {vs : Nat → Value}

theorem RInv.next (h : RInv ops W0 n al st zc Tz c a0 listed a w vs) {i : Nat} (hi : i ∈ Region.ready .any ops listed) (hin : i < n)
    (hd : ∀ j, j < n → i ≠ j → ∀ t, dstOf ops j = some t → dstOf ops i ≠ some t) {v : Value} {w' : World} (hB : Below W0.heap.size w w')
    (hv : al ≠ some i → v = c i) (hal : ∀ k, al = some k → (listed.setIfInBounds i true).getD k false = true → ∃ B, (if k = i then v else vs k) = .pointer (some ⟨B, 0, none⟩) ∧ W0.heap.size ≤ B ∧ Blk w' B (contX st zc (listed.setIfInBounds i true)) Tz) :
    RInv ops W0 n al st zc Tz c a0 (listed.setIfInBounds i true) (a.put (dstOf ops i) v) w' (fun j => if j = i then v else vs j) := by
  refine ⟨h.head.set hi hin, by rw [put_defers']; exact h.defers, by rw [put_size]; exact h.size, fun j hj hl t ht hs => ?_, fun t ht => ?_, fun j hj hl ha => ?_, h.below.trans hB, hal⟩
  · by_cases hji : j = i
    · subst hji
      rw [ht, put_get_eq _ _ _ (by rw [h.size]; exact hs), if_pos rfl]
    · rw [getD_set_ne false (Ne.symm hji)] at hl
      rw [put_get_ne _ _ _ _ (hd j hj (Ne.symm hji) t ht), if_neg hji]
      exact h.got j hj hl t ht hs
  · have hlt : i < listed.size := by rw [h.head.size]; obtain ⟨_, o, ho, _⟩ := mem_ready.1 hi; exact (Array.getElem?_eq_some_iff.1 ho).1
    rw [put_get_ne _ _ _ _ (ht i hin (by simp [hlt]))]
    exact h.out t fun j hj hl => ht j hj (getD_set_true hl)
  · by_cases hji : j = i
    · subst hji; rw [if_pos rfl]; exact hv ha
    · rw [getD_set_ne false (Ne.symm hji)] at hl
      rw [if_neg hji]; exact h.val j hj hl ha

/-- A step that is neither the new variable's nor the store into it. -/
theorem RInv.next_quiet (h : RInv ops W0 n al st zc Tz c a0 listed a w vs) {i : Nat} (hi : i ∈ Region.ready .any ops listed) (hin : i < n)
    (hd : ∀ j, j < n → i ≠ j → ∀ t, dstOf ops j = some t → dstOf ops i ≠ some t) {v : Value} {w' : World} (hB : Below w.heap.size w w')
    (hv : v = c i) (hne : al ≠ some i) (hns : st.map (·.at_) ≠ some i) :
    RInv ops W0 n al st zc Tz c a0 (listed.setIfInBounds i true) (a.put (dstOf ops i) v) w' (fun j => if j = i then v else vs j) := by
  refine h.next hi hin hd (hB.mono h.below.size) (fun _ => hv) fun k hk hl => ?_
  have hki : k ≠ i := fun e => hne (by rw [hk, e])
  rw [getD_set_ne false (Ne.symm hki)] at hl
  rw [if_neg hki]
  obtain ⟨B, h1, h2, h3⟩ := h.blk k hk hl
  refine ⟨B, h1, h2, ?_⟩
  have : contX st zc (listed.setIfInBounds i true) = contX st zc listed := by
    cases st with
    | none => rfl
    | some s => simp only [contX]; rw [getD_set_ne false (fun e => hns (by simp [e]))]
  rw [this]
  exact h3.below' hB

theorem RInv.looks (h : RInv ops W0 n al st zc Tz c a0 listed a w vs) {i : Nat} (hi : i ∈ Region.ready .any ops listed) (hin : i < n) {o : Oper} (ho : ops[i]? = some o)
    (hD : ∀ i j, i < n → j < n → i ≠ j → ∀ t, dstOf ops i = some t → dstOf ops j ≠ some t)
    (hL : ∀ t ∈ o.looksAt ops, ∀ j, j < n → dstOf ops j = some t → j < i ∧ Region.waitsFor .any ops i j = true ∧ (al ≠ some j ∨ st.map (·.at_) = some i)) {t : Nat} (ht : t ∈ o.looksAt ops) (hex : ∀ j, j < n → dstOf ops j = some t → al ≠ some j) :
    a.tmps[t]? = (actTo ops al c a0 i).tmps[t]? := by
  obtain ⟨_, o', ho', hall⟩ := mem_ready.1 hi
  have : o' = o := Option.some.inj (ho'.symm.trans ho)
  subst this
  have hex0 := hex
  by_cases hs : t < a0.tmps.size
  · by_cases hex : ∃ j, j < n ∧ dstOf ops j = some t
    · obtain ⟨j, hj, hd⟩ := hex
      obtain ⟨h1, h2, _⟩ := hL t ht j hj hd
      have h3 := hex0 j hj hd
      obtain ⟨oj, hoj, e, he, hb, hon⟩ := Region.waitsFor_spec h2
      have : oj = o' := Option.some.inj (hoj.symm.trans ho)
      subst this
      have hl : listed.getD j false = true := by rw [← hon]; exact hall e he hb
      rw [h.got j hj hl t hd hs, h.val j hj hl h3, actTo_in hD hd hs h3 i (by omega) h1]
    · have hno : ∀ j, j < n → dstOf ops j ≠ some t := fun j hj hd => hex ⟨j, hj, hd⟩
      rw [h.out t (fun j hj _ => hno j hj), actTo_out t i (fun j hj _ => hno j (by omega))]
  · rw [Array.getElem?_eq_none (by rw [h.size]; omega), Array.getElem?_eq_none (by rw [actTo_size]; omega)]

theorem eval_of_looks {o : Oper} {a a' : Act} (hs : ∀ cs b, o.op ≠ .select cs b) (h : ∀ t ∈ o.looksAt ops, a.tmps[t]? = a'.tmps[t]?) : execOp a.eval o = execOp a'.eval o := by
  refine execOp_congr o hs fun x hx => ?_
  cases x with
  | tmp t =>
    have := h t (List.mem_append_left _ (List.mem_filterMap.2 ⟨.tmp t, by simpa using hx, rfl⟩))
    simp only [Act.eval, Array.getD_eq_getD_getElem?, this]
  | _ => rfl
theorem wanted_of_looks {o : Oper} {a a' : Act} (h : ∀ t ∈ o.looksAt ops, a.tmps[t]? = a'.tmps[t]?) : Region.wanted o (yielded ops a.tmps) = Region.wanted o (yielded ops a'.tmps) := by
  unfold Region.wanted
  cases hg : o.guard with
  | none => rfl
  | some gw =>
    obtain ⟨g, want⟩ := gw
    have hy : yielded ops a.tmps g = yielded ops a'.tmps g := by
      unfold yielded
      cases ht : (ops[g]?).bind (·.dst) with
      | none => rfl
      | some t =>
        have := h t (by simp [Oper.looksAt, hg, ht])
        simp only [Option.bind_some, this]
    simp only [hy]

/-- The store into the new variable, as an operation. -/
def StoreOk (P : Program) (ops : Array Oper) (n : Nat) (al : Option Nat) (zc : Array Value) (Tz : TypeId) (m : Nat) (st : Option StOp) : Prop :=
  ∀ s, st = some s → s.at_ < n ∧ ∃ o tp k, ops[s.at_]? = some o ∧ o.guard = none ∧ o.dst = none ∧ al = some k ∧ k < n ∧ dstOf ops k = some tp ∧ tp < m ∧ tp ∈ o.looksAt ops ∧ s.tv ∈ o.looksAt ops ∧ s.tv ≠ tp ∧ k ≠ s.at_ ∧
    ∀ ρ w B, ρ (.tmp tp) = .pointer (some ⟨B, 0, none⟩) → ρ (.tmp s.tv) = .agg s.nc → Blk w B zc Tz → ∃ w', (execOp ρ o).run P w = .ok .skip w' ∧ Blk w' B s.nc Tz ∧ Below B w w'

theorem RInv.step {Q : Exit → Act → World → Prop} (h : RInv ops W0 n al st zc Tz c a0 listed a w vs) (hsel : Region.noSelect ops = true) {i : Nat} (hi : i ∈ Region.ready .any ops listed) (hin : i < n)
    (hsp : ∀ j, j < n → ∃ o, ops[j]? = some o ∧ (∀ t ∈ o.looksAt ops, ∀ i, i < n → dstOf ops i = some t → i < j ∧ Region.waitsFor .any ops j i = true ∧ (al ≠ some i ∨ st.map (·.at_) = some j)) ∧
      (∀ i, i < n → i ≠ j → ∀ t, dstOf ops i = some t → dstOf ops j ≠ some t) ∧ (∀ e ∈ o.after, Region.binds .any e = true → e.on < j))
    (hst : StepOk P ops W0 al st c a0 i)
    (halloc : ∀ k, al = some k → ∃ o, ops[k]? = some o ∧ o.guard = none ∧ ∀ ρ w, (execOp ρ o).run P w = .ok (.value (.pointer (some ⟨w.heap.size, 0, none⟩))) (w.alloc (.cells zc Tz)))
    (hstore : StoreOk P ops n al zc Tz a0.tmps.size st) :
    wpOp P ops Q i (fun a' w' => ∃ vs', RInv ops W0 n al st zc Tz c a0 (listed.setIfInBounds i true) a' w' vs') a w := by
  obtain ⟨o, ho, hL, hdist, hedge⟩ := hsp i hin
  have hD : ∀ i j, i < n → j < n → i ≠ j → ∀ t, dstOf ops i = some t → dstOf ops j ≠ some t := fun i j hi hj hij t ht => by
    obtain ⟨_, _, _, h2, _⟩ := hsp j hj
    exact h2 i hi hij t ht
  have hdo : o.dst = dstOf ops i := by simp [dstOf, ho]
  have hd' : ∀ j, j < n → i ≠ j → ∀ t, dstOf ops j = some t → dstOf ops i ≠ some t := fun j hj hij t ht => hD j i hj hin (Ne.symm hij) t ht
  have hil : i < listed.size := by rw [h.head.size]; exact (Array.getElem?_eq_some_iff.1 ho).1
  have hready := mem_ready.1 hi
  unfold wpOp
  simp only [ho]
  rcases hst with hal | ⟨hne, hs, hu, hv⟩ | ⟨hne, hns, o', ho', hc⟩
  · obtain ⟨o', ho', hg, hrun⟩ := halloc i hal
    have : o' = o := Option.some.inj (ho'.symm.trans ho)
    subst this
    rw [if_pos (by simp [Region.wanted, hg])]
    left
    unfold Oper.wp
    rw [hrun]
    simp only [Oper.upon, hdo]
    have hsz := h.below.size
    refine ⟨_, h.next hi hin hd' (((Below.refl _ _).alloc (Nat.le_refl _) _).mono hsz) (fun hne => absurd hal hne) (fun k hk hl => ?_)⟩
    have hki : k = i := Option.some.inj (hk.symm.trans hal)
    subst hki
    rw [if_pos rfl]
    refine ⟨_, rfl, hsz, ?_⟩
    have hcx : contX st zc (listed.setIfInBounds k true) = zc := by
      cases st with
      | none => rfl
      | some s =>
        obtain ⟨hsn, o2, tp, k2, ho2, _, _, hal2, _, htp, _, hlk, _, _, hks, _⟩ := hstore s rfl
        have hk2 : k2 = k := Option.some.inj (hal2.symm.trans hal)
        subst hk2
        simp only [contX]
        rw [getD_set_ne false hks, if_neg]
        intro hls
        obtain ⟨o3, ho3, hL3, _⟩ := hsp s.at_ hsn
        have : o3 = o2 := Option.some.inj (ho3.symm.trans ho2)
        subst this
        obtain ⟨_, hw, _⟩ := hL3 tp hlk k2 hin htp
        obtain ⟨oj, hoj, e, he, hb, hon⟩ := Region.waitsFor_spec hw
        have h2 := h.head.closed s.at_ oj hoj hls e he hb
        rw [hon, getD_both hready.1] at h2
        cases h2
    rw [hcx]
    exact Blk.new _ _ _
  · cases st with
    | none => cases hs
    | some s =>
      have hsi : s.at_ = i := by simpa using hs
      obtain ⟨hsn, o2, tp, k, ho2, hg, hdst, hal2, hkn, htp, htps, hlk, hlv, htv, hks, hrun⟩ := hstore s rfl
      rw [hsi] at ho2 hks
      have : o2 = o := Option.some.inj (ho2.symm.trans ho)
      subst this
      obtain ⟨_, hw, _⟩ := hL tp hlk k hkn htp
      obtain ⟨oj, hoj, e, he, hb, hon⟩ := Region.waitsFor_spec hw
      have hlk2 : listed.getD k false = true := by
        obtain ⟨_, o3, ho3, hall⟩ := hready
        have : oj = o3 := Option.some.inj (hoj.symm.trans ho3)
        subst this
        rw [← hon]; exact hall e he hb
      obtain ⟨B, hvB, hB0, hBz⟩ := h.blk k hal2 hlk2
      have hnl : listed.getD i false = false := getD_both hready.1
      have hcz : contX (some s) zc listed = zc := by simp only [contX]; rw [hsi, hnl]; rfl
      rw [hcz] at hBz
      have e1 : a.eval (.tmp tp) = .pointer (some ⟨B, 0, none⟩) := by
        have := h.got k hkn hlk2 tp htp htps
        simp only [Act.eval, Array.getD_eq_getD_getElem?, this, hvB]
        rfl
      have e2 : a.eval (.tmp s.tv) = .agg s.nc := by
        have hx := h.looks hi hin ho hD hL hlv (fun j _ hj hja => by
          have hjk : j = k := Option.some.inj (hja.symm.trans hal2)
          subst hjk
          rw [htp] at hj
          injection hj with hj
          exact htv hj.symm)
        rw [hv s rfl] at hx
        simp only [Act.eval, Array.getD_eq_getD_getElem?, hx]
        rfl
      obtain ⟨w', hr, hb1, hb2⟩ := hrun a.eval w B e1 e2 hBz
      rw [if_pos (by simp [Region.wanted, hg])]
      left
      unfold Oper.wp
      rw [hr]
      simp only [Oper.upon, hdo]
      refine ⟨_, h.next hi hin hd' (hb2.mono hB0) (fun _ => hu.symm) (fun k' hk' hl => ?_)⟩
      have hkk : k' = k := Option.some.inj (hk'.symm.trans hal2)
      subst hkk
      rw [if_neg hks]
      refine ⟨B, hvB, hB0, ?_⟩
      have hcx : contX (some s) zc (listed.setIfInBounds i true) = s.nc := by simp [contX, hsi, hil]
      rw [hcx]
      exact hb1
  · have hlk := fun t ht => h.looks hi hin ho hD hL (t := t) ht (fun j hjn hj hja => by
      rcases (hL t ht j hjn hj).2.2 with h1 | h1
      · exact h1 hja
      · exact hns h1)
    have hev := eval_of_looks (Region.noSelect_spec hsel i o · · ho) hlk
    have hwt := wanted_of_looks hlk
    have : o' = o := Option.some.inj (ho'.symm.trans ho)
    subst this
    rw [← hwt, ← hev] at hc
    rcases hc with ⟨hw, hq⟩ | ⟨hw, hu⟩
    · rw [if_pos hw]
      left
      have hx := hq w h.below
      unfold Oper.wp
      generalize (execOp a.eval o').run P w = r at hx
      unfold extUpon at hx
      split at hx
      · obtain ⟨rfl, rfl⟩ := hx
        simp only [Oper.upon, hdo]
        exact ⟨_, h.next_quiet hi hin hd' (Below.refl _ _) rfl hne hns⟩
      · obtain ⟨rfl, hu⟩ := hx
        simp only [Oper.upon, hdo]
        exact ⟨_, h.next_quiet hi hin hd' (Below.refl _ _) hu.symm hne hns⟩
      · obtain ⟨rfl, hcall⟩ := hx
        simp only [Oper.upon, hdo]
        refine hcall.mono fun e w'' ⟨he, hB⟩ => ?_
        subst he
        exact ⟨_, h.next_quiet hi hin hd' hB rfl hne hns⟩
      · exact hx.elim
    · rw [if_neg (by simp [hw])]
      rw [hdo]
      exact ⟨_, h.next_quiet hi hin hd' (Below.refl _ _) hu.symm hne hns⟩

/-- What the new variable holds in the end. -/
def endC (st : Option StOp) (zc : Array Value) : Array Value :=
  match st with
  | none => zc
  | some s => s.nc

/-- What is left behind the head. -/
def TailX (P : Program) (ops : Array Oper) (Q : Exit → Act → World → Prop) (tl : List Oper) (b0 : Nat) (zc : Array Value) (Tz : TypeId) : Option Nat → Act → World → Prop
  | none, a, w' => wpList P ops Q tl a w'
  | some i, a, w' => ∀ B, b0 ≤ B → Blk w' B zc Tz → wpList P ops Q tl (a.put (dstOf ops i) (.pointer (some ⟨B, 0, none⟩))) w'

def endAct (ops : Array Oper) (c : Nat → Value) (a0 : Act) (n : Nat) (vs : Nat → Value) : Option Nat → Act
  | none => actTo ops none c a0 n
  | some i => if i < n then (actTo ops (some i) c a0 n).put (dstOf ops i) (vs i) else actTo ops (some i) c a0 n

theorem act_ext {a b : Act} (h1 : a.defers = b.defers) (h2 : a.tmps.size = b.tmps.size) (h3 : ∀ t : Nat, a.tmps[t]? = b.tmps[t]?) : a = b := by
  cases a; cases b
  simp only at h1 h2 h3
  subst h1
  congr 1
  exact Array.ext_getElem? h3

theorem RInv.end_ (h : RInv ops W0 n al st zc Tz c a0 listed a w vs) (hall : ∀ j, j < n → listed.getD j false = true)
    (hD : ∀ i j, i < n → j < n → i ≠ j → ∀ t, dstOf ops i = some t → dstOf ops j ≠ some t) :
    a = endAct ops c a0 n vs al := by
  have hin : ∀ j, j < n → al ≠ some j → ∀ t, dstOf ops j = some t → a.tmps[t]? = (actTo ops al c a0 n).tmps[t]? := by
    intro j hj ha t ht
    by_cases hs : t < a0.tmps.size
    · rw [h.got j hj (hall j hj) t ht hs, h.val j hj (hall j hj) ha, actTo_in hD ht hs ha n (Nat.le_refl _) hj]
    · rw [Array.getElem?_eq_none (Nat.le_of_not_lt (by rw [h.size]; exact hs)), Array.getElem?_eq_none (Nat.le_of_not_lt (by rw [actTo_size]; exact hs))]
  have hout : ∀ t, (∀ j, j < n → dstOf ops j ≠ some t) → a.tmps[t]? = (actTo ops al c a0 n).tmps[t]? := by
    intro t ht
    rw [h.out t (fun j hj _ => ht j hj), actTo_out t n (fun j hj _ => ht j hj)]
  have noal : (∀ i, i < n → al ≠ some i) → a = actTo ops al c a0 n := fun hna => by
    refine act_ext (h.defers.trans (actTo_defers n).symm) (h.size.trans (actTo_size n).symm) fun t => ?_
    by_cases hex : ∃ j, j < n ∧ dstOf ops j = some t
    · obtain ⟨j, hj, hd⟩ := hex
      exact hin j hj (hna j hj) t hd
    · exact hout t fun j hj hd => hex ⟨j, hj, hd⟩
  cases al with
  | none => exact noal (fun i _ => by simp)
  | some i =>
    simp only [endAct]
    by_cases hi : i < n
    · rw [if_pos hi]
      refine act_ext (by rw [put_defers']; exact h.defers.trans (actTo_defers n).symm) (by rw [put_size]; exact h.size.trans (actTo_size n).symm) fun t => ?_
      by_cases hti : dstOf ops i = some t
      · rw [hti]
        by_cases hs : t < a0.tmps.size
        · rw [put_get_eq _ _ _ (by rw [actTo_size]; exact hs)]
          exact h.got i hi (hall i hi) t hti hs
        · rw [Array.getElem?_eq_none (by rw [h.size]; omega), Array.getElem?_eq_none (by rw [put_size, actTo_size]; omega)]
      · rw [put_get_ne _ _ _ _ hti]
        by_cases hex : ∃ j, j < n ∧ dstOf ops j = some t
        · obtain ⟨j, hj, hd⟩ := hex
          exact hin j hj (fun e => hti (by injection e with e; subst e; exact hd)) t hd
        · exact hout t fun j hj hd => hex ⟨j, hj, hd⟩
    · rw [if_neg hi]
      exact noal (fun k hk e => hi (by injection e with e; omega))

theorem listed_all {listed : Array Bool} {n g : Nat} (hs : listed.size = n + g) (h1 : ∀ j, j < n → listed.getD j false = true) (h2 : ∀ t, n ≤ t → t < n + g → listed.getD t true = false) :
    listed = (List.replicate n true ++ List.replicate g false).toArray := by
  refine Array.ext_getElem? fun t => ?_
  rcases Nat.lt_or_ge t (n + g) with ht | ht
  · rcases Nat.lt_or_ge t n with htn | htn
    · have := h1 t htn
      rw [Array.getD_eq_getD_getElem?, Array.getElem?_eq_getElem (by omega)] at this
      rw [Array.getElem?_eq_getElem (by omega)]
      simp at this
      simp [this, List.getElem?_append, htn]
    · have := h2 t htn ht
      rw [Array.getD_eq_getD_getElem?, Array.getElem?_eq_getElem (by omega)] at this
      rw [Array.getElem?_eq_getElem (by omega)]
      simp at this
      simp [this, List.getElem?_append, List.getElem?_replicate, show ¬ t < n by omega, show t - n < g by omega]
  · rw [Array.getElem?_eq_none (by omega), Array.getElem?_eq_none (by simp; omega)]

theorem wpAny_ext {Q : Exit → Act → World → Prop} {g : Nat} (hsel : Region.noSelect ops = true) (hn : n < ops.size) (hg : ops.size = n + g) (hs : Region.sinkB .any ops n = true) (hc : Region.chainB .any ops n = true)
    (hsp : ∀ j, j < n → ∃ o, ops[j]? = some o ∧ (∀ t ∈ o.looksAt ops, ∀ i, i < n → dstOf ops i = some t → i < j ∧ Region.waitsFor .any ops j i = true ∧ (al ≠ some i ∨ st.map (·.at_) = some j)) ∧
      (∀ i, i < n → i ≠ j → ∀ t, dstOf ops i = some t → dstOf ops j ≠ some t) ∧ (∀ e ∈ o.after, Region.binds .any e = true → e.on < j))
    (hst : ∀ j, j < n → StepOk P ops W0 al st c a0 j)
    (halloc : ∀ k, al = some k → ∃ o, ops[k]? = some o ∧ o.guard = none ∧ ∀ ρ w, (execOp ρ o).run P w = .ok (.value (.pointer (some ⟨w.heap.size, 0, none⟩))) (w.alloc (.cells zc Tz)))
    (hstore : StoreOk P ops n al zc Tz a0.tmps.size st)
    (hend : ∀ a w vs, RInv ops W0 n al st zc Tz c a0 ((List.replicate n true ++ List.replicate g false).toArray) a w vs → wpAny P .any ops Q g ((List.replicate n true ++ List.replicate g false).toArray) a w) :
    ∀ (f : Nat) (listed : Array Bool) (a : Act) (w : World) (vs : Nat → Value), cntU listed n ≤ f → RInv ops W0 n al st zc Tz c a0 listed a w vs → wpAny P .any ops Q (f + g) listed a w := by
  intro f
  induction f with
  | zero =>
    intro listed a w vs hf h
    have hall := cntU_zero (listed := listed) n (Nat.le_zero.1 hf)
    have hl := listed_all (g := g) (by rw [h.head.size]; exact hg) hall (fun t h1 h2 => h.head.tail t h1 (by omega))
    subst hl
    rw [Nat.zero_add]
    exact hend a w vs h
  | succ f ih =>
    intro listed a w vs hf h
    by_cases hz : cntU listed n = 0
    · have hall := cntU_zero n hz
      have hl := listed_all (g := g) (by rw [h.head.size]; exact hg) hall (fun t h1 h2 => h.head.tail t h1 (by omega))
      subst hl
      exact wpAny_more' (hend a w vs h) (f + 1)
    · obtain ⟨i0, hi0, hu, hmin⟩ := cntU_pos n hz
      have hsz : i0 < listed.size := by rw [h.head.size]; omega
      have htrue := getD_in hsz hu
      rw [show f + 1 + g = (f + g) + 1 by omega]
      refine ⟨fun h0 => ?_, fun i hi => ?_⟩
      · exfalso
        obtain ⟨o, ho, _, _, hedge⟩ := hsp i0 hi0
        have : i0 ∈ Region.ready .any ops listed := mem_ready.2 ⟨htrue, o, ho, fun e he hb => hmin _ (hedge e he hb)⟩
        rw [h0] at this
        cases this
      · have hin : i < n := by
          rcases Nat.lt_or_ge i n with h' | h'
          · exact h'
          · exact absurd hi (tail_waits hs hc hn h.head (n - i0) i0 rfl hi0 htrue i h')
        refine wpOp_mono (fun a' w' h' => ?_) (h.step (Q := Q) hsel hi hin hsp (hst i hin) halloc hstore)
        obtain ⟨vs', h''⟩ := h'
        refine ih _ a' w' vs' ?_ h''
        have hi' := (mem_ready.1 hi).1
        have := cntU_set (listed := listed) (i := i) (by rw [h.head.size]; omega) (getD_both hi') n hin
        omega

end inv

/-- **THE REGION, IN THE ORDER OF ITS TEXT.** 'n' operations are the head; 'al': the one that lays a new variable. -/
theorem wp_region_ext {id : Nat} {l : List Oper} {Q : Exit → Act → World → Prop} {a0 : Act} {w0 : World} (n : Nat) (al : Option Nat) (st : Option StOp) (zc : Array Value) (Tz : TypeId) (hm : P.follows .mixedOrders = true) (hB : extOk l.toArray n al (st.map (·.at_)) = true)
    (halloc : ∀ k, al = some k → k < n ∧ ∃ o, l.toArray[k]? = some o ∧ o.guard = none ∧ ∀ ρ w, (execOp ρ o).run P w = .ok (.value (.pointer (some ⟨w.heap.size, 0, none⟩))) (w.alloc (.cells zc Tz)))
    (hstore : StoreOk P l.toArray n al zc Tz a0.tmps.size st)
    (h : wpExt P l.toArray w0.drew al st (fun a => ∀ w' : World, Below w0.drew.heap.size w0.drew w' → TailX P l.toArray Q (l.drop n) w0.heap.size (endC st zc) Tz al a w') 0 (l.take n) a0) :
    (Code.region id l.toArray true).wp P Q a0 w0 := by
  obtain ⟨hsp, hsel, hn, hs, hc, hseq⟩ := extOk_spec hB
  have hn' : n < l.length := by simpa using hn
  have htl : (l.take n).length = n := by simp; omega
  have hdl : (l.drop n).length = l.toArray.size - n := by simp
  obtain ⟨c, _, hst, hK⟩ := steps_of_wpExt (ops := l.toArray) (al := al) (st := st) (a0 := a0) (l.take n) 0 (fun _ => undef) (fun j hj => by
    have hj' : j < n := by rw [htl] at hj; exact hj
    simp [hj']) (by simpa [actTo] using h)
  rw [htl, Nat.zero_add] at hst hK
  have hD : ∀ i j, i < n → j < n → i ≠ j → ∀ t, dstOf l.toArray i = some t → dstOf l.toArray j ≠ some t := fun i j hi hj hij t ht => by
    obtain ⟨_, _, _, h2, _⟩ := hsp j hj
    exact h2 i hi hij t ht
  have inv0 : RInv l.toArray w0.drew n al st zc Tz c a0 (Array.replicate l.toArray.size false) a0 w0.drew (fun _ => undef) :=
    ⟨⟨by simp, fun j oj _ hl => (by rw [getD_replicate_false] at hl; cases hl), fun t _ ht => getD_in (by simpa using ht) (getD_replicate_false _ _)⟩,
      rfl, rfl, fun j _ hl => (by rw [getD_replicate_false] at hl; cases hl), fun _ _ => rfl, fun j _ hl => (by rw [getD_replicate_false] at hl; cases hl), Below.refl _ _, fun i _ hl => (by rw [getD_replicate_false] at hl; cases hl)⟩
  refine wp_region_any hm ?_
  have key := wpAny_ext (P := P) (Q := Q) (g := l.toArray.size - n) hsel hn (by omega) hs hc hsp (fun j hj => hst j (Nat.zero_le _) hj) (fun k hk => (halloc k hk).2) hstore (fun a w vs hR => ?_) n _ a0 w0.drew _ (cntU_le _ _) inv0
  · rw [show n + (l.toArray.size - n) = l.toArray.size by omega] at key
    exact key
  · have hall : ∀ j, j < n → ((List.replicate n true ++ List.replicate (l.toArray.size - n) false).toArray).getD j false = true := fun j hj => by
      simp [List.getElem?_append, hj]
    have ha := hR.end_ hall hD
    have hseq' := wpAny_of_seq (P := P) (ops := l.toArray) (md := .any) (Q' := Q) (l.drop n) n ((List.replicate n true ++ List.replicate (l.toArray.size - n) false).toArray) a w (fun j => by simp [List.getElem?_drop]) (by rw [hdl]; exact hseq) ?_
    · rwa [hdl] at hseq'
    · have hw := hK w hR.below
      cases al with
      | none => simp only [endAct] at ha; rw [ha]; exact hw
      | some i =>
        have hin := (halloc i rfl).1
        simp only [endAct, if_pos hin] at ha
        obtain ⟨B, hv, hB1, hB2⟩ := hR.blk i rfl (hall i hin)
        rw [ha, hv]
        refine hw B hB1 ?_
        have hcx : contX st zc ((List.replicate n true ++ List.replicate (l.toArray.size - n) false).toArray) = endC st zc := by
          cases st with
          | none => rfl
          | some s => simp only [contX, endC]; rw [if_pos (hall s.at_ (hstore s rfl).1)]
        rw [hcx] at hB2
        exact hB2

/-- The same walk, that nothing unfolds by itself. -/
inductive WpExt (P : Program) (ops : Array Oper) (W0 : World) (al : Option Nat) (st : Option StOp) (KE : Act → Prop) : Nat → List Oper → Act → Prop
  | nil (k : Nat) (a : Act) (h : KE a) : WpExt P ops W0 al st KE k [] a
  | pass (k : Nat) (o : Oper) (rest : List Oper) (a : Act) (hal : al = some k) (h : WpExt P ops W0 al st KE (k + 1) rest a) : WpExt P ops W0 al st KE k (o :: rest) a
  | store (k : Nat) (o : Oper) (rest : List Oper) (a : Act) (hal : al ≠ some k) (hst : st.map (·.at_) = some k) (hv : ∀ s, st = some s → a.tmps[s.tv]? = some (.agg s.nc)) (h : WpExt P ops W0 al st KE (k + 1) rest (a.put o.dst undef)) : WpExt P ops W0 al st KE k (o :: rest) a
  | step (k : Nat) (o : Oper) (rest : List Oper) (a : Act) (v : Value) (hal : al ≠ some k) (hst : st.map (·.at_) ≠ some k) (hw : Region.wanted o (yielded ops a.tmps) = true)
      (hq : ∀ w, Below W0.heap.size W0 w → extUpon P w v ((execOp a.eval o).run P w)) (h : WpExt P ops W0 al st KE (k + 1) rest (a.put o.dst v)) : WpExt P ops W0 al st KE k (o :: rest) a
  | skip (k : Nat) (o : Oper) (rest : List Oper) (a : Act) (hal : al ≠ some k) (hst : st.map (·.at_) ≠ some k) (hw : Region.wanted o (yielded ops a.tmps) = false) (h : WpExt P ops W0 al st KE (k + 1) rest (a.put o.dst undef)) : WpExt P ops W0 al st KE k (o :: rest) a
theorem WpExt.out {W0 : World} {al : Option Nat} {st : Option StOp} {KE : Act → Prop} {k : Nat} {l : List Oper} {a : Act} (h : WpExt P ops W0 al st KE k l a) : wpExt P ops W0 al st KE k l a := by
  induction h with
  | nil k a h => exact h
  | pass k o rest a hal h ih => simp only [wpExt]; rw [if_pos hal]; exact ih
  | store k o rest a hal hst hv h ih => simp only [wpExt]; rw [if_neg hal, if_pos hst]; exact ⟨hv, ih⟩
  | step k o rest a v hal hst hw hq h ih => simp only [wpExt]; rw [if_neg hal, if_neg hst, if_pos hw]; exact ⟨v, hq, ih⟩
  | skip k o rest a hal hst hw h ih => simp only [wpExt]; rw [if_neg hal, if_neg hst, if_neg (by rw [hw]; exact Bool.false_ne_true)]; exact ih
theorem extUpon_value {w w' : World} {u v : Value} (h1 : w' = w) (h2 : u = v) : extUpon P w v (.ok (.value u) w') := ⟨h1, h2⟩
theorem extUpon_enter {w : World} {v : Value} {f : FuncId} {args : Array Value} (h : Calls P f args w (fun e w'' => e = .returned v ∧ Below w.heap.size w w'')) : extUpon P w v (.ok (.enter f args) w) := ⟨rfl, h⟩
theorem quiet_below {f : FuncId} {args : Array Value} {w : World} {v : Value} (h : Calls P f args w fun e w' => e = .returned v ∧ w = w') : Calls P f args w (fun e w'' => e = .returned v ∧ Below w.heap.size w w'') :=
  h.mono fun _ _ ⟨he, hw⟩ => ⟨he, hw ▸ Below.refl _ _⟩

/-- The same, the end behind a variable. -/
theorem wp_region_ext' {id : Nat} {l : List Oper} {Q : Exit → Act → World → Prop} {a0 : Act} {w0 : World} (n : Nat) (al : Option Nat) (st : Option StOp) (zc : Array Value) (Tz : TypeId) (hm : P.follows .mixedOrders = true) (hB : extOk l.toArray n al (st.map (·.at_)) = true)
    (halloc : ∀ k, al = some k → k < n ∧ ∃ o, l.toArray[k]? = some o ∧ o.guard = none ∧ ∀ ρ w, (execOp ρ o).run P w = .ok (.value (.pointer (some ⟨w.heap.size, 0, none⟩))) (w.alloc (.cells zc Tz)))
    (hstore : StoreOk P l.toArray n al zc Tz a0.tmps.size st)
    (h : ∀ KE : Act → Prop, (∀ a, (∀ w' : World, Below w0.heap.size w0 w' → TailX P l.toArray Q (l.drop n) w0.heap.size (endC st zc) Tz al a w') → KE a) → ∀ W0 : World, (∀ w', Below W0.heap.size W0 w' → Below w0.heap.size w0 w') → WpExt P l.toArray W0 al st KE 0 (l.take n) a0) :
    (Code.region id l.toArray true).wp P Q a0 w0 :=
  wp_region_ext n al st zc Tz hm hB halloc hstore (h _ (fun a ha w' hB => ha w' ⟨hB.os, hB.tape, hB.output, hB.size, hB.block⟩) w0.drew (fun w' hB => ⟨hB.os, hB.tape, hB.output, hB.size, hB.block⟩)).out

end
end Go.Proofs.Ytadkfceacnegaaa
